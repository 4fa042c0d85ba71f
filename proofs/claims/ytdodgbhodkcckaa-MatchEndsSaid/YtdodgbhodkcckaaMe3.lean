/- A part of the proof: the machine of plain values and walks of functions. -/
import Derived.ChangeKeysEq
import Derived.ChangeArms
import Derived.WideShapes
import Derived.ProofKit
import Derived.Test.YtdodgbhodkcckaaProg
import Derived.Test.YtdodgbhodkcckaaRows
import Derived.Test.YtdodgbhodkcckaaChecked
import Derived.KernelRfl
import Derived.Test.YtdodgbhodkcckaaMe2
section
section
set_option linter.unusedVariables false
set_option linter.unusedSectionVars false
set_option linter.unusedSimpArgs false
set_option autoImplicit false
namespace Go.Proofs.Ytdodgbhodkcckaa.Pv
open Go Go.RowKit
def Holds (n : Nat) (E : Env) (S0 : Nat → Nat → Prop) (φ0 : Nat → Nat → Option (Nat × Nat)) (st : St) (a : Act) (w : World) : Prop :=
  a.tmps.size = n ∧ 8 ≤ st.next ∧ ∃ φ S, Rst E S φ st a w ∧ (∀ k v, S k v → k < st.next) ∧ Since S0 φ0 S φ
def Pwp (P : Program) (n : Nat) (c : Code) (Q : Exit → St → Prop) (st : St) : Prop :=
  ∀ E S0 φ0 a w, Holds n E S0 φ0 st a w → c.wp P (fun e a w => ∃ st', Holds n E S0 φ0 st' a w ∧ Q e st') a w
def thenS (K : St → Prop) (Q : Exit → St → Prop) : Exit → St → Prop
  | .normal, st => K st
  | e, st => Q e st
def blockS (id : Nat) (Q : Exit → St → Prop) : Exit → St → Prop
  | .exit id', st => if id' = id then Q .normal st else Q (.exit id') st
  | e, st => Q e st
def Sub (n : Nat) (s t : St) : Prop := ∀ E S0 φ0 a w, Holds n E S0 φ0 s a w → Holds n E S0 φ0 t a w
theorem Sub.refl (n : Nat) (s : St) : Sub n s s := fun _ _ _ _ _ h => h
theorem Sub.trans {n : Nat} {s t u : St} (h : Sub n s t) (k : Sub n t u) : Sub n s u := fun E S0 φ0 a w hh => k E S0 φ0 a w (h E S0 φ0 a w hh)
def opsFit (n : Nat) (ops : List Oper) : Bool := ops.all fun o => match o.dst with
  | some d => decide (d < n)
  | none => true
theorem opsFit_spec {n : Nat} {ops : List Oper} (h : opsFit n ops = true) : ∀ o ∈ ops, ∀ d, o.dst = some d → d < n := by
  intro o ho d hd
  have := List.all_eq_true.1 h o ho
  rw [hd] at this
  simpa using this
section
variable {P : Program} {n : Nat} {Q : Exit → St → Prop} {st : St}
theorem Pwp.mono {c : Code} {Q' : Exit → St → Prop} (h : Pwp P n c Q st) (hq : ∀ e s, Q e s → Q' e s) : Pwp P n c Q' st :=
  fun E S0 φ0 a w hh => wp_mono (h E S0 φ0 a w hh) fun e a w ⟨s, h1, h2⟩ => ⟨s, h1, hq e s h2⟩
theorem Pwp.sub {c : Code} {s : St} (h : Sub n st s) (hs : Pwp P n c Q s) : Pwp P n c Q st := fun E S0 φ0 a w hh => hs E S0 φ0 a w (h E S0 φ0 a w hh)
theorem Pwp.skip (h : Q .normal st) : Pwp P n .skip Q st := fun E S0 φ0 a w hh => wp_skip ⟨st, hh, h⟩
theorem Pwp.ret (h : Q .ret st) : Pwp P n .ret Q st := fun E S0 φ0 a w hh => wp_ret ⟨st, hh, h⟩
theorem Pwp.exit {id : Nat} (h : Q (.exit id) st) : Pwp P n (.exit id) Q st := fun E S0 φ0 a w hh => wp_exit ⟨st, hh, h⟩
theorem Pwp.seq {x y : Code} (h : Pwp P n x (thenS (Pwp P n y Q) Q) st) : Pwp P n (.seq x y) Q st := by
  intro E S0 φ0 a w hh
  refine wp_seq (wp_mono (h E S0 φ0 a w hh) ?_)
  rintro e a w ⟨s, h1, h2⟩
  cases e with
  | normal => exact h2 E S0 φ0 a w h1
  | _ => exact ⟨s, h1, h2⟩
theorem Pwp.block {id : Nat} {c : Code} (h : Pwp P n c (blockS id Q) st) : Pwp P n (.block id c) Q st := by
  intro E S0 φ0 a w hh
  refine wp_block (wp_mono (h E S0 φ0 a w hh) ?_)
  rintro e a w ⟨s, h1, h2⟩
  cases e with
  | exit id' =>
    simp only [Exit.inBlock, blockS] at h2 ⊢
    split
    · rename_i e; rw [if_pos e] at h2; exact ⟨s, h1, h2⟩
    · rename_i e; rw [if_neg e] at h2; exact ⟨s, h1, h2⟩
  | _ => exact ⟨s, h1, h2⟩
theorem Pwp.cond {c : Operand} {x y : Code} {b : Bool} (hc : asBool (st.evs c) = some b) (hg : st.gds [c]) (ht : b = true → Pwp P n x Q st) (hf : b = false → Pwp P n y Q st) : Pwp P n (.cond c x y) Q st := by
  intro E S0 φ0 a w hh
  obtain ⟨h1, h2, φ, S, h3, h4, h5⟩ := hh
  exact wp_cond_split (asBool_rep hc (h3.evs c (gds_mem hg c (by simp))).2) (fun e => ht e E S0 φ0 a w ⟨h1, h2, φ, S, h3, h4, h5⟩) (fun e => hf e E S0 φ0 a w ⟨h1, h2, φ, S, h3, h4, h5⟩)
theorem Pwp.loop {c : Code} (I : Nat → St → Prop) (k : Nat) {s : St} (h0 : Sub n st s) (hI : I k s) (round : ∀ k s, I k s → Pwp P n c (thenS (fun s' => ∃ k' t, k' < k ∧ Sub n s' t ∧ I k' t) Q) s) : Pwp P n (.loop c) Q st := by
  intro E S0 φ0 a w hh
  have hpost : ∀ k s, I k s → ∀ a w, Holds n E S0 φ0 s a w → c.wp P (Exit.then (fun a w => ∃ k' t, k' < k ∧ I k' t ∧ Holds n E S0 φ0 t a w) (fun e a w => ∃ st', Holds n E S0 φ0 st' a w ∧ Q e st')) a w := by
    intro k s hi a w hs
    refine wp_mono (round k s hi E S0 φ0 a w hs) ?_
    rintro e a w ⟨s', h1, h2⟩
    cases e with
    | normal =>
      obtain ⟨k', t, h3, h4, h5⟩ := h2
      exact ⟨k', t, h3, h5, h4 E S0 φ0 a w h1⟩
    | _ => exact ⟨s', h1, h2⟩
  intro b kk cs
  have key : ∀ k s, I k s → ∀ a w, Holds n E S0 φ0 s a w → ∃ e a' w', (∃ st', Holds n E S0 φ0 st' a' w' ∧ Q e st') ∧ Arrives P (lone (b.at a (.code c :: .inLoop c :: kk)) cs w) b kk cs e a' w' := by
    intro k
    induction k using Nat.strongRecOn with
    | _ k ih =>
      intro s hi a w hs
      obtain ⟨e, a₁, w₁, hq, harr⟩ := hpost k s hi a w hs b (.inLoop c :: kk) cs
      cases e with
      | normal =>
        obtain ⟨k', t, h1, h2, h3⟩ := hq
        obtain ⟨e₂, a₂, w₂, hq₂, harr₂⟩ := ih k' h1 t h2 a₁ w₁ h3
        exact ⟨e₂, a₂, w₂, hq₂, .of_steps (Steps.trans harr (.one step_inLoop)) harr₂⟩
      | exit id => exact ⟨_, a₁, w₁, hq, .pass (x := .inLoop c) rfl (fun _ _ => .inl (by simp)) harr⟩
      | goto l => exact ⟨_, a₁, w₁, hq, .pass (x := .inLoop c) rfl (fun _ _ => .inl (by simp)) harr⟩
      | ret => exact ⟨_, a₁, w₁, hq, .pass (x := .inLoop c) rfl (fun _ _ => .inl (by simp)) harr⟩
      | panic ch => exact ⟨_, a₁, w₁, hq, .pass (x := .inLoop c) rfl (fun _ _ => .inl (by simp)) harr⟩
      | outgrown => exact ⟨_, a₁, w₁, hq, .pass (x := .inLoop c) rfl (fun _ _ => .inl (by simp)) harr⟩
  obtain ⟨e, a', w', hq, harr⟩ := key k s hI a w (h0 E S0 φ0 a w hh)
  exact ⟨e, a', w', hq, .of_steps (.one step_loop) harr⟩
section
variable {T : Nat → Option TI} {eqt : Nat → Option (List CK)} (hk : Kit P T eqt)
include hk
theorem Pwp.region {id : Nat} {ops : Array Oper} (hf : opsFit n ops.toList = true) (h : opsP P T eqt ops.toList ops.size st.next 0 ops.toList st (Q .normal)) : Pwp P n (.region id ops false) Q st := by
  intro E S0 φ0 a w hh
  obtain ⟨h1, h2, φ, S, h3, h4, h5⟩ := hh
  refine wp_region ?_
  have hb := ops_run (K := Q .normal) hk (n := n) (base := st.next) (E := E) (Q := fun e a w => ∃ st', Holds n E S0 φ0 st' a w ∧ Q e st') (opsFit_spec hf) (S0 := S0) (φ0 := φ0) h2 (fun s a w S φ g1 g2 g3 g4 g5 g6 => ⟨s, ⟨g5, g4, φ, S, g1, g2, g3⟩, g6⟩)
    ops.toList 0 st a w S φ (Nat.zero_le _) rfl h3 (fun k v hs => .inl (h4 k v hs)) h5 h1 h
  rw [List.range_eq_range']; simpa using hb
theorem Pwp.drawn {id : Nat} {ops : Array Oper} (hm : P.follows .mixedOrders = true) (hf : opsFit n ops.toList = true) (h : opsD P T eqt ops.toList ops.size st.next 0 ops.toList st [] (fun s feet => orderOK ops feet = true ∧ Q .normal s)) : Pwp P n (.region id ops true) Q st := by
  intro E S0 φ0 a w hh
  obtain ⟨h1, h2, φ, S, h3, h4, h5⟩ := hh
  refine wp_region_any hm ?_
  obtain ⟨effs, feet, g1, g2, g3⟩ := opsD_pull (st0 := st) ops.toList 0 [] [] rfl (Nat.zero_le _) rfl rfl (fun j hj => by omega) h
  refine any_run hk (Q := fun e a w => ∃ st', Holds n E S0 φ0 st' a w ∧ Q e st') (opsFit_spec hf) g1 g2 (S0 := S0) (φ0 := φ0) h2
    (fun a w S φ q1 q2 q3 q4 => ⟨{ applyX ops effs st (fun _ => true) ops.size with next := st.next + 4 * ops.size }, ⟨q4, ?_, φ, S, q1.congr ⟨fun _ => rfl, fun _ => rfl⟩, q2, q3⟩, g3⟩) ops.size (Array.replicate ops.size false) a { w with drawn := w.drawn + 1 } S φ (by simp) ?_ ?_ ?_ ?_ h5 h1
  · show 8 ≤ st.next + 4 * ops.size
    omega
  · have : ∀ k, left (Array.replicate ops.size false) k ≤ k := by
      intro k
      induction k with
      | zero => exact Nat.le_refl _
      | succ k ih => simp only [left]; split <;> omega
    exact this _
  · intro i o ho hx
    exfalso
    have : (Array.replicate ops.size false).getD i false = false := by
      rw [Array.getD_eq_getD_getElem?, Array.getElem?_replicate]; split <;> rfl
    rw [this] at hx; cases hx
  · have : ∀ k, applyX ops effs st (fun i => (Array.replicate ops.size false).getD i false) k = st := by
      intro k
      induction k with
      | zero => rfl
      | succ k ih =>
        simp only [applyX]
        have : (Array.replicate ops.size false).getD k false = false := by
          rw [Array.getD_eq_getD_getElem?, Array.getElem?_replicate]; split <;> rfl
        simp only [this, Bool.false_eq_true, if_false]
        exact ih
    rw [this]
    exact h3.drew
  · exact fun k v hs => .inl (h4 k v hs)
end
end
end Go.Proofs.Ytdodgbhodkcckaa.Pv
end
section
set_option linter.unusedVariables false
set_option linter.unusedSectionVars false
set_option linter.unusedSimpArgs false
set_option autoImplicit false
namespace Go.Proofs.Ytdodgbhodkcckaa.Pv
open Go Go.RowKit
structure Turn where
  ρ : Nat → Nat
  τ : Nat → Option Nat
  A : List Nat
mutual
def viewP (V : Turn) (h : List (Nat × PObj)) (kept : List Nat) (N : Nat) (q : PVal) : PVal → Prop
  | .dead => True
  | .d y => (match q.toD h with
    | some x => subD x y ∧ disj q.ids kept = true
    | none => False)
  | .own k ver s off len => k < N ∧ (if V.A.contains k = true then q = pnil ∧ ver = 0 ∧ off = 0 ∧ len = 0 else match V.τ k with
    | some v => ver = 0 ∧ q = .own (V.ρ k) v s off len
    | none => q = .own (V.ρ k) ver s off len)
  | .ref k j => k < N ∧ V.A.contains k = false ∧ V.τ k = none ∧ q = .ref (V.ρ k) j
  | .refE k ver s i j => k < N ∧ V.A.contains k = false ∧ V.τ k = none ∧ q = .refE (V.ρ k) ver s i j
  | .mp k => k < N ∧ V.A.contains k = false ∧ V.τ k = none ∧ q = .mp (V.ρ k)
  | .agg ps => (match q with
    | .agg qs => viewL V h kept N qs ps
    | .d (.agg ds) => viewL V h kept N (ds.map .d) ps
    | _ => False)
  | .tup ps => (match q with
    | .tup qs => viewL V h kept N qs ps
    | .d (.tup ds) => viewL V h kept N (ds.map .d) ps
    | _ => False)
  | .clo f a b => (match q with
    | .clo f' a' b' => f' = f ∧ viewL V h kept N a' a ∧ viewL V h kept N b' b
    | _ => False)
  | .ifc t p => (match q with
    | .ifc t' q' => t' = t ∧ viewP V h kept N q' p
    | _ => False)
  | .gd _ _ => False
def viewL (V : Turn) (h : List (Nat × PObj)) (kept : List Nat) (N : Nat) (qs : List PVal) : List PVal → Prop
  | [] => qs = []
  | p :: ps => (match qs with
    | [] => False
    | q :: qs => viewP V h kept N q p ∧ viewL V h kept N qs ps)
end
def viewO (V : Turn) (h : List (Nat × PObj)) (kept : List Nat) (N : Nat) (k : Nat) (o' o : PObj) : Prop := match o, o' with
  | .box ps, .box qs => V.τ k = none ∧ viewL V h kept N qs ps
  | .arr e s ver room els, .arr e' s' ver' room' els' => e' = e ∧ s' = s ∧ els' = els ∧ (room = none ∨ room' = room) ∧ (match V.τ k with
    | some v => ver = 0 ∧ ver' = v
    | none => ver' = ver)
  | .map es, .map es' => V.τ k = none ∧ es' = es
  | .map es, .mapg es' _ _ => V.τ k = none ∧ es' = es
  | .mapg es b c, .mapg es' b' c' => V.τ k = none ∧ es' = es ∧ b' = b ∧ c' = c
  | .iter m c l, .iter m' c' l' => V.τ k = none ∧ (m < N ∧ V.A.contains m = false ∧ V.τ m = none ∧ m' = V.ρ m) ∧ c' = c ∧ l' = l
  | .siter c l, .siter c' l' => V.τ k = none ∧ c' = c ∧ l' = l
  | _, _ => False
def viewT (V : Turn) (s : St) (kept : List Nat) (N : Nat) : List (Nat × PVal) → Prop
  | [] => True
  | (i, p) :: l => viewP V s.heap kept N (s.ev (.tmp i)) p ∧ viewT V s kept N l
def viewH (V : Turn) (s : St) (kept : List Nat) (N : Nat) : List (Nat × PObj) → Prop
  | [] => True
  | (k, o) :: l => (k < N ∧ (if V.A.contains k = true then (8 ≤ k ∧ match o with | .arr _ _ 0 none [] => True | _ => False) else match find (V.ρ k) s.heap with
    | some o' => viewO V s.heap kept N k o' o
    | none => False)) ∧ viewH V s kept N l
def Turn.S (V : Turn) (S : Nat → Nat → Prop) (N : Nat) : Nat → Nat → Prop := fun k v => k < N ∧ (if V.A.contains k = true then v = 0 else match V.τ k with
  | some v0 => v = 0 ∧ S (V.ρ k) v0
  | none => S (V.ρ k) v)
def Turn.φ (V : Turn) (φ : Nat → Nat → Option (Nat × Nat)) : Nat → Nat → Option (Nat × Nat) := fun k v => if V.A.contains k = true then none else match V.τ k with
  | some v0 => φ (V.ρ k) v0
  | none => φ (V.ρ k) v
section
variable {E : Env} {S : Nat → Nat → Prop} {φ : Nat → Nat → Option (Nat × Nat)} {w : World} {O O' : Nat → Prop} {h : List (Nat × PObj)} {V : Turn} {kept : List Nat} {N : Nat}
mutual
theorem viewP_rep (hobj : ∀ id o, find id h = some o → ORep w O φ id o ∧ ∀ b, blk φ id o = some b → b < w.heap.size) (hO : ∀ b, O' b → O b) (hfree : ∀ i o b, i ∉ kept → find i h = some o → blk φ i o = some b → ¬ O' b) :
    ∀ (p q : PVal) (c : Value), viewP V h kept N q p → q.und S → PRep w O φ q c → p.und (V.S S N) ∧ PRep w O' (V.φ φ) p c
  | .dead, q, c, _, _, _ => by simp only [PVal.und, PRep, and_self]
  | .d y, q, c, hv, hu, hr => by
    simp only [viewP] at hv
    split at hv
    · rename_i x hx
      simp only [PVal.und, PRep]
      refine ⟨trivial, subD_rep x y c hv.1 (toD_rep hobj hO q x c hx (fun i o b hi ho hb => hfree i o b (disj_spec hv.2 hi) ho hb) hr)⟩
    · exact hv.elim
  | .own k ver s off len, q, c, hv, hu, hr => by
    simp only [viewP] at hv
    obtain ⟨hk, hv⟩ := hv
    simp only [PVal.und, PRep, Turn.S, Turn.φ]
    split at hv
    · rename_i hA
      obtain ⟨rfl, rfl, rfl, rfl⟩ := hv
      simp only [PRep, DRep] at hr
      rw [if_pos hA, if_pos hA]
      exact ⟨⟨hk, rfl⟩, .inl ⟨rfl, rfl, rfl, hr⟩⟩
    · rename_i hA
      split at hv
      · rename_i v hτ
        obtain ⟨rfl, rfl⟩ := hv
        simp only [PRep, PVal.und] at hr hu
        simp only [hk, hA, hτ, hu, Bool.false_eq_true, if_false, true_and, and_self]
        exact hr
      · rename_i hτ
        subst hv
        simp only [PRep, PVal.und] at hr hu
        simp only [hk, hA, hτ, hu, Bool.false_eq_true, if_false, true_and]
        exact hr
  | .ref k j, q, c, hv, hu, hr => by
    simp only [viewP] at hv
    obtain ⟨hk, hA, hτ, rfl⟩ := hv
    simp only [PVal.und, PRep, Turn.S, Turn.φ] at hu hr ⊢
    simp only [hk, hA, hτ, hu, Bool.false_eq_true, if_false, true_and]
    exact hr
  | .refE k ver s i j, q, c, hv, hu, hr => by
    simp only [viewP] at hv
    obtain ⟨hk, hA, hτ, rfl⟩ := hv
    simp only [PVal.und, PRep, Turn.S, Turn.φ] at hu hr ⊢
    simp only [hk, hA, hτ, hu, Bool.false_eq_true, if_false, true_and]
    exact hr
  | .mp k, q, c, hv, hu, hr => by
    simp only [viewP] at hv
    obtain ⟨hk, hA, hτ, rfl⟩ := hv
    simp only [PVal.und, PRep, Turn.S, Turn.φ] at hu hr ⊢
    simp only [hk, hA, hτ, hu, Bool.false_eq_true, if_false, true_and]
    exact hr
  | .agg ps, q, c, hv, hu, hr => by
    simp only [viewP] at hv
    split at hv
    · simp only [PVal.und, PRep] at hu hr ⊢
      obtain ⟨cs, e, hr⟩ := hr
      obtain ⟨h1, h2⟩ := viewL_rep hobj hO hfree ps _ cs hv hu hr
      exact ⟨h1, cs, e, h2⟩
    · simp only [PRep, DRep, PVal.und] at hr ⊢
      obtain ⟨cs, e, hr⟩ := hr
      obtain ⟨h1, h2⟩ := viewL_rep hobj hO hfree ps _ cs hv (undL_ds _ _) (PRepL.ds hr)
      exact ⟨h1, cs, e, h2⟩
    · exact hv.elim
  | .tup ps, q, c, hv, hu, hr => by
    simp only [viewP] at hv
    split at hv
    · simp only [PVal.und, PRep] at hu hr ⊢
      obtain ⟨cs, e, hr⟩ := hr
      obtain ⟨h1, h2⟩ := viewL_rep hobj hO hfree ps _ cs hv hu hr
      exact ⟨h1, cs, e, h2⟩
    · simp only [PRep, DRep, PVal.und] at hr ⊢
      obtain ⟨cs, e, hr⟩ := hr
      obtain ⟨h1, h2⟩ := viewL_rep hobj hO hfree ps _ cs hv (undL_ds _ _) (PRepL.ds hr)
      exact ⟨h1, cs, e, h2⟩
    · exact hv.elim
  | .clo f a b, q, c, hv, hu, hr => by
    simp only [viewP] at hv
    split at hv
    · obtain ⟨rfl, ha, hb⟩ := hv
      simp only [PVal.und, PRep] at hu hr ⊢
      obtain ⟨x, y, e, r1, r2⟩ := hr
      obtain ⟨h1, h2⟩ := viewL_rep hobj hO hfree a _ x ha hu.1 r1
      obtain ⟨h3, h4⟩ := viewL_rep hobj hO hfree b _ y hb hu.2 r2
      exact ⟨⟨h1, h3⟩, x, y, e, h2, h4⟩
    · exact hv.elim
  | .ifc t p, q, c, hv, hu, hr => by
    simp only [viewP] at hv
    split at hv
    · obtain ⟨rfl, hv⟩ := hv
      simp only [PVal.und, PRep] at hu hr ⊢
      obtain ⟨x, e, hr⟩ := hr
      obtain ⟨h1, h2⟩ := viewP_rep hobj hO hfree p _ x hv hu hr
      exact ⟨h1, x, e, h2⟩
    · exact hv.elim
  | .gd _ _, q, c, hv, _, _ => by simp only [viewP] at hv
theorem viewL_rep (hobj : ∀ id o, find id h = some o → ORep w O φ id o ∧ ∀ b, blk φ id o = some b → b < w.heap.size) (hO : ∀ b, O' b → O b) (hfree : ∀ i o b, i ∉ kept → find i h = some o → blk φ i o = some b → ¬ O' b) :
    ∀ (ps qs : List PVal) (cs : List Value), viewL V h kept N qs ps → undL S qs → PRepL w O φ qs cs → undL (V.S S N) ps ∧ PRepL w O' (V.φ φ) ps cs
  | [], qs, cs, hv, _, hr => by simp only [viewL] at hv; subst hv; simp only [PRepL, undL] at *; exact ⟨trivial, hr⟩
  | p :: ps, qs, cs, hv, hu, hr => by
    simp only [viewL] at hv
    split at hv
    · exact hv.elim
    · simp only [undL, PRepL] at hu hr ⊢
      obtain ⟨c, cs', e, r1, r2⟩ := hr
      obtain ⟨h1, h2⟩ := viewP_rep hobj hO hfree p _ c hv.1 hu.1 r1
      obtain ⟨h3, h4⟩ := viewL_rep hobj hO hfree ps _ cs' hv.2 hu.2 r2
      exact ⟨⟨h1, h3⟩, c, cs', e, h2, h4⟩
end
end
theorem viewT_get {V : Turn} {s : St} {kept : List Nat} {N : Nat} : ∀ {l : List (Nat × PVal)} {i : Nat} {p : PVal}, viewT V s kept N l → find i l = some p → viewP V s.heap kept N (s.ev (.tmp i)) p
  | [], i, p, _, hf => by simp [find] at hf
  | (j, x) :: l, i, p, h, hf => by
    simp only [viewT] at h
    simp only [find] at hf
    split at hf
    · rename_i e; subst e; cases hf; exact h.1
    · exact viewT_get h.2 hf
theorem viewH_get {V : Turn} {s : St} {kept : List Nat} {N : Nat} : ∀ {l : List (Nat × PObj)} {k : Nat} {o : PObj}, viewH V s kept N l → find k l = some o → k < N ∧ (if V.A.contains k = true then (8 ≤ k ∧ match o with | .arr _ _ 0 none [] => True | _ => False) else match find (V.ρ k) s.heap with
    | some o' => viewO V s.heap kept N k o' o
    | none => False)
  | [], i, p, _, hf => by simp [find] at hf
  | (j, x) :: l, i, p, h, hf => by
    simp only [viewH] at h
    simp only [find] at hf
    split at hf
    · rename_i e; subst e; cases hf; exact h.1
    · exact viewH_get h.2 hf
def keptOf (V : Turn) (t : St) : List Nat := (t.heap.map (·.1)).map V.ρ
def turnOK (V : Turn) (ks : List Nat) : Bool := (List.range 8).all (fun k => V.ρ k == k && V.τ k == none && !V.A.contains k) && ks.all fun k => V.A.contains k || ks.all fun k' => V.A.contains k' || k == k' || V.ρ k != V.ρ k'
theorem view_run {E : Env} {S : Nat → Nat → Prop} {φ : Nat → Nat → Option (Nat × Nat)} {s t : St} {a : Act} {w : World} (V : Turn) (hr : Rst E S φ s a w) (hinj : ∀ k k', k ∈ t.heap.map (·.1) → k' ∈ t.heap.map (·.1) → V.A.contains k = false → V.A.contains k' = false → V.ρ k = V.ρ k' → k = k')
    (hh : viewH V s (keptOf V t) t.next t.heap) (ht : viewT V s (keptOf V t) t.next t.tmps) : Rst E (V.S S t.next) (V.φ φ) t a w := by
  have hfacts : ∀ k o, find k t.heap = some o → V.A.contains k = false → k < t.next ∧ ∃ o', find (V.ρ k) s.heap = some o' ∧ viewO V s.heap (keptOf V t) t.next k o' o := by
    intro k o ho hA
    obtain ⟨h1, h2⟩ := viewH_get hh ho
    rw [hA] at h2
    simp only [Bool.false_eq_true, if_false] at h2
    split at h2
    · rename_i o' ho'; exact ⟨h1, o', ho', h2⟩
    · exact h2.elim
  have hnil : ∀ k o, find k t.heap = some o → V.A.contains k = true → k < t.next ∧ ∃ e sz, o = .arr e sz 0 none [] := by
    intro k o ho hA
    obtain ⟨h1, h2⟩ := viewH_get hh ho
    rw [hA] at h2
    simp only [if_true] at h2
    obtain ⟨_, h2⟩ := h2
    split at h2
    · exact ⟨h1, _, _, rfl⟩
    · exact h2.elim
  have hver : ∀ k o o', viewO V s.heap (keptOf V t) t.next k o' o → (match V.τ k with | some v => o.ver = 0 ∧ o'.ver = v | none => o'.ver = o.ver) := by
    intro k o o' hv
    unfold viewO at hv
    split at hv
    · rw [hv.1]; rfl
    · exact hv.2.2.2.2
    · rw [hv.1]; rfl
    · rw [hv.1]; rfl
    · rw [hv.1]; rfl
    · rw [hv.1]; rfl
    · rw [hv.1]; rfl
    · exact hv.elim
  have hblk : ∀ k o o', V.A.contains k = false → viewO V s.heap (keptOf V t) t.next k o' o → blk (V.φ φ) k o = blk φ (V.ρ k) o' := by
    intro k o o' hA hv
    unfold viewO at hv
    split at hv
    · simp only [blk, Turn.φ, hA, hv.1, Bool.false_eq_true, if_false]
    · obtain ⟨_, _, _, _, hv⟩ := hv
      simp only [blk, Turn.φ, hA, Bool.false_eq_true, if_false]
      split at hv
      · rename_i v hτ; obtain ⟨rfl, rfl⟩ := hv; simp only [hτ]
      · rename_i hτ; subst hv; simp only [hτ]
    · simp only [blk, Turn.φ, hA, hv.1, Bool.false_eq_true, if_false]
    · simp only [blk, Turn.φ, hA, hv.1, Bool.false_eq_true, if_false]
    · simp only [blk, Turn.φ, hA, hv.1, Bool.false_eq_true, if_false]
    · simp only [blk, Turn.φ, hA, hv.1, Bool.false_eq_true, if_false]
    · simp only [blk, Turn.φ, hA, hv.1, Bool.false_eq_true, if_false]
    · exact hv.elim
  have hblkA : ∀ k o, find k t.heap = some o → V.A.contains k = true → blk (V.φ φ) k o = none := by
    intro k o ho hA
    obtain ⟨_, e, sz, rfl⟩ := hnil k o ho hA
    simp only [blk, Turn.φ, hA, if_true, Option.map_none]
  have hO : ∀ b, Held E (V.φ φ) t.heap b → Held E φ s.heap b := by
    rintro b (hb | ⟨k, o, ho, hb⟩)
    · exact .inl hb
    · cases hA : V.A.contains k with
      | true => rw [hblkA k o ho hA] at hb; cases hb
      | false =>
        obtain ⟨_, o', ho', hv⟩ := hfacts k o ho hA
        exact .inr ⟨_, o', ho', by rw [← hblk k o o' hA hv]; exact hb⟩
  have hfree : ∀ i o b, i ∉ keptOf V t → find i s.heap = some o → blk φ i o = some b → ¬ Held E (V.φ φ) t.heap b := by
    rintro i o b hi ho hb (hx | ⟨k, o2, ho2, hb2⟩)
    · exact hr.notOut ho hb hx
    · cases hA : V.A.contains k with
      | true => rw [hblkA k o2 ho2 hA] at hb2; cases hb2
      | false =>
        obtain ⟨_, o', ho', hv⟩ := hfacts k o2 ho2 hA
        rw [hblk k o2 o' hA hv] at hb2
        have := hr.inj _ _ _ _ b ho ho' hb hb2
        exact hi (by rw [this]; exact List.mem_map.2 ⟨k, List.mem_map.2 ⟨(k, o2), mem_of_find ho2, rfl⟩, rfl⟩)
  refine { os := hr.os, tape := hr.tape, output := hr.output, size := hr.size, old := hr.old, defers := hr.defers, tmps := ?_, objs := ?_, inj := ?_ }
  · intro i p hp
    have he := hr.ev (.tmp i)
    exact viewP_rep hr.objs' hO hfree p _ _ (viewT_get ht hp) he.1 he.2
  · intro k o ho
    cases hA : V.A.contains k with
    | true =>
      obtain ⟨h1, e, sz, rfl⟩ := hnil k o ho hA
      refine ⟨?_, ?_, by simp only [PObj.und], ?_, ?_⟩
      · simp only [Turn.S]; rw [if_pos hA]; exact ⟨h1, rfl⟩
      · intro v hv; simp only [Turn.S, hA, if_true] at hv; simp [PObj.ver, hv.2]
      · intro b hb; rw [hblkA k _ ho hA] at hb; cases hb
      · simp only [ORep, Turn.φ]; rw [if_pos hA]; exact .inl ⟨rfl, trivial, by simp⟩
    | false =>
      obtain ⟨h1, o', ho', hv⟩ := hfacts k o ho hA
      obtain ⟨g1, g2, g3, g4, g5⟩ := hr.objs _ o' ho'
      have hvr := hver k o o' hv
      refine ⟨?_, ?_, ?_, ?_, ?_⟩
      · simp only [Turn.S, h1, hA, Bool.false_eq_true, if_false, true_and]
        split at hvr
        · rename_i v hτ; (try simp only [hτ]); exact ⟨hvr.1, hvr.2 ▸ g1⟩
        · rename_i hτ; (try simp only [hτ]); exact hvr ▸ g1
      · intro v hv2
        simp only [Turn.S, hA, Bool.false_eq_true, if_false] at hv2
        split at hvr
        · rename_i v0 hτ; simp only [hτ] at hv2; omega
        · rename_i hτ; simp only [hτ] at hv2; rw [← hvr]; exact g2 v hv2.2
      · cases o with
        | box ps =>
          cases o' with
          | box qs =>
            simp only [viewO] at hv
            simp only [PObj.und, ORep] at g3 g5 ⊢
            obtain ⟨b, m, cs, ty, q1, q2, q3⟩ := g5
            exact (viewL_rep hr.objs' hO hfree ps qs cs hv.2 g3 q3).1
          | _ => simp [viewO] at hv
        | iter m c l =>
          cases o' with
          | iter m' c' l' =>
            simp only [viewO] at hv
            obtain ⟨hτ, ⟨q1, q2, q3, rfl⟩, rfl, rfl⟩ := hv
            simp only [PObj.und] at g3 ⊢
            simp only [Turn.S, q1, q2, q3, Bool.false_eq_true, if_false, true_and]; exact g3
          | _ => simp [viewO] at hv
        | _ => simp only [PObj.und]
      · intro b hb; rw [hblk k o o' hA hv] at hb; exact g4 b hb
      · cases o with
        | box ps =>
          cases o' with
          | box qs =>
            simp only [viewO] at hv
            simp only [PObj.und, ORep] at g3 g5 ⊢
            obtain ⟨b, m, cs, ty, q1, q2, q3⟩ := g5
            refine ⟨b, m, cs, ty, ?_, q2, (viewL_rep hr.objs' hO hfree ps qs cs hv.2 g3 q3).2⟩
            simp only [Turn.φ, hA, hv.1, Bool.false_eq_true, if_false]; exact q1
          | _ => simp [viewO] at hv
        | arr e sz ver room els =>
          cases o' with
          | arr e' sz' ver' room' els' =>
            simp only [viewO] at hv
            obtain ⟨rfl, rfl, rfl, hroom, hv⟩ := hv
            have hφ : V.φ φ k ver = φ (V.ρ k) ver' := by
              simp only [Turn.φ, hA, Bool.false_eq_true, if_false]
              split at hv
              · rename_i v hτ; obtain ⟨rfl, rfl⟩ := hv; simp only [hτ]
              · rename_i hτ; subst hv; simp only [hτ]
            simp only [ORep] at g5 ⊢
            rw [hφ]
            rcases g5 with ⟨q1, q2, q3⟩ | ⟨b, m, cs, q1, q2, q3, q4, q5, q6, q7⟩
            · refine .inl ⟨q1, q2, fun n hn => ?_⟩
              rcases hroom with hx | hx
              · rw [hx] at hn; cases hn
              · exact q3 n (by rw [hx]; exact hn)
            · refine .inr ⟨b, m, cs, q1, q2, q3, fun n hn => ?_, q5, q6, DRepE.keep (Keeps.same _ w) (fun b _ hb => hO b hb) rfl _ _ q7⟩
              rcases hroom with hx | hx
              · rw [hx] at hn; cases hn
              · exact q4 n (by rw [hx]; exact hn)
          | _ => simp [viewO] at hv
        | map es =>
          cases o' with
          | map es' =>
            simp only [viewO] at hv
            obtain ⟨hτ, rfl⟩ := hv
            simp only [ORep] at g5 ⊢
            obtain ⟨b, m, ar, ck, q1, q2, q3, q4, q5⟩ := g5
            refine ⟨b, m, ar, ck, ?_, q2, DRepL.keep (Keeps.same _ w) (fun b _ hb => hO b hb) _ _ q3, DRepL.keep (Keeps.same _ w) (fun b _ hb => hO b hb) _ _ q4, q5⟩
            simp only [Turn.φ, hA, hτ, Bool.false_eq_true, if_false]; exact q1
          | mapg es' b' c' =>
            simp only [viewO] at hv
            obtain ⟨hτ, rfl⟩ := hv
            simp only [ORep] at g5 ⊢
            obtain ⟨b, m, ar, q1, q2, q3, q4, q5, _⟩ := g5
            refine ⟨b, m, ar, c', ?_, q2, DRepL.keep (Keeps.same _ w) (fun b _ hb => hO b hb) _ _ q3, DRepL.keep (Keeps.same _ w) (fun b _ hb => hO b hb) _ _ q4, q5⟩
            simp only [Turn.φ, hA, hτ, Bool.false_eq_true, if_false]; exact q1
          | _ => simp [viewO] at hv
        | mapg es bo ck =>
          cases o' with
          | mapg es' b' c' =>
            simp only [viewO] at hv
            obtain ⟨hτ, rfl, rfl, rfl⟩ := hv
            simp only [ORep] at g5 ⊢
            obtain ⟨b, m, ar, q1, q2, q3, q4, q5⟩ := g5
            refine ⟨b, m, ar, ?_, q2, DRepL.keep (Keeps.same _ w) (fun b _ hb => hO b hb) _ _ q3, DRepL.keep (Keeps.same _ w) (fun b _ hb => hO b hb) _ _ q4, q5⟩
            simp only [Turn.φ, hA, hτ, Bool.false_eq_true, if_false]; exact q1
          | _ => simp [viewO] at hv
        | iter m c l =>
          cases o' with
          | iter m' c' l' =>
            simp only [viewO] at hv
            obtain ⟨hτ, ⟨q1, q2, q3, rfl⟩, rfl, rfl⟩ := hv
            simp only [ORep] at g5 ⊢
            obtain ⟨b, n, bm, nm, k1, k2, k3⟩ := g5
            refine ⟨b, n, bm, nm, ?_, ?_, k3⟩
            · simp only [Turn.φ, hA, hτ, Bool.false_eq_true, if_false]; exact k1
            · simp only [Turn.φ, q2, q3, Bool.false_eq_true, if_false]; exact k2
          | _ => simp [viewO] at hv
        | siter c l =>
          cases o' with
          | siter c' l' =>
            simp only [viewO] at hv
            obtain ⟨hτ, rfl, rfl⟩ := hv
            simp only [ORep] at g5 ⊢
            obtain ⟨b, n, k1, k2⟩ := g5
            refine ⟨b, n, ?_, k2⟩
            simp only [Turn.φ, hA, hτ, Bool.false_eq_true, if_false]; exact k1
          | _ => simp [viewO] at hv
  · intro i j oi oj b hi hj hbi hbj
    cases hAi : V.A.contains i with
    | true => rw [hblkA i oi hi hAi] at hbi; cases hbi
    | false =>
      cases hAj : V.A.contains j with
      | true => rw [hblkA j oj hj hAj] at hbj; cases hbj
      | false =>
        obtain ⟨hi1, oi', hi2, hi3⟩ := hfacts i oi hi hAi
        obtain ⟨hj1, oj', hj2, hj3⟩ := hfacts j oj hj hAj
        rw [hblk i oi oi' hAi hi3] at hbi
        rw [hblk j oj oj' hAj hj3] at hbj
        exact hinj i j (List.mem_map.2 ⟨_, mem_of_find hi, rfl⟩) (List.mem_map.2 ⟨_, mem_of_find hj, rfl⟩) hAi hAj (hr.inj _ _ _ _ b hi2 hj2 hbi hbj)
theorem turnOK_spec {V : Turn} {ks : List Nat} (h : turnOK V ks = true) : (∀ k, k < 8 → V.ρ k = k ∧ V.τ k = none ∧ V.A.contains k = false) ∧ ∀ k k', k ∈ ks → k' ∈ ks → V.A.contains k = false → V.A.contains k' = false → V.ρ k = V.ρ k' → k = k' := by
  simp only [turnOK, Bool.and_eq_true, List.all_eq_true, List.mem_range, Bool.or_eq_true, beq_iff_eq, bne_iff_ne, Bool.not_eq_true'] at h
  refine ⟨fun k hk => ?_, fun k k' hk hk' hA hA' e => ?_⟩
  · obtain ⟨⟨h1, h2⟩, h3⟩ := h.1 k hk
    exact ⟨h1, h2, h3⟩
  · rcases h.2 k hk with h1 | h1
    · rw [hA] at h1; cases h1
    · rcases h1 k' hk' with (h2 | h2) | h2
      · rw [hA'] at h2; cases h2
      · exact h2
      · exact absurd e h2
theorem since_view {S S0 : Nat → Nat → Prop} {φ φ0 : Nat → Nat → Option (Nat × Nat)} {V : Turn} {N : Nat} (h8 : ∀ k, k < 8 → V.ρ k = k ∧ V.τ k = none ∧ V.A.contains k = false) (hN : 8 ≤ N) (h : Since S0 φ0 S φ) : Since S0 φ0 (V.S S N) (V.φ φ) := by
  refine ⟨fun k v hs => ?_, fun k v hs hk => ?_, h.zero⟩
  · have hk := h.zero k v hs
    obtain ⟨e1, e2, e3⟩ := h8 k hk
    obtain ⟨g1, g2⟩ := h.keep k v hs
    simp only [Turn.S, Turn.φ, e1, e2, e3, Bool.false_eq_true, if_false]
    exact ⟨⟨by omega, g1⟩, g2⟩
  · obtain ⟨e1, e2, e3⟩ := h8 k hk
    simp only [Turn.S, e1, e2, e3, Bool.false_eq_true, if_false] at hs
    exact h.low k v hs.2 hk
theorem Sub.view {n : Nat} {s t : St} (V : Turn) (hN : 8 ≤ t.next) (hok : turnOK V (t.heap.map (·.1)) = true) (hh : viewH V s (keptOf V t) t.next t.heap) (ht : viewT V s (keptOf V t) t.next t.tmps) : Sub n s t := by
  intro E S0 φ0 a w hs
  obtain ⟨h1, h2, φ, S, h3, h4, h5⟩ := hs
  obtain ⟨q1, q2⟩ := turnOK_spec hok
  exact ⟨h1, hN, V.φ φ, V.S S t.next, view_run V h3 q2 hh ht, fun k v hv => hv.1, since_view q1 hN h5⟩
end Go.Proofs.Ytdodgbhodkcckaa.Pv
end
section
set_option linter.unusedVariables false
set_option linter.unusedSectionVars false
set_option linter.unusedSimpArgs false
set_option autoImplicit false
namespace Go.Proofs.Ytdodgbhodkcckaa.Pv
open Go Go.RowKit
def resL (T : Nat → Option TI) (st : St) : List ResultVar → Option (List PVal × Prop)
  | [] => some ([], True)
  | r :: rs => match (match r with
      | .tmp t => some (st.evs (.tmp t), st.gds [.tmp t])
      | .cell a t => (loadP T st t (st.evs (.tmp a))).map fun p => (p, st.gds [.tmp a])), resL T st rs with
    | some (p, g), some (ps, gs) => some (p :: ps, g ∧ gs)
    | _, _ => none
def resP : List PVal → PVal
  | [p] => p
  | ps => .tup ps
def St.start (args : List PVal) (h : List (Nat × PObj)) : St := ⟨(List.range args.length).zip args, h, 8⟩
def Fin (T : Nat → Option TI) (rs : List ResultVar) (r : PVal) (h' : List (Nat × PObj)) (e : Exit) (st : St) : Prop := (e = .normal ∨ e = .ret) ∧ match resL T st rs with
  | some (ps, g) => g ∧ ∃ V : Turn, turnOK V (h'.map (·.1)) = true ∧ viewH V { st with tmps := [(0, resP ps)] } (keptOf V ⟨[(0, r)], h', 12⟩) 12 h' ∧ viewP V st.heap (keptOf V ⟨[(0, r)], h', 12⟩) 12 (resP ps) r
  | none => False
section
variable {P : Program} {T : Nat → Option TI} {eqt : Nat → Option (List CK)} (hk : Kit P T eqt) {E : Env} {S : Nat → Nat → Prop} {φ : Nat → Nat → Option (Nat × Nat)} {st : St} {a : Act} {w : World}
include hk in
theorem resL_run (h : Rst E S φ st a w) : ∀ {rs : List ResultVar} {ps : List PVal} {g : Prop}, resL T st rs = some (ps, g) → g →
    ∃ cs : List Value, (rs.mapM fun | ResultVar.tmp t => (pure (a.tmps.getD t undef) : Sem Value) | .cell ad t => do loadVar t (← asAddr (a.tmps.getD ad undef))).run P w = .ok cs w ∧ undL S ps ∧ PRepL w (Held E φ st.heap) φ ps cs
  | [], ps, g, hr, hg => by
    simp only [resL, Option.some.injEq, Prod.mk.injEq] at hr
    obtain ⟨rfl, rfl⟩ := hr
    exact ⟨[], by simp, by simp only [undL], by simp only [PRepL]⟩
  | r :: rs, ps, g, hr, hg => by
    simp only [resL] at hr
    split at hr
    · rename_i p g1 ps' g2 e1 e2
      simp only [Option.some.injEq, Prod.mk.injEq] at hr
      obtain ⟨rfl, rfl⟩ := hr
      obtain ⟨cs, h1, h2, h3⟩ := resL_run h e2 hg.2
      have one : ∃ c, (match r with | ResultVar.tmp t => (pure (a.tmps.getD t undef) : Sem Value) | .cell ad t => do loadVar t (← asAddr (a.tmps.getD ad undef))).run P w = .ok c w ∧ p.und S ∧ PRep w (Held E φ st.heap) φ p c := by
        cases r with
        | tmp t =>
          simp only [Option.some.injEq, Prod.mk.injEq] at e1
          obtain ⟨rfl, rfl⟩ := e1
          have := h.evs (.tmp t) (gds_mem hg.1 _ (by simp))
          exact ⟨_, by simp [Act.eval], this.1, this.2⟩
        | cell ad t =>
          obtain ⟨p', q1, q2⟩ := Option.map_eq_some_iff.1 e1
          simp only [Prod.mk.injEq] at q2
          obtain ⟨rfl, rfl⟩ := q2
          have := h.evs (.tmp ad) (gds_mem hg.1 _ (by simp))
          obtain ⟨v, r1, r2, r3⟩ := loadP_run hk h.objsOK q1 this.2
          refine ⟨v, ?_, r2, r3⟩
          have hp : ∃ b, a.tmps.getD ad undef = .pointer (some b) := by
            unfold loadP at q1
            have h2 := this.2
            simp only [Act.eval] at h2
            split at q1
            · cases q1
            · split at q1
              · split at q1
                · rename_i id k he; rw [he] at h2; simp only [PRep] at h2; obtain ⟨b, _, _, e⟩ := h2; exact ⟨_, e⟩
                · rename_i id ver s i k he; rw [he] at h2; simp only [PRep] at h2; obtain ⟨b, _, _, e⟩ := h2; exact ⟨_, e⟩
                · rename_i cells he; rw [he] at h2; simp only [PRep, DRep] at h2; obtain ⟨b, _, _, e, _⟩ := h2; exact ⟨_, e⟩
                · cases q1
              · cases q1
          obtain ⟨b, hb⟩ := hp
          simp only [Act.eval, hb, Instr.loadAt, Instr.sureAddr] at r1
          simp only [hb, asAddr]
          simpa using r1
      obtain ⟨c, q1, q2, q3⟩ := one
      refine ⟨c :: cs, ?_, by simp only [undL]; exact ⟨q2, h2⟩, by simp only [PRepL]; exact ⟨c, cs, rfl, q3, h3⟩⟩
      rw [List.mapM_cons, Sem.run_bind, q1]
      simp only [Result.andThen_ok]
      rw [Sem.run_bind, h1]
      simp
    · cases hr
theorem start_find {args : List PVal} {t : Nat} {p : PVal} : ∀ {k : Nat} {l : List PVal}, find t ((List.range' k l.length).zip l) = some p → ∃ i, t = k + i ∧ l[i]? = some p
  | k, [], h => by simp [find] at h
  | k, x :: l, h => by
    simp only [List.length_cons, List.range'_succ, List.zip_cons_cons, find] at h
    split at h
    · rename_i e; cases h; exact ⟨0, by omega, rfl⟩
    · obtain ⟨i, h1, h2⟩ := start_find (args := args) h
      exact ⟨i + 1, by omega, by simpa using h2⟩
include hk in
theorem Runs.of {f : FuncId} {fn : Func} {c : Code} {args : List PVal} {h : List (Nat × PObj)} {r : PVal} {h' : List (Nat × PObj)} (hf : P.funcs[f]? = some fn) (hn : (fn.name == "runtime.NumGoroutine") = false) (hb : fn.body = some c) (hl : args.length ≤ fn.ntmps)
    (hw : Pwp P fn.ntmps c (Fin T fn.results.toList r h') (.start args h)) : Runs P f args h r h' := by
  refine ⟨⟨fn, hf, hn, by rw [hb]; rfl⟩, ?_⟩
  intro E S φ cs hpass hS hr hu hx
  refine calls_of_wp hf hb ?_
  have hcl := hx.length
  have h0 : Holds fn.ntmps E S φ (.start args h) { tmps := cs.toArray ++ Array.replicate (fn.ntmps - cs.toArray.size) undef, defers := [] } E.w0 := by
    refine ⟨by simp; omega, Nat.le_refl _, φ, S, ?_, fun k v hs => hS k v hs, ⟨fun k v hs => ⟨hs, rfl⟩, fun k v hs _ => ⟨v, hs⟩, hS⟩⟩
    refine { hr with defers := rfl, tmps := ?_ }
    intro t p ht
    simp only [St.start] at ht ⊢
    rw [List.range_eq_range'] at ht
    obtain ⟨i, rfl, hi⟩ := start_find (args := []) ht
    refine ⟨undL_get hu hi, ?_⟩
    obtain ⟨v, h1, h2⟩ := hx.get hi
    have : (cs.toArray ++ Array.replicate (fn.ntmps - cs.toArray.size) undef).getD (0 + i) undef = v := by
      have hil := (List.getElem?_eq_some_iff.1 h1).1
      rw [Array.getD_eq_getD_getElem?, Nat.zero_add, Array.getElem?_append_left (by simpa using hil)]
      simp [h1]
    show PRep E.w0 (Held E φ h) φ p ((cs.toArray ++ Array.replicate (fn.ntmps - cs.toArray.size) undef).getD (0 + i) undef)
    rw [this]; exact h2
  refine wp_mono (hw E S φ _ _ h0) ?_
  rintro e a w ⟨s, ⟨g1, g2, φ1, S1, g3, g4, g5⟩, he, hfin⟩
  have key : ∃ v, (results fn a.tmps).run P w = .ok v w ∧ ∃ φ' S', Rst E S' φ' (.only h') Act.none w ∧ (∀ k v, S' k v → (∃ v', S k v') ∨ (8 ≤ k ∧ k < 12)) ∧ (∀ k v, S k v → S' k v ∧ φ' k v = φ k v) ∧ r.und S' ∧ PRep w (Held E φ' h') φ' r v := by
    split at hfin
    · rename_i ps g hres
      obtain ⟨hg, V, v1, v2, v3⟩ := hfin
      obtain ⟨cs', q1, q2, q3⟩ := resL_run hk g3 hres hg
      have hrun : (results fn a.tmps).run P w = .ok (if h : cs'.toArray.size = 1 then cs'.toArray[0] else .tuple cs'.toArray) w := by
        unfold results
        rw [Array.mapM_eq_mapM_toList]
        simp only [Sem.run_bind, Sem.run_map, Sem.run_pure]
        exact (congrArg (fun z => Result.andThen (Result.andThen z fun a w' => .ok a.toArray w') fun a w' => .ok (if h : a.size = 1 then a[0] else .tuple a) w') q1)
      have hp : (resP ps).und S1 ∧ PRep w (Held E φ1 s.heap) φ1 (resP ps) (if h : cs'.toArray.size = 1 then cs'.toArray[0] else .tuple cs'.toArray) := by
        have hlen := q3.length
        match ps, q2, q3, hlen with
        | [], q2, q3, hlen =>
          simp only [PRepL] at q3; subst q3
          simp [resP, PVal.und, PRep, undL, PRepL]
        | [p], q2, q3, hlen =>
          simp only [PRepL, undL] at q2 q3
          obtain ⟨c', cs'', rfl, q4, rfl⟩ := q3
          simp only [resP]
          exact ⟨q2.1, by simpa using q4⟩
        | p :: p' :: ps, q2, q3, hlen =>
          have : ¬ cs'.toArray.size = 1 := by simp at hlen ⊢; omega
          rw [dif_neg this]
          simp only [resP, PVal.und, PRep]
          exact ⟨q2, cs', rfl, q3⟩
      refine ⟨_, hrun, ?_⟩
      have hs : Rst E S1 φ1 { s with tmps := [(0, resP ps)] } ⟨#[if h : cs'.toArray.size = 1 then cs'.toArray[0] else .tuple cs'.toArray], []⟩ w := by
        refine { g3 with defers := rfl, tmps := ?_ }
        intro t p ht
        simp only [find] at ht
        split at ht
        · rename_i e; subst e; cases ht; exact ⟨hp.1, by simpa using hp.2⟩
        · cases ht
      obtain ⟨t1, t2⟩ := turnOK_spec v1
      have hv := view_run (t := ⟨[(0, r)], h', 12⟩) V hs t2 v2 (by
        simp only [viewT, and_true]
        have : ({ s with tmps := [(0, resP ps)] } : St).ev (.tmp 0) = resP ps := by simp [St.ev, find]
        rw [this]; exact v3)
      have hsince := since_view (N := 12) t1 (by omega) g5
      have hr0 := hv.tmps 0 r (by simp [find])
      refine ⟨V.φ φ1, V.S S1 12, ?_, ?_, hsince.keep, hr0.1, by simpa using hr0.2⟩
      · exact { hv with defers := rfl, tmps := fun t p ht => by simp [St.only, find] at ht }
      · intro k v hs
        by_cases h8 : k < 8
        · exact .inl (hsince.low k v hs h8)
        · exact .inr ⟨by omega, hs.1⟩
    · exact hfin.elim
  obtain ⟨v, k1, φ', S', k2, k3, k4, k5, k6⟩ := key
  have hd := g3.defers
  rcases he with rfl | rfl
  · exact ⟨hd, v, k1, v, φ', S', rfl, k2, k3, k4, k5, k6⟩
  · exact ⟨hd, v, k1, v, φ', S', rfl, k2, k3, k4, k5, k6⟩
end
end Go.Proofs.Ytdodgbhodkcckaa.Pv
end
section
set_option linter.unusedVariables false
set_option linter.unusedSectionVars false
set_option linter.unusedSimpArgs false
set_option autoImplicit false
namespace Go.Proofs.Ytdodgbhodkcckaa.Pv
open Go Go.RowKit
def fieldsFrom (P : Program) : List Field → Option (List (Nat × Nat × Bool))
  | [] => some []
  | f :: fs => match P.info? f.type, P.underlying f.type, fieldsFrom P fs with
    | some i, some _, some l => some ((f.offset, i.size, aggOf P f.type) :: l)
    | _, _, _ => none
def kindFrom (P : Program) (t : Nat) : TK := match P.underlying t with
  | some (.int k) => .int k
  | some .bool => .bool
  | some .string => .string
  | some (.struct fs) => (match fieldsFrom P fs.toList with
    | some l => .struct l
    | none => .other)
  | some (.array n e) => .array n e
  | some (.slice e) => .slice e
  | some (.pointer e) => .ptr e
  | some (.map k e) => .map k e
  | some (.func _ _ _) => .func
  | some (.interface _) => .iface
  | _ => .other
def tiOf (P : Program) (t : Nat) : Option TI := match P.info? t with
  | some f => (match f.zero with
    | some z => if z.cells.size = f.size then some ⟨kindFrom P t, f.size, f.bytes, z⟩ else none
    | none => none)
  | none => none
theorem fieldsFrom_ok {P : Program} : ∀ {gs : List Field} {l : List (Nat × Nat × Bool)}, fieldsFrom P gs = some l → FieldsOK P l gs
  | [], l, h => by simp only [fieldsFrom, Option.some.injEq] at h; subst h; simp [FieldsOK]
  | g :: gs, l, h => by
    simp only [fieldsFrom] at h
    split at h
    · rename_i i u l' h1 h2 h3
      simp only [Option.some.injEq] at h; subst h
      simp only [FieldsOK]
      refine ⟨trivial, by rw [h1]; rfl, by rw [h2]; rfl, trivial, fieldsFrom_ok h3⟩
    · cases h
theorem kindFrom_ok (P : Program) (t : Nat) : DescOK P t (kindFrom P t) := by
  unfold kindFrom
  split <;> rename_i hu <;> first
    | exact hu
    | (simp only [DescOK]; exact ⟨_, _, _, hu⟩)
    | (simp only [DescOK]; exact ⟨_, hu⟩)
    | trivial
    | skip
  split
  · rename_i l hl
    exact ⟨_, hu, fieldsFrom_ok hl⟩
  · trivial
theorem tiOf_ok (P : Program) : TbOK P (tiOf P) := by
  intro t i h
  unfold tiOf at h
  split at h
  · rename_i f hf
    split at h
    · rename_i z hz
      split at h
      · rename_i hs
        simp only [Option.some.injEq] at h; subst h
        exact ⟨⟨f, hf, rfl, rfl, hz⟩, hs, kindFrom_ok P t⟩
      · cases h
    · cases h
  · cases h
def eqFieldsK (P : Program) (g : Nat → Option (List CK)) : Nat → List Field → Option (List CK)
  | _, [] => some []
  | off, f :: fs => if f.name = "_" ∨ f.offset ≠ off then none else match g f.type, P.info? f.type with
    | some ks, some i => if ks.length = i.size ∧ 0 < i.size ∧ (aggOf P f.type = true ∨ ks.length = 1) then (eqFieldsK P g (off + ks.length) fs).map (ks ++ ·) else none
    | _, _ => none
def eqCells (P : Program) : Nat → Nat → Option (List CK)
  | 0, _ => none
  | d + 1, t => match P.underlying t with
    | some (.int _) => some [.int]
    | some .bool => some [.bool]
    | some .string => some [.str]
    | some (.struct fs) => if P.stoodInHeld t = false ∧ P.eqGuardType P.depth t = false then eqFieldsK P (eqCells P d) 0 fs.toList else none
    | some (.array n e) => if P.eqGuardType P.depth t = false then (match eqCells P d e, P.info? e with
      | some ks, some i => if ks.length = i.size ∧ 0 < i.size ∧ (aggOf P e = true ∨ ks.length = 1) then some (List.replicate n ks).flatten else none
      | _, _ => none) else none
    | _ => none
def cellsVal (P : Program) (t : Nat) (xs : List Value) : Value := if aggOf P t = true then .agg xs.toArray else xs.headD undef
theorem cellsEq_cons {k : CK} {ks : List CK} {a b : D} {aS bs : List D} {r : Bool} (h : cellsEq (k :: ks) (a :: aS) (b :: bs) = some r) : ∃ x y, cellEq k a b = some x ∧ cellsEq ks aS bs = some y ∧ r = (x && y) := by
  unfold cellsEq at h
  split at h
  · rename_i h1 h2 h3; cases h1
  · rename_i h1 h2 h3
    simp only [List.cons.injEq] at h1 h2 h3
    obtain ⟨rfl, rfl⟩ := h1
    obtain ⟨rfl, rfl⟩ := h2
    obtain ⟨rfl, rfl⟩ := h3
    exact ⟨r, true, h, rfl, by simp⟩
  · rename_i h1 h2 h3
    simp only [List.cons.injEq] at h1 h2 h3
    obtain ⟨rfl, rfl⟩ := h1
    obtain ⟨rfl, rfl⟩ := h2
    obtain ⟨rfl, rfl⟩ := h3
    split at h
    · rename_i x y hx hy
      simp only [Option.some.injEq] at h
      exact ⟨x, y, hx, hy, h.symm⟩
    · cases h
  · cases h
theorem cellsEq_length : ∀ {ks : List CK} {aS bs : List D} {r : Bool}, cellsEq ks aS bs = some r → aS.length = ks.length ∧ bs.length = ks.length
  | [], [], [], r, _ => ⟨rfl, rfl⟩
  | [], a :: aS, bs, r, h => by simp [cellsEq] at h
  | [], [], b :: bs, r, h => by simp [cellsEq] at h
  | k :: ks, [], bs, r, h => by simp [cellsEq] at h
  | k :: ks, a :: aS, [], r, h => by simp [cellsEq] at h
  | k :: ks, a :: aS, b :: bs, r, h => by
    obtain ⟨x, y, _, h2, _⟩ := cellsEq_cons h
    have := cellsEq_length h2
    simp [this.1, this.2]
theorem cellsEq_append : ∀ {ks ls : List CK} {aS bs : List D} {r : Bool}, cellsEq (ks ++ ls) aS bs = some r →
    ∃ x y, cellsEq ks (aS.take ks.length) (bs.take ks.length) = some x ∧ cellsEq ls (aS.drop ks.length) (bs.drop ks.length) = some y ∧ r = (x && y)
  | [], ls, aS, bs, r, h => ⟨true, r, by simp [cellsEq], by simpa using h, by simp⟩
  | k :: ks, ls, aS, bs, r, h => by
    have hl := cellsEq_length h
    cases aS with
    | nil => simp at hl
    | cons a aS =>
      cases bs with
      | nil => simp at hl
      | cons b bs =>
        obtain ⟨x, y, h1, h2, rfl⟩ := cellsEq_cons (show cellsEq (k :: (ks ++ ls)) (a :: aS) (b :: bs) = some r from h)
        obtain ⟨x', y', h3, h4, rfl⟩ := cellsEq_append h2
        refine ⟨x && x', y', ?_, by simpa using h4, by rw [Bool.and_assoc]⟩
        simp only [List.length_cons, List.take_succ_cons]
        have hl3 := cellsEq_length h3
        cases hks : ks with
        | nil =>
          subst hks
          simp only [List.length_nil, List.take_zero] at h3 ⊢
          simp only [cellsEq] at h3 ⊢
          rw [h1]
          simp only [Option.some.injEq] at h3
          subst h3; simp
        | cons k2 ks2 =>
          rw [← hks]
          cases hta : aS.take ks.length with
          | nil => rw [hta, hks] at hl3; simp at hl3
          | cons a2 as2 =>
            cases htb : bs.take ks.length with
            | nil => rw [htb, hks] at hl3; simp at hl3
            | cons b2 bs2 =>
              rw [hta, htb] at h3
              rw [hks] at h3 ⊢
              simp only [cellsEq, h1]
              rw [h3]
theorem part_run {P : Program} {t : Nat} {i : TypeInfo} (hu : (P.underlying t).isSome = true) (hi : P.info? t = some i) (xs : List Value) (off : Nat) (hl : off + i.size ≤ xs.length) (h1 : aggOf P t = true ∨ i.size = 1) (w : World) :
    (part t xs.toArray off).run P w = .ok (cellsVal P t ((xs.drop off).take i.size)) w := by
  have hag := run_isAgg_of (P := P) (t := t) (g := aggOf P t) hu rfl w
  cases ha : aggOf P t with
  | true =>
    rw [ha] at hag
    simp only [part, Sem.run_bind, hag, Result.andThen_ok, if_true, sizeOf, typeInfo, run_program, hi, Sem.run_pure, cellsVal, ha]
    congr 2
    apply Array.ext'
    simp only [Array.toList_extract, List.extract_eq_take_drop]
    congr 1
    omega
  | false =>
    have hs : i.size = 1 := h1.resolve_left (by rw [ha]; simp)
    rw [ha] at hag
    have hlt : off < xs.length := by omega
    simp only [part, Sem.run_bind, hag, Result.andThen_ok, Bool.false_eq_true, if_false, cellsVal, ha]
    have e1 : xs.toArray[off]? = some xs[off] := by simp [hlt]
    rw [e1]
    rw [hs, List.drop_eq_getElem_cons hlt]
    rfl
theorem underlying_eqCells {P : Program} {d t : Nat} {ks : List CK} (h : eqCells P d t = some ks) : (P.underlying t).isSome = true := by
  cases d with
  | zero => simp [eqCells] at h
  | succ d =>
    simp only [eqCells] at h
    cases hu : P.underlying t with
    | none => rw [hu] at h; simp at h
    | some x => rfl
theorem cellEq_int {x y : Value} {r : Bool} (h : cellEq .int (.v x) (.v y) = some r) : ∃ k a b, x = .int k a ∧ y = .int k b ∧ r = (a == b) := by
  cases x <;> (try (simp [cellEq] at h; done))
  cases y <;> (try (simp [cellEq] at h; done))
  simp only [cellEq] at h
  split at h
  · rename_i e; subst e; cases h; exact ⟨_, _, _, rfl, rfl, rfl⟩
  · cases h
theorem cellEq_bool {x y : Value} {r : Bool} (h : cellEq .bool (.v x) (.v y) = some r) : ∃ a b, x = .bool a ∧ y = .bool b ∧ r = (a == b) := by
  cases x <;> (try (simp [cellEq] at h; done))
  cases y <;> (try (simp [cellEq] at h; done))
  simp only [cellEq, Option.some.injEq] at h
  exact ⟨_, _, rfl, rfl, h.symm⟩
theorem cellEq_str {x y : Value} {r : Bool} (h : cellEq .str (.v x) (.v y) = some r) : ∃ a b, x = .string a ∧ y = .string b ∧ r = (a.toList == b.toList) := by
  cases x <;> (try (simp [cellEq] at h; done))
  cases y <;> (try (simp [cellEq] at h; done))
  simp only [cellEq, Option.some.injEq] at h
  exact ⟨_, _, rfl, rfl, h.symm⟩
theorem eqFields_run {P : Program} {d : Nat} {g : Nat → Option (List CK)} (hu : ∀ t ks, g t = some ks → (P.underlying t).isSome = true)
    (hg : ∀ t ks, g t = some ks → ∀ (xs ys : List Value) (r : Bool), cellsEq ks (xs.map .v) (ys.map .v) = some r → ∀ w, (Op.equalIn d t (cellsVal P t xs) (cellsVal P t ys)).run P w = .ok r w) :
    ∀ (fs : List Field) (off : Nat) (ks : List CK), eqFieldsK P g off fs = some ks → ∀ (xs ys : List Value) (r : Bool), cellsEq ks ((xs.drop off).map .v) ((ys.drop off).map .v) = some r → ∀ w, (Op.eqFields d xs.toArray ys.toArray fs).run P w = .ok r w
  | [], off, ks, h, xs, ys, r, hr, w => by
    simp only [eqFieldsK, Option.some.injEq] at h; subst h
    have hl := cellsEq_length hr
    simp only [List.length_map, List.length_nil, List.length_drop] at hl
    have e1 : xs.drop off = [] := List.drop_eq_nil_of_le (by omega)
    have e2 : ys.drop off = [] := List.drop_eq_nil_of_le (by omega)
    rw [e1, e2] at hr
    simp only [List.map_nil, cellsEq, Option.some.injEq] at hr; subst hr
    simp [Op.eqFields]
  | f :: fs, off, ks, h, xs, ys, r, hr, w => by
    simp only [eqFieldsK] at h
    split at h
    · cases h
    · rename_i hno
      simp only [not_or, Decidable.not_not] at hno
      obtain ⟨hname, hoff⟩ := hno
      split at h
      · rename_i ks1 i hk1 hi
        split at h
        · rename_i hsz
          obtain ⟨hsz, hpos, hag⟩ := hsz
          obtain ⟨ks2, hk2, rfl⟩ := Option.map_eq_some_iff.1 h
          have hl := cellsEq_length hr
          obtain ⟨x, y, g1, g2, rfl⟩ := cellsEq_append hr
          simp only [List.length_map, List.length_append, List.length_drop] at hl
          rw [← List.map_take, ← List.map_take] at g1
          rw [← List.map_drop, ← List.map_drop, List.drop_drop, List.drop_drop] at g2
          have p1 := part_run (hu _ _ hk1) hi xs off (by omega) (hag.imp id fun h => by omega) w
          have p2 := part_run (hu _ _ hk1) hi ys off (by omega) (hag.imp id fun h => by omega) w
          rw [hsz] at g1
          have q := hg f.type ks1 hk1 _ _ x g1 w
          simp only [Op.eqFields, if_pos hname, hoff, Sem.run_bind, p1, p2, q, Result.andThen_ok, Sem.run_ite]
          cases x with
          | false => simp
          | true =>
            simp only [Bool.not_true, Bool.false_eq_true, if_false, Bool.true_and]
            exact eqFields_run hu hg fs (off + ks1.length) ks2 hk2 xs ys y g2 w
        · cases h
      · cases h
theorem eqItems_run {P : Program} {d e : Nat} {ks : List CK} {i : TypeInfo} (hu : (P.underlying e).isSome = true) (hi : P.info? e = some i) (hs : ks.length = i.size) (hpos : 0 < i.size) (hag : aggOf P e = true ∨ ks.length = 1)
    (hg : ∀ (xs ys : List Value) (r : Bool), cellsEq ks (xs.map .v) (ys.map .v) = some r → ∀ w, (Op.equalIn d e (cellsVal P e xs) (cellsVal P e ys)).run P w = .ok r w) :
    ∀ (m j : Nat) (xs ys : List Value) (r : Bool), cellsEq (List.replicate m ks).flatten ((xs.drop (j * i.size)).map .v) ((ys.drop (j * i.size)).map .v) = some r → ∀ w, (Op.eqItems d e (P.cellsOf e) xs.toArray ys.toArray (List.range' j m)).run P w = .ok r w
  | 0, j, xs, ys, r, hr, w => by
    have hl := cellsEq_length hr
    simp only [List.length_map, List.replicate_zero, List.flatten_nil, List.length_nil, List.length_drop] at hl
    have e1 : xs.drop (j * i.size) = [] := List.drop_eq_nil_of_le (by omega)
    have e2 : ys.drop (j * i.size) = [] := List.drop_eq_nil_of_le (by omega)
    rw [e1, e2] at hr
    simp only [List.map_nil, List.replicate_zero, List.flatten_nil, cellsEq, Option.some.injEq] at hr; subst hr
    simp [Op.eqItems]
  | m + 1, j, xs, ys, r, hr, w => by
    rw [List.replicate_succ, List.flatten_cons] at hr
    have hl := cellsEq_length hr
    obtain ⟨x, y, g1, g2, rfl⟩ := cellsEq_append hr
    simp only [List.length_map, List.length_append, List.length_drop] at hl
    rw [← List.map_take, ← List.map_take] at g1
    rw [← List.map_drop, ← List.map_drop, List.drop_drop, List.drop_drop, hs, ← Nat.succ_mul] at g2
    have hc : P.cellsOf e = i.size := by simp [Program.cellsOf, hi]
    have p1 := part_run hu hi xs (j * i.size) (by omega) (hag.imp id fun h => by omega) w
    have p2 := part_run hu hi ys (j * i.size) (by omega) (hag.imp id fun h => by omega) w
    rw [hs] at g1
    have q := hg _ _ x g1 w
    rw [List.range'_succ]
    simp only [Op.eqItems, hc, Sem.run_bind, p1, p2, q, Result.andThen_ok, Sem.run_ite]
    cases x with
    | false => simp
    | true =>
      simp only [Bool.not_true, Bool.false_eq_true, if_false, Bool.true_and]
      have := eqItems_run hu hi hs hpos hag hg m (j + 1) xs ys y g2 w
      rwa [hc] at this
theorem eqCells_run {P : Program} (e : Nat) : ∀ (d t : Nat) (ks : List CK), eqCells P d t = some ks → ∀ (xs ys : List Value) (r : Bool), cellsEq ks (xs.map .v) (ys.map .v) = some r → ∀ w, (Op.equalIn (d + e) t (cellsVal P t xs) (cellsVal P t ys)).run P w = .ok r w
  | 0, t, ks, h, _, _, _, _, _ => by simp [eqCells] at h
  | d + 1, t, ks, h, xs, ys, r, hr, w => by
    have hlen := cellsEq_length hr
    simp only [List.length_map] at hlen
    rw [show d + 1 + e = (d + e) + 1 by omega]
    simp only [eqCells] at h
    split at h
    · rename_i k hu
      cases h
      simp only [List.length_cons, List.length_nil] at hlen
      match xs, ys, hlen, hr with
      | [x], [y], _, hr =>
        obtain ⟨k1, a, b, rfl, rfl, rfl⟩ := cellEq_int hr
        simp only [cellsVal, aggOf, hu, Bool.false_eq_true, if_false, List.headD_cons]
        exact run_equalIn_int w _ t k1 k _ _ hu
    · rename_i hu
      cases h
      simp only [List.length_cons, List.length_nil] at hlen
      match xs, ys, hlen, hr with
      | [x], [y], _, hr =>
        obtain ⟨a, b, rfl, rfl, rfl⟩ := cellEq_bool hr
        simp only [cellsVal, aggOf, hu, Bool.false_eq_true, if_false, List.headD_cons]
        exact run_equalIn_bool w _ t _ _ hu
    · rename_i hu
      cases h
      simp only [List.length_cons, List.length_nil] at hlen
      match xs, ys, hlen, hr with
      | [x], [y], _, hr =>
        obtain ⟨a, b, rfl, rfl, rfl⟩ := cellEq_str hr
        simp only [cellsVal, aggOf, hu, Bool.false_eq_true, if_false, List.headD_cons]
        exact run_equalIn_string w _ t _ _ hu
    · rename_i fs hu
      split at h
      · rename_i hc
        have hag : aggOf P t = true := by simp [aggOf, hu]
        simp only [cellsVal, hag, if_true]
        have hfo : P.fieldsOf t = fs := by simp [Program.fieldsOf, hu]
        rw [run_equalIn_struct w _ t _ _ (by rw [hfo]; exact hu) hc.1, hfo]
        exact eqFields_run (fun t ks h => underlying_eqCells h) (fun t ks h xs ys r hr w => eqCells_run e d t ks h xs ys r hr w) fs.toList 0 ks h xs ys r (by simpa using hr) w
      · cases h
    · rename_i n el hu
      split at h
      · split at h
        · rename_i ks1 i hk1 hi
          split at h
          · rename_i hsz
            simp only [Option.some.injEq] at h; subst h
            have hag : aggOf P t = true := by simp [aggOf, hu]
            simp only [cellsVal, hag, if_true]
            rw [run_equalIn_array w _ _ _ hu hi, List.range_eq_range']
            exact eqItems_run (underlying_eqCells hk1) hi hsz.1 hsz.2.1 hsz.2.2 (fun xs ys r hr w => eqCells_run e d el ks1 hk1 xs ys r hr w) n 0 xs ys r (by simpa using hr) w
          · cases h
        · cases h
      · cases h
    · cases h
theorem checkKey_run {P : Program} (em : Bool) (e : Nat) : ∀ (d t : Nat) (ks : List CK), eqCells P d t = some ks → ∀ (xs : List Value) (r : Bool), cellsEq ks (xs.map .v) (xs.map .v) = some r → ∀ w, (Instr.checkKey em (d + e) t (cellsVal P t xs)).run P w = .ok () w
  | 0, t, ks, h, _, _, _, _ => by simp [eqCells] at h
  | d + 1, t, ks, h, xs, r, hr, w => by
    have hlen := cellsEq_length hr
    simp only [List.length_map] at hlen
    rw [show d + 1 + e = (d + e) + 1 by omega]
    simp only [eqCells] at h
    split at h
    · rename_i k hu
      cases h
      match xs, hlen, hr with
      | [x], _, hr =>
        obtain ⟨k1, a, b, rfl, _, _⟩ := cellEq_int hr
        simp [cellsVal, aggOf, hu, Instr.checkKey, run_underlying hu]
    · rename_i hu
      cases h
      match xs, hlen, hr with
      | [x], _, hr =>
        obtain ⟨a, b, rfl, _, _⟩ := cellEq_bool hr
        simp [cellsVal, aggOf, hu, Instr.checkKey, run_underlying hu]
    · rename_i hu
      cases h
      match xs, hlen, hr with
      | [x], _, hr =>
        obtain ⟨a, b, rfl, _, _⟩ := cellEq_str hr
        simp [cellsVal, aggOf, hu, Instr.checkKey, run_underlying hu]
    · rename_i fs hu
      split at h
      · have hag : aggOf P t = true := by simp [aggOf, hu]
        simp only [cellsVal, hag, if_true]
        rw [Instr.checkKey]
        simp only [Sem.run_bind, run_underlying hu, Result.andThen_ok]
        rw [← Array.forIn_toList]
        have hr0 : cellsEq ks ((xs.drop 0).map .v) ((xs.drop 0).map .v) = some r := by simpa using hr
        clear hr hlen
        generalize 0 = off at h hr0
        generalize fs.toList = L at h
        induction L generalizing off ks r with
        | nil => simp
        | cons f L ih =>
          simp only [eqFieldsK] at h
          split at h
          · cases h
          · rename_i hno
            simp only [not_or, Decidable.not_not] at hno
            obtain ⟨hname, hoff⟩ := hno
            split at h
            · rename_i ks1 i hk1 hi
              split at h
              · rename_i hsz
                obtain ⟨hsz, hpos, hagf⟩ := hsz
                obtain ⟨ks2, hk2, rfl⟩ := Option.map_eq_some_iff.1 h
                have hl := cellsEq_length hr0
                obtain ⟨x, y, g1, g2, rfl⟩ := cellsEq_append hr0
                simp only [List.length_map, List.length_append, List.length_drop] at hl
                rw [← List.map_take] at g1
                rw [← List.map_drop, List.drop_drop] at g2
                have p1 := part_run (underlying_eqCells hk1) hi xs off (by omega) (hagf.imp id fun h => by omega) w
                rw [hsz] at g1
                have q := checkKey_run em e d f.type ks1 hk1 _ x g1 w
                have hn : (f.name ≠ "_") := hname
                simp only [List.forIn_cons, Sem.run_bind, hn, ne_eq, not_false_eq_true, if_true, hoff, p1, q, Result.andThen_ok, Sem.run_pure]
                exact ih ks2 y (off + ks1.length) g2 hk2
              · cases h
            · cases h
      · cases h
    · rename_i n el hu
      split at h
      · split at h
        · rename_i ks1 i hk1 hi
          split at h
          · rename_i hsz
            simp only [Option.some.injEq] at h; subst h
            obtain ⟨hsz, hpos, hagf⟩ := hsz
            have hag : aggOf P t = true := by simp [aggOf, hu]
            simp only [cellsVal, hag, if_true]
            rw [Instr.checkKey]
            simp only [Sem.run_bind, run_underlying hu, Result.andThen_ok]
            simp only [Std.Legacy.Range.forIn_eq_forIn_range', Std.Legacy.Range.size, Nat.sub_zero, Nat.add_one_sub_one, Nat.div_one]
            have hr0 : cellsEq (List.replicate n ks1).flatten ((xs.drop (0 * i.size)).map .v) ((xs.drop (0 * i.size)).map .v) = some r := by simpa using hr
            clear hr hlen hu hag
            generalize 0 = j at hr0
            induction n generalizing j r with
            | zero => simp
            | succ n ih =>
              rw [List.replicate_succ, List.flatten_cons] at hr0
              have hl := cellsEq_length hr0
              obtain ⟨x, y, g1, g2, rfl⟩ := cellsEq_append hr0
              simp only [List.length_map, List.length_append, List.length_drop] at hl
              rw [← List.map_take] at g1
              rw [← List.map_drop, List.drop_drop, hsz, ← Nat.succ_mul] at g2
              have p1 := part_run (underlying_eqCells hk1) hi xs (j * i.size) (by omega) (hagf.imp id fun h => by omega) w
              rw [hsz] at g1
              have q := checkKey_run em e d el ks1 hk1 _ x g1 w
              have hso : (sizeOf el).run P w = .ok i.size w := by simp [sizeOf, typeInfo, hi]
              rw [List.range'_succ]
              simp only [List.forIn_cons, Sem.run_bind, hso, p1, q, Result.andThen_ok, Sem.run_pure]
              exact ih y (j + 1) g2
          · cases h
        · cases h
      · cases h
    · cases h
theorem keyOK_of {P : Program} {d t : Nat} {ks : List CK} (hd : d ≤ 10000) (hag : aggOf P t = true) (h : eqCells P d t = some ks) : KeyOK P t ks := by
  intro xs r hr w em
  have := checkKey_run em (10000 - d) d t ks h xs r hr w
  rw [show d + (10000 - d) = 10000 by omega] at this
  simpa only [cellsVal, hag, if_true] using this
theorem eqOK_of {P : Program} {d t : Nat} {ks : List CK} (hd : d ≤ 10000) (hag : aggOf P t = true) (h : eqCells P d t = some ks) : EqOK P t ks := by
  intro xs ys r hr w op x y
  have hg : P.eqGuardType P.depth t = false := by
    cases d with
    | zero => simp [eqCells] at h
    | succ d =>
      simp only [eqCells] at h
      split at h
      · rename_i hu; simp [aggOf, hu] at hag
      · rename_i hu; simp [aggOf, hu] at hag
      · rename_i hu; simp [aggOf, hu] at hag
      · split at h
        · rename_i hc; exact hc.2
        · cases h
      · split at h
        · rename_i hc; exact hc
        · cases h
      · cases h
  refine ⟨run_eqGuard_agg w op t x y _ _ hg, ?_⟩
  have := eqCells_run (10000 - d) d t ks h xs ys r hr w
  rw [show d + (10000 - d) = 10000 by omega] at this
  simpa only [cellsVal, hag, if_true] using this
def eqOf (P : Program) (t : Nat) : Option (List CK) := if aggOf P t = true then eqCells P 8 t else none
theorem kit (P : Program) : Kit P (tiOf P) (eqOf P) := by
  refine ⟨tiOf_ok P, ?_, ?_⟩
  · intro t ks h
    unfold eqOf at h
    split at h
    · rename_i hag; exact eqOK_of (by omega) hag h
    · cases h
  · intro t ks h
    unfold eqOf at h
    split at h
    · rename_i hag; exact keyOK_of (by omega) hag h
    · cases h
end Go.Proofs.Ytdodgbhodkcckaa.Pv
end
section
set_option linter.unusedVariables false
set_option linter.unusedSimpArgs false
set_option linter.unusedSectionVars false
set_option autoImplicit false
namespace Go.Proofs.Ytdodgbhodkcckaa.Pv
open Go Go.RowKit Go.WideShapes
inductive CL where
  | bool | int (k : IntKind) | str | slc (agg : Bool) (cells : List CL)
def one (a : Bool) (ds : List D) : D := if a = true then .agg ds else ds.headD default
mutual
def okD : CL → D → Prop
  | .bool, d => ∃ b, d = .v (.bool b)
  | .int k, d => ∃ n, d = .v (.int k n) ∧ (Lit.int k n).wf = true
  | .str, d => ∃ s : ByteArray, d = .v (.string s) ∧ s.size ≤ maxLen
  | .slc a cl, d => ∃ els : List D, d = .slc cl.length els ∧ els.length ≤ maxLen ∧ ∀ el ∈ els, ∃ ds, el = one a ds ∧ okL cl ds
def okL : List CL → List D → Prop
  | [], ds => ds = []
  | c :: cl, ds => ∃ d ds', ds = d :: ds' ∧ okD c d ∧ okL cl ds'
end
theorem okL_append : ∀ {cl cl' : List CL} {ds ds' : List D}, okL cl ds → okL cl' ds' → okL (cl ++ cl') (ds ++ ds')
  | [], cl', ds, ds', h, h' => by simp only [okL] at h; subst h; simpa using h'
  | c :: cl, cl', ds, ds', h, h' => by
    simp only [okL] at h
    obtain ⟨d, ds1, rfl, h1, h2⟩ := h
    simp only [List.cons_append, okL]
    exact ⟨d, ds1 ++ ds', rfl, h1, okL_append h2 h'⟩
def layFs (L : TypeId → Option (Bool × List CL)) (size : TypeId → Nat) : Nat → List Field → Option (List CL)
  | _, [] => some []
  | o, f :: fs => match L f.type, layFs L size (o + size f.type) fs with
    | some (_, cl), some r => if f.offset = o ∧ size f.type = cl.length then some (cl ++ r) else none
    | _, _ => none
def lay (P : Program) : Nat → TypeId → Option (Bool × List CL)
  | 0, _ => none
  | n + 1, t => match P.underlying t with
    | some .bool => some (false, [.bool])
    | some (.int k) => some (false, [.int k])
    | some .string => some (false, [.str])
    | some (.slice e) => match lay P n e with
      | some (a, cl) => if cl.length = P.cellsOf e ∧ cl.length ≠ 0 then some (false, [.slc a cl]) else none
      | none => none
    | some (.struct fs) => match layFs (lay P n) P.cellsOf 0 fs.toList with
      | some cl => if cl.length = P.cellsOf t then some (true, cl) else none
      | none => none
    | some (.array m e) => match lay P n e with
      | some (_, cl) => if cl.length = P.cellsOf e ∧ m * cl.length = P.cellsOf t then some (true, (List.replicate m cl).flatten) else none
      | none => none
    | _ => none
theorem lay_one {P : Program} : ∀ {n : Nat} {t : TypeId} {cl : List CL}, lay P n t = some (false, cl) → ∃ c, cl = [c]
  | 0, t, cl, h => by simp [lay] at h
  | n + 1, t, cl, h => by
    simp only [lay] at h
    split at h
    · simp at h; exact ⟨_, h.symm⟩
    · simp at h; exact ⟨_, h.symm⟩
    · simp at h; exact ⟨_, h.symm⟩
    · split at h
      · split at h
        · simp at h; exact ⟨_, h.symm⟩
        · cases h
      · cases h
    · split at h
      · split at h <;> simp at h
      · cases h
    · split at h
      · split at h <;> simp at h
      · cases h
    · cases h
theorem ok_cells {w : World} {O : Nat → Prop} {c : CL} {d : D} {v : Value} (h : okD c d) (hr : DRep w O d v) : v.cells = #[v] := by
  cases c with
  | bool => simp only [okD] at h; obtain ⟨b, rfl⟩ := h; simp only [DRep] at hr; subst hr; rfl
  | int k => simp only [okD] at h; obtain ⟨n, rfl, _⟩ := h; simp only [DRep] at hr; subst hr; rfl
  | str => simp only [okD] at h; obtain ⟨s, rfl, _⟩ := h; simp only [DRep] at hr; subst hr; rfl
  | slc a cl => simp only [okD] at h; obtain ⟨els, rfl, _⟩ := h; simp only [DRep] at hr; obtain ⟨ad, cap, rfl, _⟩ := hr; rfl
section
variable {H : Type} {enc : TypeId × Value → H} {P : Program} {w : World} {base : Nat} {sp : Nat → Bool} {held : Bool} {O : Nat → Prop}
theorem trod_array {t e : TypeId} {m fuel : Nat} {cs : List Value} {x : DataW H × List MemPlace} (ht : P.underlying t = some (.array m e)) (h : DataW.trod enc P w base sp held fuel t cs = some x) :
    ∃ n, cs.length = P.cellsOf t ∧ ∀ i, i < m → ∃ y, DataW.trod enc P w base sp held n e ((cs.drop (i * P.cellsOf e)).take (P.cellsOf e)) = some y := by
  cases fuel with
  | zero => simp [DataW.trod] at h
  | succ n =>
    unfold DataW.trod at h
    rw [ht] at h
    split at h <;> simp_all
    obtain ⟨hl, xs, hp, hd⟩ := h
    refine ⟨n, fun i hi => ?_⟩
    have h1 := mapM_some_get hp i i (by simp [hi])
    have h2 := mapM_some_length hp
    have hlt : i < xs.length := by simp at h2; omega
    rw [List.getElem?_eq_getElem hlt] at h1
    exact ⟨_, _, h1⟩
theorem cell_spot {a : Addr} {v : Value} (h : w.cell? a = some v) : a.spot = none := by
  unfold World.cell? at h
  split at h
  · split at h
    · cases h
    · rename_i hs; simpa using hs
  · cases h
theorem cells_at {b off n : Nat} {cs : List Value} (h : w.cells? base ⟨b, off, none⟩ n = some cs) : cs.length = n ∧ CellsAt w b off cs := by
  unfold World.cells? at h
  split at h
  · have h2 := mapM_some_length h
    have hl : cs.length = n := by simpa using h2
    refine ⟨hl, fun j hj => ?_⟩
    have h1 := mapM_some_get h j j (List.getElem?_range (by omega))
    rw [List.getElem?_eq_getElem hj] at h1
    rw [← h1, addr_add]
  · cases h
theorem trod_rep (hO : ∀ b, ¬ O b) : ∀ (n : Nat) (t : TypeId) (a : Bool) (cl : List CL), lay P n t = some (a, cl) → ∀ (fuel : Nat) (cs : List Value) (x : DataW H × List MemPlace), DataW.trod enc P w base sp held fuel t cs = some x → ∃ ds, okL cl ds ∧ DRepL w O ds cs
  | 0, t, a, cl, h, _, _, _, _ => by simp [lay] at h
  | n + 1, t, a, cl, h, fuel, cs, x, hx => by
    have IH := trod_rep hO n
    simp only [lay] at h
    split at h
    · rename_i hu
      simp at h; obtain ⟨_, rfl⟩ := h
      obtain ⟨b, rfl, _⟩ := DataW.trod_bool hu hx
      refine ⟨[.v (.bool b)], ?_, ?_⟩
      · simp only [okL, okD]; exact ⟨_, _, rfl, ⟨b, rfl⟩, rfl⟩
      · simp only [DRepL, DRep]; exact ⟨_, _, rfl, rfl, rfl⟩
    · rename_i k hu
      simp at h; obtain ⟨_, rfl⟩ := h
      obtain ⟨b, rfl, _, hw⟩ := DataW.trod_int hu hx
      refine ⟨[.v (.int k b)], ?_, ?_⟩
      · simp only [okL, okD]; exact ⟨_, _, rfl, ⟨b, rfl, hw⟩, rfl⟩
      · simp only [DRepL, DRep]; exact ⟨_, _, rfl, rfl, rfl⟩
    · rename_i hu
      simp at h; obtain ⟨_, rfl⟩ := h
      obtain ⟨b, rfl, _, hw⟩ := DataW.trod_string hu hx
      refine ⟨[.v (.string b)], ?_, ?_⟩
      · simp only [okL, okD]; exact ⟨_, _, rfl, ⟨b, rfl, hw⟩, rfl⟩
      · simp only [DRepL, DRep]; exact ⟨_, _, rfl, rfl, rfl⟩
    · rename_i e hu
      split at h
      · rename_i a' cl' hl
        split at h
        · rename_i hc
          simp at h; obtain ⟨_, rfl⟩ := h
          rcases DataW.trod_slice hu hx with ⟨rfl, _⟩ | ⟨ad, len, cap, elems, rest, m, _, rfl, _, _, hle, hcap, hel, hall, _, _⟩
          · refine ⟨[.slc cl'.length []], ?_, ?_⟩
            · simp only [okL, okD]; exact ⟨_, _, rfl, ⟨[], rfl, by simp, by simp⟩, rfl⟩
            · simp only [DRepL, DRep]; exact ⟨_, _, rfl, ⟨none, 0, rfl, by simp, .inl trivial⟩, rfl⟩
          · have each : ∀ i, ∃ ds : List D, i < len → okL cl' ds ∧ ∃ cs', w.cells? base (ad.add (i * P.cellsOf e)) (P.cellsOf e) = some cs' ∧ DRepL w O ds cs' := by
              intro i
              by_cases hi : i < len
              · have h1 := hall i hi
                rw [List.getElem?_eq_getElem (by omega)] at h1
                obtain ⟨cs', h2, h3⟩ := Option.bind_eq_some_iff.1 h1
                obtain ⟨ds, h4, h5⟩ := IH e a' cl' hl _ _ _ h3
                exact ⟨ds, fun _ => ⟨h4, cs', h2, h5⟩⟩
              · exact ⟨[], fun h => absurd h hi⟩
            obtain ⟨f, hf⟩ := Classical.axiomOfChoice each
            refine ⟨[.slc cl'.length ((List.range len).map fun i => one a' (f i))], ?_, ?_⟩
            · simp only [okL, okD]
              refine ⟨_, _, rfl, ⟨_, rfl, by simp; omega, fun el he => ?_⟩, rfl⟩
              simp only [List.mem_map, List.mem_range] at he
              obtain ⟨i, hi, rfl⟩ := he
              exact ⟨f i, rfl, (hf i hi).1⟩
            · simp only [DRepL, DRep]
              refine ⟨_, _, rfl, ⟨some ad, cap, by simp, by simpa using hle, ?_⟩, rfl⟩
              by_cases h0 : len = 0
              · left; subst h0; rfl
              · right
                have hspot : ad.spot = none := by
                  obtain ⟨_, cs', h1, h2⟩ := hf 0 (by omega)
                  rw [Nat.zero_mul, show ad.add 0 = ad from by simp [Addr.add]] at h1
                  unfold World.cells? at h1
                  by_cases hb : base ≤ ad.block
                  · rw [if_pos hb] at h1
                    have h3 := mapM_some_get h1 0 0 (List.getElem?_range (by omega))
                    have h4 : cs'.length = P.cellsOf e := by simpa using mapM_some_length h1
                    rw [List.getElem?_eq_getElem (by omega), show ad.add 0 = ad from by simp [Addr.add]] at h3
                    exact cell_spot h3
                  · rw [if_neg hb] at h1; cases h1
                obtain ⟨b, off, spot⟩ := ad
                simp only at hspot
                subst hspot
                refine ⟨b, off, rfl, hO b, ?_, DRepE.of fun i el hi => ?_⟩
                · obtain ⟨_, cs', h1, h2⟩ := hf 0 (by omega)
                  rw [addr_add] at h1
                  obtain ⟨h3, h4⟩ := cells_at h1
                  have h5 := h4 0 (by omega)
                  unfold World.cell? at h5
                  split at h5
                  · rename_i hb; exact (Array.getElem?_eq_some_iff.1 hb).1
                  · cases h5
                · simp only [List.getElem?_map, Option.map_eq_some_iff] at hi
                  obtain ⟨j, hj, rfl⟩ := hi
                  have hji : j = i ∧ i < len := by
                    obtain ⟨hl', he⟩ := List.getElem?_eq_some_iff.1 hj
                    simp at hl' he; omega
                  obtain ⟨rfl, hlt⟩ := hji
                  obtain ⟨g1, cs', g2, g3⟩ := hf j hlt
                  rw [addr_add] at g2
                  obtain ⟨g4, g5⟩ := cells_at g2
                  cases a' with
                  | true =>
                    refine ⟨.agg cs'.toArray, ?_, ?_, ?_⟩
                    · simp only [one, if_true, DRep]; exact ⟨cs', rfl, g3⟩
                    · simp only [Value.cells, List.size_toArray]; omega
                    · rw [hc.1]; simpa only [Value.cells, List.toList_toArray] using g5
                  | false =>
                    obtain ⟨c, rfl⟩ := lay_one hl
                    simp only [okL] at g1
                    obtain ⟨d, ds', hfd, k1, k2⟩ := g1
                    subst k2
                    rw [hfd] at g3 ⊢
                    simp only [DRepL] at g3
                    obtain ⟨v, cs2, rfl, k3, rfl⟩ := g3
                    have hv := ok_cells k1 k3
                    refine ⟨v, by simpa [one] using k3, by rw [hv]; rfl, ?_⟩
                    rw [hv, hc.1]
                    simpa using g5
        · cases h
      · cases h
    · rename_i fs hu
      split at h
      · rename_i cl' hl
        split at h
        · rename_i hc
          simp at h; obtain ⟨_, rfl⟩ := h
          obtain ⟨xs, m, _, _, hlen, hxl, hall⟩ := DataW.trod_struct hu hx
          have key : ∀ (l : List Field) (o : Nat) (cl : List CL), layFs (lay P n) P.cellsOf o l = some cl → (∀ f ∈ l, ∃ y, DataW.trod enc P w base sp held m f.type ((cs.drop f.offset).take (P.cellsOf f.type)) = some y) → ∃ ds, okL cl ds ∧ DRepL w O ds ((cs.drop o).take cl.length) := by
            intro l
            induction l with
            | nil => intro o cl hl _; simp only [layFs, Option.some.injEq] at hl; subst hl; exact ⟨[], by simp only [okL], by simp [DRepL]⟩
            | cons f l ih =>
              intro o cl hl hall
              simp only [layFs] at hl
              split at hl
              · rename_i a1 c1 r1 e1 e2
                split at hl
                · rename_i hh
                  simp only [Option.some.injEq] at hl; subst hl
                  obtain ⟨y, hy⟩ := hall f (by simp)
                  rw [hh.1, hh.2] at hy
                  obtain ⟨ds1, k1, k2⟩ := IH _ _ _ e1 _ _ _ hy
                  obtain ⟨ds2, k3, k4⟩ := ih _ _ e2 fun g hg => hall g (by simp [hg])
                  refine ⟨ds1 ++ ds2, okL_append k1 k3, ?_⟩
                  rw [List.length_append, List.take_add, List.drop_drop]
                  rw [hh.2] at k4
                  exact k2.append k4
                · cases hl
              · cases hl
          obtain ⟨ds, k1, k2⟩ := key _ _ _ hl fun f hf => by
            obtain ⟨i, hi⟩ := List.getElem?_of_mem hf
            have hi' : fs[i]? = some f := by simpa using hi
            have h1 := hall i f hi'
            have hlt := (Array.getElem?_eq_some_iff.1 hi').1
            rw [List.getElem?_eq_getElem (by omega)] at h1
            exact ⟨_, h1⟩
          refine ⟨ds, k1, ?_⟩
          rw [List.drop_zero, hc, ← hlen, List.take_length] at k2
          exact k2
        · cases h
      · cases h
    · rename_i m e hu
      split at h
      · rename_i a' cl' hl
        split at h
        · rename_i hc
          simp at h; obtain ⟨_, rfl⟩ := h
          obtain ⟨k, hlen, hall⟩ := trod_array hu hx
          have key : ∀ j, j ≤ m → ∃ ds, okL (List.replicate j cl').flatten ds ∧ DRepL w O ds (cs.take (j * cl'.length)) := by
            intro j
            induction j with
            | zero => intro _; exact ⟨[], by simp [okL], by simp [DRepL]⟩
            | succ j ih =>
              intro hj
              obtain ⟨ds, k1, k2⟩ := ih (by omega)
              obtain ⟨y, hy⟩ := hall j (by omega)
              obtain ⟨ds', k3, k4⟩ := IH _ _ _ hl _ _ _ hy
              refine ⟨ds ++ ds', ?_, ?_⟩
              · rw [show List.replicate (j + 1) cl' = List.replicate j cl' ++ [cl'] from List.replicate_succ', List.flatten_append]
                simpa using okL_append k1 k3
              · rw [Nat.add_mul, Nat.one_mul, List.take_add]
                rw [← hc.1] at k4
                exact k2.append k4
          obtain ⟨ds, k1, k2⟩ := key m (Nat.le_refl _)
          refine ⟨ds, k1, ?_⟩
          rw [hc.2, ← hlen, List.take_length] at k2
          exact k2
        · cases h
      · cases h
    · cases h
theorem arg_rep (hO : ∀ b, ¬ O b) {n : Nat} {t : TypeId} {a : Bool} {cl : List CL} {r : Reach} {b0 : Nat} {v : Value} {d : DataW H} {ps : List MemPlace} (hl : lay P n t = some (a, cl)) (hval : Value.okWide P w r b0 t v) (hd : DataW.Trod enc P w base sp held t v d ps) :
    ∃ ds, okL cl ds ∧ DRep w O (one a ds) v := by
  obtain ⟨fuel, hf⟩ := hd
  obtain ⟨ds, k1, k2⟩ := trod_rep hO n t a cl hl fuel _ _ hf
  refine ⟨ds, k1, ?_⟩
  have single : a = false → v.cells = #[v] → DRep w O (one a ds) v := by
    intro ha hv
    subst ha
    obtain ⟨c, rfl⟩ := lay_one hl
    simp only [okL] at k1
    obtain ⟨d, ds', rfl, k3, rfl⟩ := k1
    rw [hv] at k2
    simp only [DRepL] at k2
    obtain ⟨v', _, e, k4, _⟩ := k2
    cases e
    simpa [one] using k4
  cases n with
  | zero => simp [lay] at hl
  | succ n =>
    simp only [lay] at hl
    split at hl
    · rename_i hu; simp at hl; obtain ⟨b, rfl⟩ := okWide_bool hu hval; exact single hl.1 rfl
    · rename_i k hu; simp at hl; obtain ⟨b, rfl⟩ := okWide_int hu hval; exact single hl.1 rfl
    · rename_i hu; simp at hl; obtain ⟨b, rfl⟩ := okWide_string hu hval; exact single hl.1 rfl
    · rename_i e hu
      obtain ⟨x, y, z, rfl⟩ := okWide_slice hu hval
      split at hl
      · split at hl
        · simp at hl; exact single hl.1 rfl
        · cases hl
      · cases hl
    · rename_i fs hu
      obtain ⟨cs, rfl, _⟩ := okWide_struct hu hval
      split at hl
      · split at hl
        · simp at hl; obtain ⟨rfl, _⟩ := hl
          simp only [one, if_true, DRep]; exact ⟨cs.toList, by simp, by simpa [Value.cells] using k2⟩
        · cases hl
      · cases hl
    · rename_i m e hu
      obtain ⟨cs, rfl, _⟩ : ∃ cs, v = .agg cs ∧ cs.size = P.cellsOf t := by
        simp only [Value.okWide, hu] at hval
        obtain ⟨cs, h1, h2, _⟩ := hval
        exact ⟨cs, h1, h2⟩
      split at hl
      · split at hl
        · simp at hl; obtain ⟨rfl, _⟩ := hl
          simp only [one, if_true, DRep]; exact ⟨cs.toList, by simp, by simpa [Value.cells] using k2⟩
        · cases hl
      · cases hl
    · cases hl
def okArgs : List (Bool × List CL) → List D → Prop
  | [], xs => xs = []
  | (a, cl) :: ls, xs => ∃ ds xs', xs = one a ds :: xs' ∧ okL cl ds ∧ okArgs ls xs'
theorem args_rep (hO : ∀ b, ¬ O b) {n : Nat} {r : Reach} {b0 : Nat} : ∀ {ts : List TypeId} {vs : List Value} {ds : List (DataW H)} {ps : List MemPlace} {ls : List (Bool × List CL)}, DataW.TrodAll enc P w base sp held ts vs ds ps → (∀ (j : Nat) t v, ts[j]? = some t → vs[j]? = some v → Value.okWide P w r b0 t v) →
    ts.mapM (lay P n) = some ls → ∃ xs, okArgs ls xs ∧ DRepL w O xs vs
  | [], [], [], ps, ls, h, hv, hl => by simp at hl; subst hl; exact ⟨[], by simp only [okArgs], by simp only [DRepL]⟩
  | t :: ts, v :: vs, d :: ds, ps, ls, h, hv, hl => by
    simp only [DataW.TrodAll] at h
    obtain ⟨p, q, h1, h2, _⟩ := h
    rw [List.mapM_cons] at hl
    simp only [Option.bind_eq_bind, Option.bind_eq_some_iff, Option.pure_def, Option.some.injEq] at hl
    obtain ⟨⟨a, cl⟩, hl1, ls', hl2, rfl⟩ := hl
    obtain ⟨xs, k1, k2⟩ := args_rep hO h2 (fun j t v ht hv' => hv (j + 1) t v (by simpa using ht) (by simpa using hv')) hl2
    obtain ⟨ds1, k3, k4⟩ := arg_rep hO hl1 (hv 0 t v rfl rfl) h1
    refine ⟨one a ds1 :: xs, ?_, ?_⟩
    · simp only [okArgs]; exact ⟨ds1, xs, rfl, k3, k1⟩
    · simp only [DRepL]; exact ⟨v, vs, rfl, k4, k2⟩
  | [], [], _ :: _, ps, ls, h, _, _ => by simp [DataW.TrodAll] at h
  | [], _ :: _, _, ps, ls, h, _, _ => by simp [DataW.TrodAll] at h
  | _ :: _, [], _, ps, ls, h, _, _ => by simp [DataW.TrodAll] at h
  | _ :: _, _ :: _, [], ps, ls, h, _, _ => by simp [DataW.TrodAll] at h
end
end Go.Proofs.Ytdodgbhodkcckaa.Pv
end
section
set_option linter.unusedVariables false
set_option linter.unusedSectionVars false
set_option linter.unusedSimpArgs false
set_option autoImplicit false
namespace Go.Proofs.Ytdodgbhodkcckaa.Pv
open Go Go.RowKit
section
variable {P : Program} {n : Nat} {Q : Exit → St → Prop} {st : St} {T : Nat → Option TI} {eqt : Nat → Option (List CK)} (hk : Kit P T eqt)
include hk
theorem Pwp.step {id : Nat} {ops : Array Oper} {y : Code} (hf : opsFit n ops.toList = true) (h : ∀ K : St → Prop, (∀ s, Pwp P n y Q s → K s) → opsP P T eqt ops.toList ops.size st.next 0 ops.toList st K) : Pwp P n (.seq (.region id ops false) y) Q st :=
  Pwp.seq (Pwp.region hk hf (h _ fun _ h => h))
theorem Pwp.last {id : Nat} {ops : Array Oper} (hf : opsFit n ops.toList = true) (h : ∀ K : St → Prop, (∀ s, Q .normal s → K s) → opsP P T eqt ops.toList ops.size st.next 0 ops.toList st K) : Pwp P n (.region id ops false) Q st :=
  Pwp.region hk hf (h _ fun _ h => h)
theorem Pwp.stepD {id : Nat} {ops : Array Oper} {y : Code} (hm : P.follows .mixedOrders = true) (hf : opsFit n ops.toList = true) (h : ∀ K : St → List Foot → Prop, (∀ s feet, orderOK ops feet = true → Pwp P n y Q s → K s feet) → opsD P T eqt ops.toList ops.size st.next 0 ops.toList st [] K) : Pwp P n (.seq (.region id ops true) y) Q st :=
  Pwp.seq (Pwp.drawn hk hm hf (h _ fun _ _ h1 h2 => ⟨h1, h2⟩))
theorem Pwp.lastD {id : Nat} {ops : Array Oper} (hm : P.follows .mixedOrders = true) (hf : opsFit n ops.toList = true) (h : ∀ K : St → List Foot → Prop, (∀ s feet, orderOK ops feet = true → Q .normal s → K s feet) → opsD P T eqt ops.toList ops.size st.next 0 ops.toList st [] K) : Pwp P n (.region id ops true) Q st :=
  Pwp.drawn hk hm hf (h _ fun _ _ h1 h2 => ⟨h1, h2⟩)
end
section
variable {P : Program} {n : Nat} {Q : Exit → St → Prop} {st : St}
end
theorem disj_nil (a : List Nat) : disj a [] = true := by
  induction a with
  | nil => rfl
  | cons x l ih => simp [disj]
theorem Fin.data {T : Nat → Option TI} {rs : List ResultVar} {e : Exit} {st : St} {ps : List PVal} {g : Prop} {x y : D} (he : e = .normal ∨ e = .ret) (hr : resL T st rs = some (ps, g)) (hg : g) (hd : (resP ps).toD st.heap = some x) (hs : subD x y) : Fin T rs (.d y) [] e st := by
  refine ⟨he, ?_⟩
  rw [hr]
  refine ⟨hg, ⟨fun k => k, fun _ => none, []⟩, rfl, trivial, ?_⟩
  simp only [viewP, hd, keptOf, List.map_nil]
  exact ⟨hs, disj_nil _⟩
theorem callP_data {P : Program} {fid : Nat} {nid : Nat → Nat} {st : St} {qs ps : List PVal} {r : PVal} {h' : List (Nat × PObj)} {K : Eff → Prop} (hr : Runs P fid ps [] r h') (ha : argsP st.heap (rename [] nid) qs ps) (hn : (h'.map (·.1)).Nodup) (give : Bool) (hg : give = true ∨ frozen qs ps = [] ∨ (r.flat = true ∧ h' = []))
    (hK : K ⟨r.shift (rename [] nid), if give = true then frozen qs ps else [], shiftH (rename [] nid) h'⟩) : callP P fid nid st qs [] ps [] r h' give K :=
  ⟨ha, hr, ⟨by simp, by simp, rfl, rfl⟩, ⟨hn, by simp⟩, hg, by simpa using hK⟩
theorem CallK.congr {P : Program} {fid : Nat} {nid : Nat → Nat} {st st' : St} {qs qs' : List PVal} {K : Eff → Prop} (hs : st = st') (hq : qs = qs') : CallK P fid nid st qs K = CallK P fid nid st' qs' K := by rw [hs, hq]
theorem CallG.congr {P : Program} {fid : Nat} {g g' : Bool} {st st' : St} {qs qs' : List PVal} {G G' : Prop} {K : Eff → Prop} (hb : g = g') (hs : st = st') (hq : qs = qs') (hG : G = G') : CallG P fid g st qs G K = CallG P fid g' st' qs' G' K := by rw [hb, hs, hq, hG]
attribute [congr] CallK.congr CallG.congr
theorem CallK.data {P : Program} {fid : Nat} {nid : Nat → Nat} {st : St} {qs ps : List PVal} {r : PVal} {h' : List (Nat × PObj)} {K : Eff → Prop} (hr : Runs P fid ps [] r h') (give : Bool) (ha : argsP st.heap (rename [] nid) qs ps) (hn : (h'.map (·.1)).Nodup) (hg : give = true ∨ frozen qs ps = [] ∨ (r.flat = true ∧ h' = []))
    (hK : K ⟨r.shift (rename [] nid), if give = true then frozen qs ps else [], shiftH (rename [] nid) h'⟩) : CallK P fid nid st qs K := ⟨[], ps, [], r, h', give, callP_data hr ha hn give hg hK⟩
theorem CallK.flat {P : Program} {fid : Nat} {nid : Nat → Nat} {st : St} {qs ps : List PVal} {x : D} {K : Eff → Prop} (hr : Runs P fid ps [] (.d x) []) (ha : argsP st.heap (rename [] nid) qs ps) (hg : frozen qs ps = [] ∨ x.flat = true) (hK : K ⟨.d x, [], []⟩) : CallK P fid nid st qs K :=
  CallK.data hr false ha (by simp) (by rcases hg with h | h; exact .inr (.inl h); exact .inr (.inr ⟨h, rfl⟩)) (by simpa [PVal.shift, shiftH] using hK)
theorem callee_fn (f : Nat) : callee (.d (.v (.func (.func f) #[] #[]))) = some (f, [], []) := rfl
theorem callee_clo (f : Nat) (a b : List PVal) : callee (.clo (.func f) a b) = some (f, a, b) := rfl
theorem callee_d (f : Nat) (a b : List D) : callee (.d (.fn (.func f) a b)) = some (f, a.map .d, b.map .d) := rfl
theorem subV_refl (x : Value) : subV x (.v x) := by
  unfold subV
  split
  · rename_i h; cases h
  · rfl
mutual
theorem subD_refl : ∀ x : D, subD x x
  | .v x => by simp only [subD]; exact subV_refl x
  | .agg xs => by simp only [subD]; exact subL_refl xs
  | .tup xs => by simp only [subD]; exact subL_refl xs
  | .slc _ es => by simp only [subD]; exact ⟨trivial, subL_refl es⟩
  | .ifc _ _ => by simp only [subD]
  | .fn _ _ _ => by simp only [subD]
  | .ptr _ => by simp only [subD]
theorem subL_refl : ∀ xs : List D, subL xs xs
  | [] => by simp only [subL]
  | x :: xs => by simp only [subL]; exact ⟨subD_refl x, subL_refl xs⟩
end
def PVal.isD : PVal → Bool
  | .d _ => true
  | _ => false
theorem args_same {h : List (Nat × PObj)} {ρ : Nat → Nat} : ∀ {qs : List PVal}, qs.all PVal.isD = true → argsP h ρ qs qs ∧ frozen qs qs = [] ∧ ∀ p ∈ qs, ∃ y, p = .d y
  | [], _ => ⟨trivial, rfl, by simp⟩
  | q :: qs, hq => by
    simp only [List.all_cons, Bool.and_eq_true] at hq
    obtain ⟨h1, h2, h3⟩ := args_same (h := h) (ρ := ρ) hq.2
    cases q with
    | d x =>
      refine ⟨⟨?_, h1⟩, by simp [frozen, PVal.ids, h2], ?_⟩
      · simp only [argP, PVal.toD]; exact subD_refl x
      · intro p hp
        rcases List.mem_cons.1 hp with rfl | hp
        · exact ⟨x, rfl⟩
        · exact h3 p hp
    | _ => simp [PVal.isD] at hq
theorem CallK.same {P : Program} {fid : Nat} {nid : Nat → Nat} {st : St} {qs : List PVal} {x : D} {K : Eff → Prop} (hr : Runs P fid qs [] (.d x) []) (hq : qs.all PVal.isD = true) (hK : K ⟨.d x, [], []⟩) : CallK P fid nid st qs K :=
  CallK.flat hr (args_same hq).1 (.inl (args_same (h := []) (ρ := fun k => k) hq).2.1) hK
theorem CallG.same {P : Program} {fid : Nat} {g : Bool} {st : St} {qs : List PVal} {G : Prop} {x : D} {K : Eff → Prop} (hr : g = true → Runs P fid qs [] (.d x) []) (hq : qs.all PVal.isD = true) (hG : g = true → G) (hK : K ⟨.gd g (.d x), [], []⟩) : CallG P fid g st qs G K :=
  ⟨qs, x, fun e => ⟨(args_same hq).1, (args_same (h := []) (ρ := fun k => k) hq).2.2, hr e, hG e⟩, .inl (args_same (h := []) (ρ := fun k => k) hq).2.1, hK⟩
def V0 : Turn := ⟨fun k => k, fun _ => none, []⟩
theorem turnOK_id (ks : List Nat) : turnOK V0 ks = true := by
  simp only [turnOK, V0, Bool.and_eq_true, List.all_eq_true, List.mem_range, Bool.or_eq_true, beq_iff_eq, bne_iff_ne]
  refine ⟨fun k hk => by simp, fun k hk => .inr fun k' hk' => ?_⟩
  by_cases h : k = k'
  · exact .inl (.inr h)
  · exact .inr h
theorem Sub.same {n : Nat} {s t : St} (hN : 8 ≤ t.next) (hh : viewH V0 s (keptOf V0 t) t.next t.heap) (ht : viewT V0 s (keptOf V0 t) t.next t.tmps) : Sub n s t := Sub.view V0 hN (turnOK_id _) hh ht
theorem args_toDL {h : List (Nat × PObj)} {ρ : Nat → Nat} : ∀ {qs : List PVal} {ds : List D}, toDL h qs = some ds → argsP h ρ qs (ds.map .d) ∧ frozen qs (ds.map .d) = idsL qs
  | [], ds, hd => by simp only [toDL, Option.some.injEq] at hd; subst hd; exact ⟨trivial, rfl⟩
  | q :: qs, ds, hd => by
    simp only [toDL] at hd
    split at hd
    · rename_i x xs h1 h2
      simp only [Option.some.injEq] at hd; subst hd
      obtain ⟨g1, g2⟩ := args_toDL (ρ := ρ) h2
      refine ⟨⟨?_, g1⟩, by simp only [List.map_cons, frozen, g2, idsL]⟩
      simp only [argP, h1]
      exact subD_refl x
    · cases hd
theorem CallK.toD {P : Program} {fid : Nat} {nid : Nat → Nat} {st : St} {qs : List PVal} {ds : List D} {x : D} {K : Eff → Prop} (hd : toDL st.heap qs = some ds) (hr : Runs P fid (ds.map .d) [] (.d x) []) (hf : x.flat = true) (hK : K ⟨.d x, [], []⟩) : CallK P fid nid st qs K :=
  CallK.flat hr (args_toDL hd).1 (.inr hf) hK
theorem CallG.toD {P : Program} {fid : Nat} {g : Bool} {st : St} {qs : List PVal} {G : Prop} {ds : List D} {x : D} {K : Eff → Prop} (hd : toDL st.heap qs = some ds) (hr : Runs P fid (ds.map .d) [] (.d x) []) (hf : x.flat = true) (hG : g = true → G) (hK : K ⟨.gd g (.d x), [], []⟩) : CallG P fid g st qs G K :=
  ⟨ds.map .d, x, fun e => ⟨(args_toDL hd).1, fun p hp => by obtain ⟨y, _, rfl⟩ := List.mem_map.1 hp; exact ⟨y, rfl⟩, hr, hG e⟩, .inr hf, hK⟩
theorem CallG.off {P : Program} {fid : Nat} {st : St} {qs : List PVal} {G : Prop} {K : Eff → Prop} (hK : K ⟨.gd false (.d (.v (.int .i64 0))), [], []⟩) : CallG P fid false st qs G K :=
  ⟨[], .v (.int .i64 0), (fun e => by cases e), .inr rfl, hK⟩
theorem OverK.two {P : Program} {T : Nat → Option TI} {fid s : Nat} {st : St} {K : Eff → Prop} {tS el : Nat} {te : TI} {id1 v1 o1 l1 id2 v2 o2 l2 e1 e2 : Nat} {r1 r2 : Option Nat} {els1 els2 : List D} (hi : IsOver P fid tS) (hk : kindOf T tS = some (.slice el)) (ht : T el = some te) (hs : te.size = s) (hp : 0 < s) (hne : id1 ≠ id2)
    (h1 : find id1 st.heap = some (.arr e1 s v1 r1 els1)) (h2 : find id2 st.heap = some (.arr e2 s v2 r2 els2)) (hl : 0 < l1 ∧ 0 < l2) (hK : K ⟨pbool false, [], []⟩) : OverK P T fid st [.own id1 v1 s o1 l1, .own id2 v2 s o2 l2] K := by
  subst hs
  exact ⟨tS, el, te, id1, v1, o1, l1, id2, v2, o2, l2, e1, r1, els1, e2, r2, els2, ⟨hi, hk, ht, hp⟩, rfl, hne, ⟨h1, h2, hl⟩, hK⟩
theorem CallK.give {P : Program} {fid : Nat} {nid : Nat → Nat} {st : St} {qs : List PVal} {ds : List D} {r : PVal} {h' : List (Nat × PObj)} {K : Eff → Prop} (hd : toDL st.heap qs = some ds) (hr : Runs P fid (ds.map .d) [] r h') (hn : (h'.map (·.1)).Nodup) (hK : K ⟨r.shift (rename [] nid), idsL qs, shiftH (rename [] nid) h'⟩) : CallK P fid nid st qs K :=
  CallK.data hr true (args_toDL hd).1 hn (.inl rfl) (by rw [if_pos rfl, (args_toDL (ρ := rename [] nid) hd).2]; exact hK)
theorem wrap_of {x : Int} (h1 : -9223372036854775808 ≤ x) (h2 : x ≤ 9223372036854775807) : IntKind.i64.wrap x = x := by
  rw [IntKind.wrap_i64]; omega
theorem wrap_succ {i : Nat} (h : i < 9223372036854775807) : IntKind.i64.wrap ((i : Int) + 1) = ((i + 1 : Nat) : Int) := by
  rw [IntKind.wrap_i64]; omega
theorem Pwp.room {P : Program} {n : Nat} {c : Code} {Q : Exit → St → Prop} {st : St} {id e s ver : Nat} {room : Option Nat} {els : List D} (hf : find id st.heap = some (.arr e s ver room els))
    (h : ∀ r, els.length ≤ r → r ≤ maxLen → Pwp P n c Q { st with heap := upd id (.arr e s ver (some r) els) st.heap }) : Pwp P n c Q st := by
  intro E S0 φ0 a w ⟨h1, h2, φ, S, h3, h4, h5⟩
  obtain ⟨g1, g2, g3, g4, g5⟩ := h3.objs id _ hf
  have hb : ∀ r, blk φ id (.arr e s ver r els) = blk φ id (.arr e s ver room els) := fun _ => rfl
  have hset : ∀ r, ORep w (Held E φ st.heap) φ id (.arr e s ver (some r) els) → Rst E S φ { st with heap := upd id (.arr e s ver (some r) els) st.heap } a w := by
    intro r ho
    have hO := held_set (o' := .arr e s ver (some r) els) (φ' := φ) h3 (fun _ _ _ => rfl) (fun c hc => .inr ⟨_, hf, hc⟩)
    exact h3.set (w' := w) (S' := S) (φ' := φ) rfl rfl rfl (Nat.le_refl _) (fun _ _ _ => rfl) (fun _ _ h => h) (fun _ _ _ => rfl) g1 g2 (fun _ _ _ h => h) (by simp only [PObj.und]) (fun c hc => ⟨(g4 c hc).1, .inr ⟨_, hf, hc⟩⟩)
      (ORep.keep (n := S) (φ' := φ) ⟨Nat.le_refl _, fun _ _ _ => rfl⟩ hO (fun _ _ _ => rfl) g1 (by simp only [PObj.und]) (fun _ _ => rfl) ho)
  simp only [ORep] at g5
  rcases g5 with ⟨q1, q2, q3⟩ | ⟨b, m, cs, q1, q2, q3, q4, q5, q6, q7⟩
  · exact h 0 (by simp [q2]) (by simp [maxLen]) E S0 φ0 a w ⟨h1, h2, φ, S, hset 0 (by simp only [ORep]; exact .inl ⟨q1, q2, fun n hn => by cases hn; rfl⟩), h4, h5⟩
  · exact h m q2 q3 E S0 φ0 a w ⟨h1, h2, φ, S, hset m (by simp only [ORep]; exact .inr ⟨b, m, cs, q1, q2, q3, fun n hn => by cases hn; rfl, q5, q6, q7⟩), h4, h5⟩
theorem Runs.slc {P : Program} {f : FuncId} {pre post : List PVal} {s : Nat} {els : List D} {h : List (Nat × PObj)} {r : PVal} {h' : List (Nat × PObj)} (h1 : els ≠ [] → Runs P f (pre ++ .d (.slc s els) :: post) h r h')
    (h2 : els = [] → ∀ ad cap, Runs P f (pre ++ .d (.v (.slice ad 0 cap)) :: post) h r h') : Runs P f (pre ++ .d (.slc s els) :: post) h r h' := by
  by_cases he : els = []
  · subst he
    refine ⟨(h2 rfl none 0).1, fun E S φ cs hp hS hr hu hx => ?_⟩
    have key : ∀ (pre : List PVal) (cs : List Value), PRepL E.w0 (Held E φ h) φ (pre ++ .d (.slc s []) :: post) cs → undL S (pre ++ .d (.slc s []) :: post) → ∃ ad cap, PRepL E.w0 (Held E φ h) φ (pre ++ .d (.v (.slice ad 0 cap)) :: post) cs ∧ undL S (pre ++ .d (.v (.slice ad 0 cap)) :: post) := by
      intro pre
      induction pre with
      | nil =>
        intro cs hx hu
        simp only [List.nil_append, PRepL, undL, PRep, DRep, PVal.und] at hx hu ⊢
        obtain ⟨c, cs', rfl, ⟨ad, cap, rfl, _⟩, h2⟩ := hx
        exact ⟨ad, cap, ⟨_, cs', rfl, rfl, h2⟩, hu⟩
      | cons p pre ih =>
        intro cs hx hu
        simp only [List.cons_append, PRepL, undL] at hx hu ⊢
        obtain ⟨c, cs', rfl, h1, h2⟩ := hx
        obtain ⟨ad, cap, h3, h4⟩ := ih cs' h2 hu.2
        exact ⟨ad, cap, ⟨c, cs', rfl, h1, h3⟩, hu.1, h4⟩
    obtain ⟨ad, cap, h3, h4⟩ := key pre cs hx hu
    exact (h2 rfl ad cap).2 E S φ cs hp hS hr h4 h3
  · exact h1 he
theorem cells_agg (cs : List D) : D.cells (.agg cs) = cs := rfl
theorem cells_int (k : IntKind) (n : Int) : D.cells (.v (.int k n)) = [.v (.int k n)] := rfl
theorem cells_bool (b : Bool) : D.cells (.v (.bool b)) = [.v (.bool b)] := rfl
theorem cells_str (b : ByteArray) : D.cells (.v (.string b)) = [.v (.string b)] := rfl
theorem cells_slice (a : Option Addr) (n c : Nat) : D.cells (.v (.slice a n c)) = [.v (.slice a n c)] := rfl
theorem cells_slc (s : Nat) (els : List D) : D.cells (.slc s els) = [.slc s els] := rfl
theorem cells_fn (f : Fn) (a b : List D) : D.cells (.fn f a b) = [.fn f a b] := rfl
theorem cells_ptr (a : List D) : D.cells (.ptr a) = [.ptr a] := rfl
theorem cells_vagg (cs : Array Value) : D.cells (.v (.agg cs)) = cs.toList.map .v := rfl
def V8 (id ver : Nat) : Turn := ⟨fun k => if k < 8 then k else id + (k - 8), fun k => if k = 8 then some ver else none, []⟩
theorem turnOK_8 {id ver : Nat} : turnOK (V8 id ver) [8] = true := by
  simp only [turnOK, V8, Bool.and_eq_true, List.all_eq_true, List.mem_range, Bool.or_eq_true, beq_iff_eq, bne_iff_ne, List.mem_singleton]
  refine ⟨fun k hk => ?_, fun k hk => .inr fun k' hk' => .inl (.inr (by omega))⟩
  have : k ≠ 8 := by omega
  simp [hk, this]
theorem Fin.row {T : Nat → Option TI} {rs : List ResultVar} {ex : Exit} {st : St} {g : Prop} {id ver e s len : Nat} {room : Option Nat} {els : List D} (he : ex = .normal ∨ ex = .ret) (hr : resL T st rs = some ([.own id ver s 0 len], g)) (hg : g) (hf : find id st.heap = some (.arr e s ver room els)) (hl : len = els.length) :
    Fin T rs (.own 8 0 s 0 els.length) [(8, .arr e s 0 none els)] ex st := by
  subst hl
  refine ⟨he, ?_⟩
  rw [hr]
  refine ⟨hg, V8 id ver, turnOK_8, ?_, ?_⟩
  · simp only [viewH, V8, List.contains_nil, Bool.false_eq_true, if_false, and_true]
    refine ⟨by omega, ?_⟩
    have : (if 8 < 8 then 8 else id + (8 - 8)) = id := by simp
    rw [this, hf]
    simp [viewO, V8]
  · simp only [resP, viewP, V8, List.contains_nil, Bool.false_eq_true, if_false]
    exact ⟨by omega, by simp⟩
theorem CallK.rows2 {P : Program} {fid : Nat} {nid : Nat → Nat} {st : St} {K : Eff → Prop} {i1 i2 v1 v2 s1 s2 l1 l2 e1 e2 : Nat} {r1 r2 : Option Nat} {els1 els2 : List D} {p : D} {r : PVal} {h' : List (Nat × PObj)}
    (hr : Runs P fid [.own 0 v1 s1 0 l1, .d p, .own 1 v2 s2 0 l2] [(0, .arr e1 s1 v1 r1 els1), (1, .arr e2 s2 v2 r2 els2)] r h') (h1 : find i1 st.heap = some (.arr e1 s1 v1 r1 els1)) (h2 : find i2 st.heap = some (.arr e2 s2 v2 r2 els2)) (hne : i1 ≠ i2) (hn : (h'.map (·.1)).Nodup)
    (hK : K ⟨r.shift (rename [i1, i2] nid), [i1, i2], shiftH (rename [i1, i2] nid) h'⟩) : CallK P fid nid st [.own i1 v1 s1 0 l1, .d p, .own i2 v2 s2 0 l2] K := by
  refine ⟨[i1, i2], _, _, r, h', false, ?_, hr, ⟨by simp [hne], by simp, rfl, ?_⟩, ⟨hn, by simp [frozen, PVal.ids]⟩, .inr (.inl (by simp [frozen, PVal.ids])), by simpa using hK⟩
  · simp [argsP, argP, PVal.shift, rename, PVal.toD, subD_refl]
  · simp [PObj.shift, h1, h2]
theorem Fin.nil {T : Nat → Option TI} {rs : List ResultVar} {ex : Exit} {st : St} {g : Prop} {e s : Nat} (he : ex = .normal ∨ ex = .ret) (hr : resL T st rs = some ([pnil], g)) (hg : g) : Fin T rs (.own 8 0 s 0 0) [(8, .arr e s 0 none [])] ex st := by
  refine ⟨he, ?_⟩
  rw [hr]
  refine ⟨hg, ⟨fun k => k, fun _ => none, [8]⟩, rfl, ?_, ?_⟩
  · simp [viewH]
  · simp [resP, viewP]
theorem toDL_ds (h : List (Nat × PObj)) : ∀ ds : List D, toDL h (ds.map .d) = some ds
  | [] => rfl
  | d :: ds => by simp only [List.map_cons, toDL, PVal.toD, toDL_ds h ds]
theorem half {i j : Nat} (h : i + j < 9223372036854775807) : IntKind.i64.wrap (Int.fdiv (IntKind.u64.wrap (IntKind.i64.wrap ((i : Int) + j))) (2 ^ min 1 IntKind.u64.bits)) = (((i + j) / 2 : Nat) : Int) := by
  have h1 : IntKind.i64.wrap ((i : Int) + j) = ((i + j : Nat) : Int) := by rw [wrap_of (by omega) (by omega)]; simp
  have h2 : IntKind.u64.wrap ((i + j : Nat) : Int) = ((i + j : Nat) : Int) := by
    simp only [IntKind.wrap, IntKind.bits, IntKind.signed]
    simp
    omega
  rw [h1, h2]
  have h3 : (2 : Int) ^ min 1 IntKind.u64.bits = 2 := by decide
  rw [h3]
  have h4 : Int.fdiv ((i + j : Nat) : Int) 2 = (((i + j) / 2 : Nat) : Int) := by
    rw [Int.fdiv_eq_ediv_of_nonneg _ (by omega)]; omega
  rw [h4, wrap_of (by omega) (by omega)]
theorem viewL_ds (V : Turn) (h : List (Nat × PObj)) (kept : List Nat) (N : Nat) : ∀ ds : List D, viewL V h kept N (ds.map .d) (ds.map .d)
  | [] => by simp only [List.map_nil, viewL]
  | d :: ds => by
    simp only [List.map_cons, viewL, viewP, PVal.toD, PVal.ids]
    exact ⟨⟨subD_refl d, rfl⟩, viewL_ds V h kept N ds⟩
theorem Pwp.range {P : Program} {n : Nat} {Q : Exit → St → Prop} {st : St} {c : Code} (m : Nat) (S : Nat → St) (h0 : Sub n st (S 0)) (step : ∀ i, i < m → Pwp P n c (thenS (fun s => Sub n s (S (i + 1))) Q) (S i))
    (done : Pwp P n c (thenS (fun _ => False) Q) (S m)) : Pwp P n (.loop c) Q st := by
  refine Pwp.loop (fun k s => ∃ i, i ≤ m ∧ k = m - i ∧ s = S i) m h0 ⟨0, by omega, by omega, rfl⟩ ?_
  rintro k s ⟨i, hi, rfl, rfl⟩
  rcases Nat.lt_or_ge i m with h | h
  · refine (step i h).mono fun e s hs => ?_
    cases e with
    | normal => exact ⟨m - (i + 1), S (i + 1), by omega, hs, i + 1, by omega, rfl, rfl⟩
    | _ => exact hs
  · obtain rfl : i = m := by omega
    refine done.mono fun e s hs => ?_
    cases e with
    | normal => exact hs.elim
    | _ => exact hs
theorem Pwp.rangeI {P : Program} {n : Nat} {Q : Exit → St → Prop} {st s0 : St} {c : Code} (m : Nat) (I : Nat → St → Prop) (h0 : Sub n st s0) (hI : I 0 s0) (step : ∀ i s, i < m → I i s → Pwp P n c (thenS (fun s => ∃ t, Sub n s t ∧ I (i + 1) t) Q) s)
    (done : ∀ s, I m s → Pwp P n c (thenS (fun _ => False) Q) s) : Pwp P n (.loop c) Q st := by
  refine Pwp.loop (fun k s => ∃ i, i ≤ m ∧ k = m - i ∧ I i s) m h0 ⟨0, by omega, by omega, hI⟩ ?_
  rintro k s ⟨i, hi, rfl, hs⟩
  rcases Nat.lt_or_ge i m with h | h
  · refine (step i s h hs).mono fun e s hs => ?_
    cases e with
    | normal =>
      obtain ⟨t, h1, h2⟩ := hs
      exact ⟨m - (i + 1), t, by omega, h1, i + 1, by omega, rfl, h2⟩
    | _ => exact hs
  · obtain rfl : i = m := by omega
    refine (done s hs).mono fun e s hs => ?_
    cases e with
    | normal => exact hs.elim
    | _ => exact hs
theorem dlt {i n : Nat} (h : i < n) : decide ((i : Int) < (n : Int)) = true := decide_eq_true (by omega)
theorem dge {i n : Nat} (h : n ≤ i) : decide ((i : Int) < (n : Int)) = false := decide_eq_false (by omega)
theorem at_lt {α : Type} {l : List α} {i : Nat} (h : i < l.length) : ∃ x, l[i]? = some x ∧ x ∈ l := ⟨l[i], List.getElem?_eq_getElem h, List.getElem_mem h⟩
def V9 (v : Nat) : Turn := ⟨fun k => k, fun k => if k = 9 then some v else none, []⟩
def V9n : Turn := ⟨fun k => k, fun _ => none, [9]⟩
def VR (id v : Nat) : Turn := ⟨fun k => k, fun k => if k = id then some v else none, []⟩
def VN (id : Nat) : Turn := ⟨fun k => k, fun _ => none, [id]⟩
structure Tag (K : Eff → Prop) : Type where mk ::
def hold (K : Eff → Prop) (_ : Tag K) : Eff → Prop := K
theorem hold_app (K : Eff → Prop) (t : Tag K) (e : Eff) : hold K t e = K e := rfl
section
variable (P : Program) (T : Nat → Option TI) (eqt : Nat → Option (List CK)) (all : List Oper) (L base i : Nat) (o : Oper) (rest : List Oper) (st : St)
end
theorem mapGet_nil (kk : Option (List CK)) (x z : D) : mapGet kk x [] z = some (z, false) := rfl
theorem mapSet_nil (kk : Option (List CK)) (x v : D) : mapSet kk x v [] = some [(x, v)] := rfl
theorem keyEq_agg (ks : List CK) (xs ys : List D) : keyEq (some ks) (.agg xs) (.agg ys) = cellsEq ks xs ys := rfl
theorem keyEq_int (k : IntKind) (a b : Int) : keyEq none (.v (.int k a)) (.v (.int k b)) = some (a == b) := by simp [keyEq]
theorem gq {P : Program} {T : Nat → Option TI} {eqt : Nat → Option (List CK)} {all : List Oper} :
    (∀ (L base i : Nat) (st : St) (K : St → Prop), opsP P T eqt all L base i [] st K = K { st with next := base + 4 * L }) ∧
    (∀ (L base i : Nat) (o : Oper) (rest : List Oper) (st : St) (K : St → Prop), opsP P T eqt all L base i (o :: rest) st K = opN P T eqt (nidOf base L i) all o st (hold (fun e => opsP P T eqt all L base (i + 1) rest (st.app o.dst e) K) ⟨⟩)) ∧
    (∀ (L base i : Nat) (st : St) (tr : List Foot) (K : St → List Foot → Prop), opsD P T eqt all L base i [] st tr K = K { st with next := base + 4 * L } tr) ∧
    (∀ (L base i : Nat) (o : Oper) (rest : List Oper) (st : St) (tr : List Foot) (K : St → List Foot → Prop), opsD P T eqt all L base i (o :: rest) st tr K = opP P T eqt (nidOf base L i) all o st (hold (fun e => opsD P T eqt all L base (i + 1) rest (st.app o.dst e) (tr ++ [footOf o st e]) K) ⟨⟩)) ∧
    (∀ (nid : Nat → Nat) (o : Oper) (st : St) (K : Eff → Prop), opN P T eqt nid all o st K = (match o.op, o.guard with
      | .range t x, none => rangeP T nid t x st K
      | .next x false, none => nextP x st K
      | .next x true, none => nextS x st K
      | .entry x, none => entryP x st K
      | _, _ => opP P T eqt nid all o st K)) ∧
    (∀ (nid : Nat → Nat) (o : Oper) (st : St) (K : Eff → Prop), opP P T eqt nid all o st K = (match o.guard with
      | none => stepP P T eqt nid o.op st K
      | some (g, want) => (match dstOf all g with
        | some t => (match guardP (st.ev (.tmp t)) want with
          | some b => stepG P T eqt nid b o.op st K
          | none => False)
        | none => False))) :=
  ⟨fun _ _ _ _ _ => rfl, fun _ _ _ _ _ _ _ => rfl, fun _ _ _ _ _ _ => rfl, fun _ _ _ _ _ _ _ _ => rfl, fun _ _ _ _ => rfl, fun _ _ _ _ => rfl⟩
attribute [simp] viewH viewP viewL viewO viewT St.ev keptOf V0 V9 V9n VR VN find PVal.toD subD subL subV subD_refl subL_refl viewL_ds disj PVal.ids
theorem goA {P : Program} {n id : Nat} {Q : Exit → St → Prop} {st : St} {ops : Array Oper} {y : Code} (hf : opsFit n ops.toList = true) (h : ∀ K : St → Prop, (∀ s, Pwp P n y Q s → K s) → opsP P (tiOf P) (eqOf P) ops.toList ops.size st.next 0 ops.toList st K) : Pwp P n (.seq (.region id ops false) y) Q st := Pwp.step (kit P) hf h
theorem goB {P : Program} {n id : Nat} {Q : Exit → St → Prop} {st : St} {ops : Array Oper} (hf : opsFit n ops.toList = true) (h : ∀ K : St → Prop, (∀ s, Q .normal s → K s) → opsP P (tiOf P) (eqOf P) ops.toList ops.size st.next 0 ops.toList st K) : Pwp P n (.region id ops false) Q st := Pwp.last (kit P) hf h
theorem goC {P : Program} {n id : Nat} {Q : Exit → St → Prop} {st : St} {ops : Array Oper} {y : Code} (hm : P.follows .mixedOrders = true) (hf : opsFit n ops.toList = true) (h : ∀ K : St → List Foot → Prop, (∀ s feet, orderOK ops feet = true → Pwp P n y Q s → K s feet) → opsD P (tiOf P) (eqOf P) ops.toList ops.size st.next 0 ops.toList st [] K) : Pwp P n (.seq (.region id ops true) y) Q st := Pwp.stepD (kit P) hm hf h
theorem goD {P : Program} {n id : Nat} {Q : Exit → St → Prop} {st : St} {ops : Array Oper} (hm : P.follows .mixedOrders = true) (hf : opsFit n ops.toList = true) (h : ∀ K : St → List Foot → Prop, (∀ s feet, orderOK ops feet = true → Q .normal s → K s feet) → opsD P (tiOf P) (eqOf P) ops.toList ops.size st.next 0 ops.toList st [] K) : Pwp P n (.region id ops true) Q st := Pwp.lastD (kit P) hm hf h
attribute [go_sem] reduceIte Nat.reduceAdd Nat.reduceMul Nat.reduceEqDiff Nat.reduceLT Nat.reduceLeDiff Nat.reduceSub reduceCtorEq Int.reduceToNat Int.reduceAdd Int.reduceSub Int.reduceLT Int.reduceLE Int.reduceNeg Int.reduceBEq Int.reduceBNe true_or footOf
attribute [go_sem] rangeP nextP nextS entryP mvOf mapGet_nil mapSet_nil keyEq_agg keyEq_int keyCK CK.plain lookupP lenMP Option.isSome hold_app computeP St.start St.evs St.ev St.gds PVal.strip find List.range List.range.loop List.zip List.zipWith List.length PVal.told cells_agg cells_int cells_bool cells_str cells_slice cells_slc cells_fn cells_ptr cells_vagg PVal.cells ofV updAll delAll upd del St.app St.put Option.getD nidOf kindOf loadP fieldAddrP fieldP indexAddrP indexP sliceP lenP fillP buildP binP intOp asInt asBool asStr asSlc ofCells TK.known TK.isAgg List.drop List.take List.head? List.getElem?_cons_zero List.getElem?_cons_succ List.map List.append List.all D.one PVal.one splice Option.map PVal.toD toDL unP convP pickP guardP dstOf zeroCells Value.cells optInt isNil nilP recP PVal.ids idsL if_true if_false List.size_toArray true_and and_true Nat.zero_mul Nat.add_zero Nat.zero_add Nat.add_one_ne_zero List.nil_append List.cons_append and_self Bool.and_true Bool.true_and decide_true Option.any forall_const gt_iff_lt ge_iff_le Bool.not_true Bool.not_false callee_fn callee_clo callee_d implies_true List.append_nil List.singleton_append beq_true beq_false imp_self Bool.cond_false_right Bool.cond_true_left Int.toNat_natCast Int.toNat_zero Int.natCast_nonneg Int.zero_le_ofNat Int.natCast_zero Int.cast_ofNat_Int decide_false srcP roomOf upTo Nat.sub_zero PVal.shift shiftL shiftH PObj.shift rename List.getD_cons_zero List.getD_cons_succ List.getD_nil cellsEq cellEq eq_self storeE D.withCells List.contains_nil
end Go.Proofs.Ytdodgbhodkcckaa.Pv
end
section
set_option linter.unusedVariables false
set_option linter.unusedSimpArgs false
set_option linter.unusedSectionVars false
set_option autoImplicit false
namespace Go.Proofs.Ytdodgbhodkcckaa.Pv
open Go Go.RowKit Go.ChangeShapes
def env0 (W : World) : Env := ⟨W, fun _ => False, fun _ => False, fun _ h => h.elim, fun _ h => h.elim⟩
theorem held0 (W : World) (b : Nat) : ¬ Held (env0 W) (fun _ _ => none) [] b := by
  rintro (h | ⟨i, o, h, _⟩)
  · exact h
  · simp [find] at h
theorem law_calls {P : Program} {f : FuncId} {xs : List D} {W : World} {args : Array Value} (hr : Runs P f (xs.map .d) [] (.d (.v (.bool true))) []) (hx : DRepL W (Held (env0 W) (fun _ _ => none) []) xs args.toList) :
    Calls P f args W fun e w' => e = .returned (.bool true) ∧ w'.os = W.os ∧ w'.output = W.output ∧ W.heap.size ≤ w'.heap.size ∧ ∀ b, b < W.heap.size → w'.heap[b]? = W.heap[b]? := by
  have h0 : Rst (env0 W) (fun _ _ => False) (fun _ _ => none) (.only []) Act.none W :=
    { os := rfl, tape := rfl, output := rfl, size := Nat.le_refl _, old := fun _ _ _ => rfl, defers := rfl, tmps := by intro t p h; simp [St.only, find] at h, objs := by intro id o h; simp [St.only, find] at h, inj := by intro id id' o o' b h; simp [St.only, find] at h }
  have h1 := hr.2 (env0 W) (fun _ _ => False) (fun _ _ => none) args.toList (fun b h => h.elim) (fun k v h => h.elim) h0 (undL_ds _ _) (PRepL.ds hx)
  rw [Array.toArray_toList] at h1
  refine h1.mono ?_
  rintro e w' ⟨c, φ', S', rfl, g1, _, _, _, g2⟩
  simp only [PRep, DRep] at g2
  subst g2
  exact ⟨rfl, g1.os, g1.output, g1.size, fun b hb => g1.old b hb fun h => h⟩
section
variable {H : Type} {enc : TypeId × Value → H} {P : Program} {W W' : World} {base : Nat} {sp : Nat → Bool} {held : Bool}
theorem trodAll_carry : ∀ {ts : List TypeId} {vs : List Value} {ds : List (DataW H)} {ps : List MemPlace}, DataW.TrodAll enc P W base sp held ts vs ds ps → (∀ p ∈ ps, W.sameAt W' p) → DataW.TrodAll enc P W' base sp held ts vs ds ps
  | [], [], [], ps, h, _ => h
  | t :: ts, v :: vs, d :: ds, ps, h, hs => by
    simp only [DataW.TrodAll] at h ⊢
    obtain ⟨p, q, ⟨fuel, h1⟩, h2, rfl⟩ := h
    exact ⟨p, q, ⟨fuel, DataW.trod_carry fuel _ _ _ h1 fun x hx => hs x (List.mem_append_left _ hx)⟩, trodAll_carry h2 fun x hx => hs x (List.mem_append_right _ hx), rfl⟩
  | [], [], _ :: _, ps, h, _ => by simp [DataW.TrodAll] at h
  | [], _ :: _, _, ps, h, _ => by simp [DataW.TrodAll] at h
  | _ :: _, [], _, ps, h, _ => by simp [DataW.TrodAll] at h
  | _ :: _, _ :: _, [], ps, h, _ => by simp [DataW.TrodAll] at h
theorem law_post {f : Func} {s : ChangeSpec} {apart fresh handsOn again : Bool} {args : Array Value} {ds gs : List (DataW H)} {before : List MemPlace} {tb : TypeId}
    (K : Kids P (· < P.types.size)) (hz : ∀ t e, t < P.types.size → P.underlying t = some (.slice e) → 0 < P.cellsOf e) (hts : ∀ t ∈ f.params.toList, t < P.types.size)
    (hW : DataW.Whole enc P f.params.toList s.vars apart W args.toList ds gs before) (hv0 : s.vars = [])
    (hres : (s.fn H ds).results = [.lit (.bool true)]) (hargs : (s.fn H ds).args = ds) (hvars : (s.fn H ds).vars = []) (hrt : f.resultTypes = #[tb]) (hub : P.underlying tb = some .bool)
    (hos : W'.os = W.os) (hout : W'.output = W.output) (hsize : W.heap.size ≤ W'.heap.size) (hold : ∀ b, b < W.heap.size → W'.heap[b]? = W.heap[b]?) :
    s.post enc P f apart fresh handsOn again W args (.bool true) W' := by
  have hlt := hW.lt
  have hW' := hW
  obtain ⟨p, q, hA, hV, rfl, hfz, hnd⟩ := hW
  rw [hv0] at hV
  obtain ⟨rfl, rfl⟩ := trodVars_none hV
  simp only [List.append_nil] at hlt hfz hnd
  have same : ∀ x ∈ p, W.sameAt W' x := by
    intro x hx
    have := hlt x hx
    cases x with
    | cell b off => simp only [World.sameAt, World.cell?]; rw [hold b this]
    | map b => simp only [World.sameAt]; rw [hold b this]
  have again' : ∀ sp : Nat → Bool, (∀ x ∈ p, sp x.block = true) → DataW.TrodAll enc P W' 0 sp true f.params.toList args.toList ds p := fun sp hs => trodAll_carry (DataW.TrodAll.respare K hz hts hA hs) same
  have res : ∀ (b : Nat) (sp : Nat → Bool) (hd : Bool), DataW.TrodAll enc P W' b sp hd f.resultTypes.toList ((Value.bool true).resultList f.resultTypes.size) (s.fn H ds).results [] := by
    intro b sp hd
    rw [hrt, hres]
    exact trodAll_mk1 (shut_bool hub true)
  have hvs : ∀ sp : Nat → Bool, DataW.TrodVars enc P W' sp s.vars (s.fn H ds).vars [] := by
    intro sp; rw [hv0, hvars]; simp only [DataW.TrodVars]
  refine ⟨ds, [], p ++ [], [], p, [], hW', ?_, ?_, ?_, ?_, fun _ => ⟨ok_one hrt rfl (okWide_bool_mk hub true), ?_⟩⟩
  · rw [List.append_nil]; exact res _ _ _
  · rw [List.append_nil, hargs]; exact again' _ fun x hx => by simpa using hlt x hx
  · rw [List.append_nil]; exact hvs _
  · refine ⟨hos, hout, fun i hi => ?_⟩
    rw [hold i hi]
    cases h : W.heap[i]? with
    | none => rfl
    | some o => cases o <;> simp
  · refine ⟨_, _, ([] ++ p) ++ [], ⟨[] ++ p, [], trodAll_append (again' _ fun _ _ => rfl) (res _ _ _), hvs _, rfl, ?_, ?_⟩, ?_⟩
    · intro b off hp
      have hp' : MemPlace.cell b off ∈ p := by simpa using hp
      rw [World.frozen?_of_block (hold b (hlt _ hp'))]
      exact hfz b off hp'
    · intro ha; simpa using hnd ha
    · intro x hx _; simpa using hx
end
theorem els_of {α : Type} (f : α → D) (Q : α → Prop) : ∀ {els : List D}, (∀ el ∈ els, ∃ x, el = f x ∧ Q x) → ∃ xs : List α, els = xs.map f ∧ ∀ x ∈ xs, Q x
  | [], _ => ⟨[], rfl, by simp⟩
  | el :: els, h => by
    obtain ⟨x, rfl, hx⟩ := h el (by simp)
    obtain ⟨xs, rfl, hxs⟩ := els_of f Q (els := els) fun e he => h e (List.mem_cons_of_mem _ he)
    exact ⟨x :: xs, rfl, by intro y hy; rcases List.mem_cons.1 hy with rfl | hy; exact hx; exact hxs y hy⟩
end Go.Proofs.Ytdodgbhodkcckaa.Pv
end
end
section
set_option maxRecDepth 100000
namespace Go.Proofs.Ytdodgbhodkcckaa
open Go
def headSigns : List Nat := [
  104, 97, 114, 110, 101, 115, 115, 32, 102, 98, 53, 51, 100, 100, 51, 50, 99, 101, 53, 56, 52, 100, 55, 98, 102, 98, 51, 48, 102, 50, 56, 99, 55, 102, 54, 100, 55, 98, 99, 50,
  53, 50, 102, 48, 48, 56, 52, 49, 56, 53, 98, 56, 98, 56, 99, 52, 48, 49, 100, 98, 53, 100, 100, 101, 50, 53, 57, 53, 49, 54, 55, 99, 32, 99, 117, 116, 32, 97, 116, 32,
  99, 111, 110, 116, 114, 97, 47, 99, 111, 110, 116, 114, 97, 108, 97, 119, 48, 50, 46, 86, 101, 99, 116, 111, 114, 80, 108, 97, 121, 115, 32, 99, 111, 110, 116, 114, 97, 47, 99, 111,
  110, 116, 114, 97, 108, 97, 119, 48, 50, 46, 86, 101, 99, 116, 111, 114, 66, 97, 99, 107, 32, 99, 111, 110, 116, 114, 97, 47, 99, 111, 110, 116, 114, 97, 108, 97, 119, 48, 50, 46,
  86, 101, 99, 116, 111, 114, 79, 114, 100, 101, 114, 32, 99, 111, 110, 116, 114, 97, 47, 99, 111, 110, 116, 114, 97, 108, 97, 119, 48, 50, 46, 86, 101, 99, 116, 111, 114, 80, 97, 114,
  116, 115, 32, 99, 111, 110, 116, 114, 97, 47, 99, 111, 110, 116, 114, 97, 108, 97, 119, 48, 50, 46, 86, 101, 99, 116, 111, 114, 80, 108, 117, 115, 32, 99, 111, 110, 116, 114, 97, 47,
  99, 111, 110, 116, 114, 97, 108, 97, 119, 49, 48, 46, 66, 111, 111, 107, 78, 97, 109, 101, 115, 32, 99, 111, 110, 116, 114, 97, 47, 99, 111, 110, 116, 114, 97, 108, 97, 119, 49, 53,
  46, 69, 108, 105, 109, 76, 111, 111, 107, 32, 99, 111, 110, 116, 114, 97, 47, 99, 111, 110, 116, 114, 97, 108, 97, 119, 49, 53, 46, 69, 108, 105, 109, 90, 101, 114, 111, 32, 99, 111,
  110, 116, 114, 97, 47, 99, 111, 110, 116, 114, 97, 108, 97, 119, 49, 53, 46, 69, 108, 105, 109, 79, 116, 104, 101, 114, 115, 32, 99, 111, 110, 116, 114, 97, 47, 99, 111, 110, 116, 114,
  97, 108, 97, 119, 49, 53, 46, 69, 108, 105, 109, 79, 100, 100, 32, 99, 111, 110, 116, 114, 97, 47, 99, 111, 110, 116, 114, 97, 108, 97, 119, 49, 53, 46, 69, 108, 105, 109, 71, 114,
  111, 117, 112, 32, 99, 111, 110, 116, 114, 97, 47, 99, 111, 110, 116, 114, 97, 108, 97, 119, 49, 52, 46, 77, 97, 116, 99, 104, 80, 108, 97, 121, 115, 32, 99, 111, 110, 116, 114, 97,
  47, 99, 111, 110, 116, 114, 97, 108, 97, 119, 49, 52, 46, 77, 97, 116, 99, 104, 80, 97, 105, 114, 32, 99, 111, 110, 116, 114, 97, 47, 99, 111, 110, 116, 114, 97, 108, 97, 119, 49,
  52, 46, 77, 97, 116, 99, 104, 84, 119, 105, 99, 101, 32, 99, 111, 110, 116, 114, 97, 47, 99, 111, 110, 116, 114, 97, 108, 97, 119, 49, 52, 46, 77, 97, 116, 99, 104, 70, 97, 114,
  32, 99, 111, 110, 116, 114, 97, 47, 99, 111, 110, 116, 114, 97, 108, 97, 119, 49, 52, 46, 77, 97, 116, 99, 104, 83, 116, 114, 97, 110, 103, 101, 114, 115, 32, 99, 111, 110, 116, 114,
  97, 47, 99, 111, 110, 116, 114, 97, 108, 97, 119, 49, 52, 46, 77, 97, 116, 99, 104, 69, 110, 100, 115, 32, 99, 111, 110, 116, 114, 97, 47, 99, 111, 110, 116, 114, 97, 108, 97, 119,
  49, 55, 46, 86, 111, 116, 101, 80, 108, 97, 121, 115, 32, 99, 111, 110, 116, 114, 97, 47, 99, 111, 110, 116, 114, 97, 108, 97, 119, 49, 55, 46, 86, 111, 116, 101, 75, 101, 101, 112,
  115, 32, 99, 111, 110, 116, 114, 97, 47, 99, 111, 110, 116, 114, 97, 108, 97, 119, 49, 55, 46, 86, 111, 116, 101, 79, 110, 99, 101, 32, 99, 111, 110, 116, 114, 97, 47, 99, 111, 110,
  116, 114, 97, 108, 97, 119, 49, 55, 46, 86, 111, 116, 101, 70, 117, 108, 108, 32, 99, 111, 110, 116, 114, 97, 47, 99, 111, 110, 116, 114, 97, 108, 97, 119, 49, 54, 46, 67, 121, 99,
  108, 101, 78, 101, 116, 115, 32, 99, 111, 110, 116, 114, 97, 47, 99, 111, 110, 116, 114, 97, 108, 97, 119, 49, 54, 46, 67, 121, 99, 108, 101, 90, 101, 114, 111, 32, 99, 111, 110, 116,
  114, 97, 47, 99, 111, 110, 116, 114, 97, 108, 97, 119, 49, 54, 46, 67, 121, 99, 108, 101, 66, 111, 116, 104, 32, 99, 111, 110, 116, 114, 97, 47, 99, 111, 110, 116, 114, 97, 108, 97,
  119, 49, 54, 46, 67, 121, 99, 108, 101, 77, 105, 110, 101, 32, 99, 111, 110, 116, 114, 97, 47, 99, 111, 110, 116, 114, 97, 108, 97, 119, 49, 54, 46, 67, 121, 99, 108, 101, 65, 100,
  100, 115, 32, 99, 111, 110, 116, 114, 97, 47, 99, 111, 110, 116, 114, 97, 108, 97, 119, 49, 56, 46, 67, 104, 105, 101, 102, 80, 108, 97, 121, 115, 32, 99, 111, 110, 116, 114, 97, 47,
  99, 111, 110, 116, 114, 97, 108, 97, 119, 49, 56, 46, 67, 104, 105, 101, 102, 79, 110, 101, 32, 99, 111, 110, 116, 114, 97, 47, 99, 111, 110, 116, 114, 97, 108, 97, 119, 49, 56, 46,
  67, 104, 105, 101, 102, 79, 119, 110, 32, 99, 111, 110, 116, 114, 97, 47, 99, 111, 110, 116, 114, 97, 108, 97, 119, 49, 56, 46, 67, 104, 105, 101, 102, 76, 97, 116, 101, 32, 99, 111,
  110, 116, 114, 97, 47, 99, 111, 110, 116, 114, 97, 108, 97, 119, 49, 56, 46, 67, 104, 105, 101, 102, 79, 112, 101, 110]
theorem Try.head : Try.prog.initOrder = String.ofList (headSigns.map Char.ofNat) := by kernel_rfl
theorem Try.words : (behindMainWord (wordsSigns (headSigns.map Char.ofNat))).head? = some "cut".toList := by kernel_rfl
theorem Try.cut : ∃ rest, behindMainWord (wordsSigns Try.prog.initOrder.toList) = "cut".toList :: rest := by
  rw [Try.head, String.toList_ofList]
  have h := Try.words
  revert h
  generalize behindMainWord (wordsSigns (headSigns.map Char.ofNat)) = l
  intro h
  cases l with
  | nil => cases h
  | cons a l => exact ⟨l, by rw [Option.some.inj h]⟩
theorem strip_cut (rest : List (List Char)) : stripLifts liftWords ("cut".toList :: rest) = ([], "cut".toList :: rest) := by kernel_rfl
section
variable {P : Program} {rest : List (List Char)} (h : behindMainWord (wordsSigns P.initOrder.toList) = "cut".toList :: rest)
include h
theorem mayEnter_cut (h1 : P.laysLater = false) (h2 : P.bearsReflect = false) (h3 : P.doorRows = []) : P.mayEnter = true := by
  unfold Program.mayEnter Program.doorFits
  rw [h, h3]
  simp only [strip_cut, h1, h2]
  kernel_rfl
theorem headLifts_cut : P.headLifts = [] := by
  unfold Program.headLifts
  rw [h]
  simp only [strip_cut]
  kernel_rfl
theorem liftsFinal_cut : P.liftsFinal = false := by
  unfold Program.liftsFinal
  rw [h, headLifts_cut h]
  kernel_rfl
theorem make_cut : P.make = some .cut := by
  unfold Program.make
  rw [h]
  kernel_rfl
end
end Go.Proofs.Ytdodgbhodkcckaa
end
section
set_option maxRecDepth 100000
namespace Go.Proofs.Ytdodgbhodkcckaa
open Go Go.ChangeShapes Go.WideShapes Go.ChangeAt Go.RowKit Pv
theorem Try.own : ownKnob Try.prog.godebug = none := by kernel_rfl
theorem Try.laidOut : laidOutB Try.prog = true := by kernel_rfl
theorem Try.rowed : mapsRowed Try.prog = true := by kernel_rfl
theorem Try.kids : Kids Try.prog (· < Try.prog.types.size) := kids_rows Try.laidOut Try.rowed
theorem Try.full : ∀ t e, t < Try.prog.types.size → Try.prog.underlying t = some (.slice e) → 0 < Try.prog.cellsOf e := slices_full_of Try.prog (by kernel_rfl)
theorem Try.stops0 : (Try.prog.stops == []) = true := by kernel_rfl
theorem Try.stopKnobs0 : (Try.prog.stopKnobs == []) = true := by kernel_rfl
theorem Try.heard : Try.prog.stopsHeard = true := by kernel_rfl
theorem Try.later0 : Try.prog.laysLater = false := by kernel_rfl
theorem Try.reflect0 : Try.prog.bearsReflect = false := by kernel_rfl
theorem Try.doors0 : Try.prog.doorRows = [] := by kernel_rfl
theorem Try.enters : Try.prog.mayEnter = true := by
  obtain ⟨rest, h⟩ := Try.cut
  exact mayEnter_cut h Try.later0 Try.reflect0 Try.doors0
theorem Try.lifted0 : (false == Try.prog.liftsFinal) = true := by
  obtain ⟨rest, h⟩ := Try.cut
  rw [liftsFinal_cut h]; rfl
theorem Try.made : (Try.prog.make == some Make.cut) = true := by
  obtain ⟨rest, h⟩ := Try.cut
  rw [make_cut h]; kernel_rfl
theorem Try.keys0 : (false == Try.prog.plainKeys) = true := by kernel_rfl
theorem and_of {a b : Bool} (ha : a = true) (hb : b = true) : (a && b) = true := by rw [ha, hb]; rfl
end Go.Proofs.Ytdodgbhodkcckaa
end
section
set_option maxRecDepth 100000
namespace Go.Proofs.Ytdodgbhodkcckaa.Pv
open Go
theorem T1 : tiOf Try.prog 1 = some ⟨.func, 1, 8, .nilFunc⟩ := by kernel_rfl
theorem T2 : tiOf Try.prog 2 = some ⟨.int .i64, 1, 8, .int .i64 0⟩ := by kernel_rfl
theorem T3 : tiOf Try.prog 3 = some ⟨.int .i64, 1, 8, .int .i64 0⟩ := by kernel_rfl
theorem T4 : tiOf Try.prog 4 = some ⟨.bool, 1, 1, .bool false⟩ := by kernel_rfl
theorem T5 : tiOf Try.prog 5 = some ⟨.int .u8, 1, 1, .int .u8 0⟩ := by kernel_rfl
theorem T6 : tiOf Try.prog 6 = some ⟨.int .u8, 1, 1, .int .u8 0⟩ := by kernel_rfl
theorem T7 : tiOf Try.prog 7 = some ⟨.struct [(0, 1, false), (1, 1, false), (2, 1, false), (3, 1, false)], 4, 24, .agg #[(.int .i64 0), (.int .i64 0), (.bool false), (.int .u8 0)]⟩ := by kernel_rfl
theorem T8 : tiOf Try.prog 8 = some ⟨.struct [(0, 1, false), (1, 1, false), (2, 1, false), (3, 1, false)], 4, 24, .agg #[(.int .i64 0), (.int .i64 0), (.bool false), (.int .u8 0)]⟩ := by kernel_rfl
theorem T9 : tiOf Try.prog 9 = some ⟨.string, 1, 16, .string ⟨#[]⟩⟩ := by kernel_rfl
theorem T10 : tiOf Try.prog 10 = some ⟨.string, 1, 16, .string ⟨#[]⟩⟩ := by kernel_rfl
theorem T11 : tiOf Try.prog 11 = some ⟨.string, 1, 16, .string ⟨#[]⟩⟩ := by kernel_rfl
theorem T12 : tiOf Try.prog 12 = some ⟨.int .u64, 1, 8, .int .u64 0⟩ := by kernel_rfl
theorem T13 : tiOf Try.prog 13 = some ⟨.struct [(0, 1, false), (1, 1, false)], 2, 24, .agg #[(.string ⟨#[]⟩), (.int .u64 0)]⟩ := by kernel_rfl
theorem T14 : tiOf Try.prog 14 = some ⟨.struct [(0, 1, false), (1, 1, false)], 2, 24, .agg #[(.string ⟨#[]⟩), (.int .u64 0)]⟩ := by kernel_rfl
theorem T15 : tiOf Try.prog 15 = some ⟨.ptr 351, 1, 8, .pointer none⟩ := by kernel_rfl
theorem T16 : tiOf Try.prog 16 = some ⟨.ptr 354, 1, 8, .pointer none⟩ := by kernel_rfl
theorem T17 : tiOf Try.prog 17 = some ⟨.ptr 363, 1, 8, .pointer none⟩ := by kernel_rfl
theorem T18 : tiOf Try.prog 18 = some ⟨.struct [(0, 1, false)], 1, 8, .agg #[(.pointer none)]⟩ := by kernel_rfl
theorem T19 : tiOf Try.prog 19 = some ⟨.struct [(0, 1, false)], 1, 8, .agg #[(.pointer none)]⟩ := by kernel_rfl
theorem T20 : tiOf Try.prog 20 = some ⟨.iface, 1, 16, .nilIface⟩ := by kernel_rfl
theorem T21 : tiOf Try.prog 21 = some ⟨.int .i32, 1, 4, .int .i32 0⟩ := by kernel_rfl
theorem T22 : tiOf Try.prog 22 = some ⟨.slice 36, 1, 24, .slice none 0 0⟩ := by kernel_rfl
theorem T23 : tiOf Try.prog 23 = some ⟨.array 2 3, 2, 16, .agg #[(.int .i64 0), (.int .i64 0)]⟩ := by kernel_rfl
theorem T24 : tiOf Try.prog 24 = some ⟨.func, 1, 8, .nilFunc⟩ := by kernel_rfl
theorem T25 : tiOf Try.prog 25 = some ⟨.slice 42, 1, 24, .slice none 0 0⟩ := by kernel_rfl
theorem T26 : tiOf Try.prog 26 = some ⟨.struct [(0, 1, false)], 1, 24, .agg #[(.slice none 0 0)]⟩ := by kernel_rfl
theorem T27 : tiOf Try.prog 27 = some ⟨.struct [(0, 1, false)], 1, 24, .agg #[(.slice none 0 0)]⟩ := by kernel_rfl
theorem T28 : tiOf Try.prog 28 = some ⟨.array 8 2, 8, 64, .agg #[(.int .i64 0), (.int .i64 0), (.int .i64 0), (.int .i64 0), (.int .i64 0), (.int .i64 0), (.int .i64 0), (.int .i64 0)]⟩ := by kernel_rfl
theorem T29 : tiOf Try.prog 29 = some ⟨.array 8 28, 64, 512, .agg #[(.int .i64 0), (.int .i64 0), (.int .i64 0), (.int .i64 0), (.int .i64 0), (.int .i64 0), (.int .i64 0), (.int .i64 0), (.int .i64 0), (.int .i64 0), (.int .i64 0), (.int .i64 0), (.int .i64 0), (.int .i64 0), (.int .i64 0), (.int .i64 0), (.int .i64 0), (.int .i64 0), (.int .i64 0), (.int .i64 0), (.int .i64 0), (.int .i64 0), (.int .i64 0), (.int .i64 0), (.int .i64 0), (.int .i64 0), (.int .i64 0), (.int .i64 0), (.int .i64 0), (.int .i64 0), (.int .i64 0), (.int .i64 0), (.int .i64 0), (.int .i64 0), (.int .i64 0), (.int .i64 0), (.int .i64 0), (.int .i64 0), (.int .i64 0), (.int .i64 0), (.int .i64 0), (.int .i64 0), (.int .i64 0), (.int .i64 0), (.int .i64 0), (.int .i64 0), (.int .i64 0), (.int .i64 0), (.int .i64 0), (.int .i64 0), (.int .i64 0), (.int .i64 0), (.int .i64 0), (.int .i64 0), (.int .i64 0), (.int .i64 0), (.int .i64 0), (.int .i64 0), (.int .i64 0), (.int .i64 0), (.int .i64 0), (.int .i64 0), (.int .i64 0), (.int .i64 0)]⟩ := by kernel_rfl
theorem T30 : tiOf Try.prog 30 = some ⟨.array 8 28, 64, 512, .agg #[(.int .i64 0), (.int .i64 0), (.int .i64 0), (.int .i64 0), (.int .i64 0), (.int .i64 0), (.int .i64 0), (.int .i64 0), (.int .i64 0), (.int .i64 0), (.int .i64 0), (.int .i64 0), (.int .i64 0), (.int .i64 0), (.int .i64 0), (.int .i64 0), (.int .i64 0), (.int .i64 0), (.int .i64 0), (.int .i64 0), (.int .i64 0), (.int .i64 0), (.int .i64 0), (.int .i64 0), (.int .i64 0), (.int .i64 0), (.int .i64 0), (.int .i64 0), (.int .i64 0), (.int .i64 0), (.int .i64 0), (.int .i64 0), (.int .i64 0), (.int .i64 0), (.int .i64 0), (.int .i64 0), (.int .i64 0), (.int .i64 0), (.int .i64 0), (.int .i64 0), (.int .i64 0), (.int .i64 0), (.int .i64 0), (.int .i64 0), (.int .i64 0), (.int .i64 0), (.int .i64 0), (.int .i64 0), (.int .i64 0), (.int .i64 0), (.int .i64 0), (.int .i64 0), (.int .i64 0), (.int .i64 0), (.int .i64 0), (.int .i64 0), (.int .i64 0), (.int .i64 0), (.int .i64 0), (.int .i64 0), (.int .i64 0), (.int .i64 0), (.int .i64 0), (.int .i64 0)]⟩ := by kernel_rfl
theorem T32 : tiOf Try.prog 32 = some ⟨.func, 1, 8, .nilFunc⟩ := by kernel_rfl
theorem T33 : tiOf Try.prog 33 = some ⟨.func, 1, 8, .nilFunc⟩ := by kernel_rfl
theorem T34 : tiOf Try.prog 34 = some ⟨.func, 1, 8, .nilFunc⟩ := by kernel_rfl
theorem T35 : tiOf Try.prog 35 = some ⟨.struct [(0, 1, false), (1, 1, false), (2, 1, false)], 3, 24, .agg #[(.int .i64 0), (.int .i64 0), (.int .i64 0)]⟩ := by kernel_rfl
theorem T36 : tiOf Try.prog 36 = some ⟨.struct [(0, 1, false), (1, 1, false), (2, 1, false)], 3, 24, .agg #[(.int .i64 0), (.int .i64 0), (.int .i64 0)]⟩ := by kernel_rfl
theorem T37 : tiOf Try.prog 37 = some ⟨.int .i64, 1, 8, .int .i64 0⟩ := by kernel_rfl
theorem T39 : tiOf Try.prog 39 = some ⟨.func, 1, 8, .nilFunc⟩ := by kernel_rfl
theorem T40 : tiOf Try.prog 40 = some ⟨.func, 1, 8, .nilFunc⟩ := by kernel_rfl
theorem T41 : tiOf Try.prog 41 = some ⟨.func, 1, 8, .nilFunc⟩ := by kernel_rfl
theorem T42 : tiOf Try.prog 42 = some ⟨.struct [(0, 1, false), (1, 1, false), (2, 1, false)], 3, 24, .agg #[(.int .i64 0), (.int .i64 0), (.int .i64 0)]⟩ := by kernel_rfl
theorem T43 : tiOf Try.prog 43 = some ⟨.func, 1, 8, .nilFunc⟩ := by kernel_rfl
theorem T44 : tiOf Try.prog 44 = some ⟨.func, 1, 8, .nilFunc⟩ := by kernel_rfl
theorem T45 : tiOf Try.prog 45 = some ⟨.func, 1, 8, .nilFunc⟩ := by kernel_rfl
theorem T46 : tiOf Try.prog 46 = some ⟨.func, 1, 8, .nilFunc⟩ := by kernel_rfl
theorem T47 : tiOf Try.prog 47 = some ⟨.slice 2, 1, 24, .slice none 0 0⟩ := by kernel_rfl
theorem T49 : tiOf Try.prog 49 = some ⟨.func, 1, 8, .nilFunc⟩ := by kernel_rfl
theorem T51 : tiOf Try.prog 51 = some ⟨.func, 1, 8, .nilFunc⟩ := by kernel_rfl
theorem T52 : tiOf Try.prog 52 = some ⟨.func, 1, 8, .nilFunc⟩ := by kernel_rfl
theorem T53 : tiOf Try.prog 53 = some ⟨.struct [(0, 1, false), (1, 1, false)], 2, 16, .agg #[(.int .i64 0), (.int .i64 0)]⟩ := by kernel_rfl
theorem T54 : tiOf Try.prog 54 = some ⟨.struct [(0, 1, false), (1, 1, false)], 2, 16, .agg #[(.int .i64 0), (.int .i64 0)]⟩ := by kernel_rfl
theorem T55 : tiOf Try.prog 55 = some ⟨.func, 1, 8, .nilFunc⟩ := by kernel_rfl
theorem T56 : tiOf Try.prog 56 = some ⟨.func, 1, 8, .nilFunc⟩ := by kernel_rfl
theorem T57 : tiOf Try.prog 57 = some ⟨.func, 1, 8, .nilFunc⟩ := by kernel_rfl
theorem T58 : tiOf Try.prog 58 = some ⟨.slice 70, 1, 24, .slice none 0 0⟩ := by kernel_rfl
theorem T59 : tiOf Try.prog 59 = some ⟨.slice 277, 1, 24, .slice none 0 0⟩ := by kernel_rfl
theorem T60 : tiOf Try.prog 60 = some ⟨.struct [(0, 1, false), (1, 1, false), (2, 1, false)], 3, 56, .agg #[(.int .i64 0), (.slice none 0 0), (.slice none 0 0)]⟩ := by kernel_rfl
theorem T61 : tiOf Try.prog 61 = some ⟨.struct [(0, 1, false), (1, 1, false), (2, 1, false)], 3, 56, .agg #[(.int .i64 0), (.slice none 0 0), (.slice none 0 0)]⟩ := by kernel_rfl
theorem T63 : tiOf Try.prog 63 = some ⟨.func, 1, 8, .nilFunc⟩ := by kernel_rfl
theorem T64 : tiOf Try.prog 64 = some ⟨.struct [(0, 1, false), (1, 1, false), (2, 1, false), (3, 1, false), (4, 1, false)], 5, 40, .agg #[(.int .i64 0), (.int .i64 0), (.int .i64 0), (.int .i64 0), (.bool false)]⟩ := by kernel_rfl
theorem T65 : tiOf Try.prog 65 = some ⟨.struct [(0, 1, false), (1, 1, false), (2, 1, false), (3, 1, false), (4, 1, false)], 5, 40, .agg #[(.int .i64 0), (.int .i64 0), (.int .i64 0), (.int .i64 0), (.bool false)]⟩ := by kernel_rfl
theorem T67 : tiOf Try.prog 67 = some ⟨.func, 1, 8, .nilFunc⟩ := by kernel_rfl
theorem T68 : tiOf Try.prog 68 = some ⟨.map 54 70, 1, 8, .map none⟩ := by kernel_rfl
theorem T69 : tiOf Try.prog 69 = some ⟨.struct [(0, 2, true), (2, 1, false), (3, 1, false), (4, 1, false), (5, 1, false), (6, 1, false), (7, 1, false)], 8, 64, .agg #[(.int .i64 0), (.int .i64 0), (.int .i64 0), (.int .i64 0), (.int .i64 0), (.int .i64 0), (.int .i64 0), (.int .i64 0)]⟩ := by kernel_rfl
theorem T70 : tiOf Try.prog 70 = some ⟨.struct [(0, 2, true), (2, 1, false), (3, 1, false), (4, 1, false), (5, 1, false), (6, 1, false), (7, 1, false)], 8, 64, .agg #[(.int .i64 0), (.int .i64 0), (.int .i64 0), (.int .i64 0), (.int .i64 0), (.int .i64 0), (.int .i64 0), (.int .i64 0)]⟩ := by kernel_rfl
theorem T71 : tiOf Try.prog 71 = some ⟨.func, 1, 8, .nilFunc⟩ := by kernel_rfl
theorem T72 : tiOf Try.prog 72 = some ⟨.array 3 61, 9, 168, .agg #[(.int .i64 0), (.slice none 0 0), (.slice none 0 0), (.int .i64 0), (.slice none 0 0), (.slice none 0 0), (.int .i64 0), (.slice none 0 0), (.slice none 0 0)]⟩ := by kernel_rfl
theorem T74 : tiOf Try.prog 74 = some ⟨.func, 1, 8, .nilFunc⟩ := by kernel_rfl
theorem T75 : tiOf Try.prog 75 = some ⟨.func, 1, 8, .nilFunc⟩ := by kernel_rfl
theorem T76 : tiOf Try.prog 76 = some ⟨.func, 1, 8, .nilFunc⟩ := by kernel_rfl
theorem T77 : tiOf Try.prog 77 = some ⟨.func, 1, 8, .nilFunc⟩ := by kernel_rfl
theorem T78 : tiOf Try.prog 78 = some ⟨.func, 1, 8, .nilFunc⟩ := by kernel_rfl
theorem T79 : tiOf Try.prog 79 = some ⟨.func, 1, 8, .nilFunc⟩ := by kernel_rfl
theorem T80 : tiOf Try.prog 80 = some ⟨.map 54 4, 1, 8, .map none⟩ := by kernel_rfl
theorem T81 : tiOf Try.prog 81 = some ⟨.func, 1, 8, .nilFunc⟩ := by kernel_rfl
theorem T82 : tiOf Try.prog 82 = some ⟨.func, 1, 8, .nilFunc⟩ := by kernel_rfl
theorem T83 : tiOf Try.prog 83 = some ⟨.slice 96, 1, 24, .slice none 0 0⟩ := by kernel_rfl
theorem T84 : tiOf Try.prog 84 = some ⟨.slice 110, 1, 24, .slice none 0 0⟩ := by kernel_rfl
theorem T85 : tiOf Try.prog 85 = some ⟨.struct [(0, 3, true), (3, 1, false), (4, 1, false)], 5, 88, .agg #[(.int .i64 0), (.slice none 0 0), (.slice none 0 0), (.int .i64 0), (.slice none 0 0)]⟩ := by kernel_rfl
theorem T86 : tiOf Try.prog 86 = some ⟨.struct [(0, 3, true), (3, 1, false), (4, 1, false)], 5, 88, .agg #[(.int .i64 0), (.slice none 0 0), (.slice none 0 0), (.int .i64 0), (.slice none 0 0)]⟩ := by kernel_rfl
theorem T88 : tiOf Try.prog 88 = some ⟨.func, 1, 8, .nilFunc⟩ := by kernel_rfl
theorem T89 : tiOf Try.prog 89 = some ⟨.slice 229, 1, 24, .slice none 0 0⟩ := by kernel_rfl
theorem T90 : tiOf Try.prog 90 = some ⟨.struct [(0, 1, false), (1, 1, false), (2, 1, false), (3, 1, false)], 4, 64, .agg #[(.int .i64 0), (.int .i64 0), (.slice none 0 0), (.slice none 0 0)]⟩ := by kernel_rfl
theorem T91 : tiOf Try.prog 91 = some ⟨.struct [(0, 1, false), (1, 1, false), (2, 1, false), (3, 1, false)], 4, 64, .agg #[(.int .i64 0), (.int .i64 0), (.slice none 0 0), (.slice none 0 0)]⟩ := by kernel_rfl
theorem T92 : tiOf Try.prog 92 = some ⟨.slice 142, 1, 24, .slice none 0 0⟩ := by kernel_rfl
theorem T93 : tiOf Try.prog 93 = some ⟨.struct [(0, 1, false), (1, 2, true), (3, 1, false), (4, 1, false), (5, 1, false), (6, 1, false), (7, 1, false), (8, 1, false), (9, 1, false), (10, 1, false)], 11, 120, .agg #[(.int .i64 0), (.int .i64 0), (.int .i64 0), (.int .i64 0), (.int .i64 0), (.int .i64 0), (.int .i64 0), (.int .i64 0), (.bool false), (.slice none 0 0), (.slice none 0 0)]⟩ := by kernel_rfl
theorem T94 : tiOf Try.prog 94 = some ⟨.struct [(0, 1, false), (1, 2, true), (3, 1, false), (4, 1, false), (5, 1, false), (6, 1, false), (7, 1, false), (8, 1, false), (9, 1, false), (10, 1, false)], 11, 120, .agg #[(.int .i64 0), (.int .i64 0), (.int .i64 0), (.int .i64 0), (.int .i64 0), (.int .i64 0), (.int .i64 0), (.int .i64 0), (.bool false), (.slice none 0 0), (.slice none 0 0)]⟩ := by kernel_rfl
theorem T95 : tiOf Try.prog 95 = some ⟨.struct [(0, 1, false), (1, 11, true)], 12, 128, .agg #[(.int .i64 0), (.int .i64 0), (.int .i64 0), (.int .i64 0), (.int .i64 0), (.int .i64 0), (.int .i64 0), (.int .i64 0), (.int .i64 0), (.bool false), (.slice none 0 0), (.slice none 0 0)]⟩ := by kernel_rfl
theorem T96 : tiOf Try.prog 96 = some ⟨.struct [(0, 1, false), (1, 11, true)], 12, 128, .agg #[(.int .i64 0), (.int .i64 0), (.int .i64 0), (.int .i64 0), (.int .i64 0), (.int .i64 0), (.int .i64 0), (.int .i64 0), (.int .i64 0), (.bool false), (.slice none 0 0), (.slice none 0 0)]⟩ := by kernel_rfl
theorem T98 : tiOf Try.prog 98 = some ⟨.func, 1, 8, .nilFunc⟩ := by kernel_rfl
theorem T99 : tiOf Try.prog 99 = some ⟨.slice 137, 1, 24, .slice none 0 0⟩ := by kernel_rfl
theorem T101 : tiOf Try.prog 101 = some ⟨.func, 1, 8, .nilFunc⟩ := by kernel_rfl
theorem T102 : tiOf Try.prog 102 = some ⟨.func, 1, 8, .nilFunc⟩ := by kernel_rfl
theorem T103 : tiOf Try.prog 103 = some ⟨.func, 1, 8, .nilFunc⟩ := by kernel_rfl
theorem T104 : tiOf Try.prog 104 = some ⟨.func, 1, 8, .nilFunc⟩ := by kernel_rfl
theorem T105 : tiOf Try.prog 105 = some ⟨.slice 4, 1, 24, .slice none 0 0⟩ := by kernel_rfl
theorem T106 : tiOf Try.prog 106 = some ⟨.array 2 86, 10, 176, .agg #[(.int .i64 0), (.slice none 0 0), (.slice none 0 0), (.int .i64 0), (.slice none 0 0), (.int .i64 0), (.slice none 0 0), (.slice none 0 0), (.int .i64 0), (.slice none 0 0)]⟩ := by kernel_rfl
theorem T107 : tiOf Try.prog 107 = some ⟨.slice 94, 1, 24, .slice none 0 0⟩ := by kernel_rfl
theorem T108 : tiOf Try.prog 108 = some ⟨.array 2 107, 2, 48, .agg #[(.slice none 0 0), (.slice none 0 0)]⟩ := by kernel_rfl
theorem T109 : tiOf Try.prog 109 = some ⟨.struct [(0, 1, false), (1, 11, true)], 12, 128, .agg #[(.int .i64 0), (.int .i64 0), (.int .i64 0), (.int .i64 0), (.int .i64 0), (.int .i64 0), (.int .i64 0), (.int .i64 0), (.int .i64 0), (.bool false), (.slice none 0 0), (.slice none 0 0)]⟩ := by kernel_rfl
theorem T110 : tiOf Try.prog 110 = some ⟨.struct [(0, 1, false), (1, 11, true)], 12, 128, .agg #[(.int .i64 0), (.int .i64 0), (.int .i64 0), (.int .i64 0), (.int .i64 0), (.int .i64 0), (.int .i64 0), (.int .i64 0), (.int .i64 0), (.bool false), (.slice none 0 0), (.slice none 0 0)]⟩ := by kernel_rfl
theorem T111 : tiOf Try.prog 111 = some ⟨.func, 1, 8, .nilFunc⟩ := by kernel_rfl
theorem T112 : tiOf Try.prog 112 = some ⟨.func, 1, 8, .nilFunc⟩ := by kernel_rfl
theorem T113 : tiOf Try.prog 113 = some ⟨.func, 1, 8, .nilFunc⟩ := by kernel_rfl
theorem T114 : tiOf Try.prog 114 = some ⟨.func, 1, 8, .nilFunc⟩ := by kernel_rfl
theorem T115 : tiOf Try.prog 115 = some ⟨.func, 1, 8, .nilFunc⟩ := by kernel_rfl
theorem T117 : tiOf Try.prog 117 = some ⟨.func, 1, 8, .nilFunc⟩ := by kernel_rfl
theorem T118 : tiOf Try.prog 118 = some ⟨.func, 1, 8, .nilFunc⟩ := by kernel_rfl
theorem T119 : tiOf Try.prog 119 = some ⟨.func, 1, 8, .nilFunc⟩ := by kernel_rfl
theorem T120 : tiOf Try.prog 120 = some ⟨.func, 1, 8, .nilFunc⟩ := by kernel_rfl
theorem T121 : tiOf Try.prog 121 = some ⟨.func, 1, 8, .nilFunc⟩ := by kernel_rfl
theorem T122 : tiOf Try.prog 122 = some ⟨.slice 132, 1, 24, .slice none 0 0⟩ := by kernel_rfl
theorem T123 : tiOf Try.prog 123 = some ⟨.func, 1, 8, .nilFunc⟩ := by kernel_rfl
theorem T125 : tiOf Try.prog 125 = some ⟨.func, 1, 8, .nilFunc⟩ := by kernel_rfl
theorem T126 : tiOf Try.prog 126 = some ⟨.slice 144, 1, 24, .slice none 0 0⟩ := by kernel_rfl
theorem T127 : tiOf Try.prog 127 = some ⟨.struct [(0, 1, false), (1, 1, false), (2, 1, false)], 3, 40, .agg #[(.int .i64 0), (.int .i64 0), (.slice none 0 0)]⟩ := by kernel_rfl
theorem T128 : tiOf Try.prog 128 = some ⟨.struct [(0, 1, false), (1, 1, false), (2, 1, false)], 3, 40, .agg #[(.int .i64 0), (.int .i64 0), (.slice none 0 0)]⟩ := by kernel_rfl
theorem T129 : tiOf Try.prog 129 = some ⟨.slice 234, 1, 24, .slice none 0 0⟩ := by kernel_rfl
theorem T130 : tiOf Try.prog 130 = some ⟨.struct [(0, 1, false), (1, 1, false), (2, 1, false)], 3, 40, .agg #[(.int .i64 0), (.int .i64 0), (.slice none 0 0)]⟩ := by kernel_rfl
theorem T131 : tiOf Try.prog 131 = some ⟨.struct [(0, 1, false), (1, 1, false), (2, 1, false)], 3, 40, .agg #[(.int .i64 0), (.int .i64 0), (.slice none 0 0)]⟩ := by kernel_rfl
theorem T132 : tiOf Try.prog 132 = some ⟨.struct [(0, 1, false), (1, 11, true)], 12, 128, .agg #[(.int .i64 0), (.int .i64 0), (.int .i64 0), (.int .i64 0), (.int .i64 0), (.int .i64 0), (.int .i64 0), (.int .i64 0), (.int .i64 0), (.bool false), (.slice none 0 0), (.slice none 0 0)]⟩ := by kernel_rfl
theorem T134 : tiOf Try.prog 134 = some ⟨.func, 1, 8, .nilFunc⟩ := by kernel_rfl
theorem T136 : tiOf Try.prog 136 = some ⟨.func, 1, 8, .nilFunc⟩ := by kernel_rfl
theorem T137 : tiOf Try.prog 137 = some ⟨.struct [(0, 1, false), (1, 11, true)], 12, 128, .agg #[(.int .i64 0), (.int .i64 0), (.int .i64 0), (.int .i64 0), (.int .i64 0), (.int .i64 0), (.int .i64 0), (.int .i64 0), (.int .i64 0), (.bool false), (.slice none 0 0), (.slice none 0 0)]⟩ := by kernel_rfl
theorem T138 : tiOf Try.prog 138 = some ⟨.func, 1, 8, .nilFunc⟩ := by kernel_rfl
theorem T139 : tiOf Try.prog 139 = some ⟨.func, 1, 8, .nilFunc⟩ := by kernel_rfl
theorem T140 : tiOf Try.prog 140 = some ⟨.func, 1, 8, .nilFunc⟩ := by kernel_rfl
theorem T141 : tiOf Try.prog 141 = some ⟨.struct [(0, 2, true), (2, 1, false), (3, 1, false)], 4, 32, .agg #[(.int .i64 0), (.int .i64 0), (.int .i64 0), (.int .i64 0)]⟩ := by kernel_rfl
theorem T142 : tiOf Try.prog 142 = some ⟨.struct [(0, 2, true), (2, 1, false), (3, 1, false)], 4, 32, .agg #[(.int .i64 0), (.int .i64 0), (.int .i64 0), (.int .i64 0)]⟩ := by kernel_rfl
theorem T143 : tiOf Try.prog 143 = some ⟨.struct [(0, 1, false), (1, 1, false), (2, 1, false), (3, 1, false)], 4, 48, .agg #[(.int .i64 0), (.int .i64 0), (.int .i64 0), (.slice none 0 0)]⟩ := by kernel_rfl
theorem T144 : tiOf Try.prog 144 = some ⟨.struct [(0, 1, false), (1, 1, false), (2, 1, false), (3, 1, false)], 4, 48, .agg #[(.int .i64 0), (.int .i64 0), (.int .i64 0), (.slice none 0 0)]⟩ := by kernel_rfl
theorem T146 : tiOf Try.prog 146 = some ⟨.func, 1, 8, .nilFunc⟩ := by kernel_rfl
theorem T147 : tiOf Try.prog 147 = some ⟨.func, 1, 8, .nilFunc⟩ := by kernel_rfl
theorem T148 : tiOf Try.prog 148 = some ⟨.func, 1, 8, .nilFunc⟩ := by kernel_rfl
theorem T149 : tiOf Try.prog 149 = some ⟨.slice 3, 1, 24, .slice none 0 0⟩ := by kernel_rfl
theorem T150 : tiOf Try.prog 150 = some ⟨.func, 1, 8, .nilFunc⟩ := by kernel_rfl
theorem T151 : tiOf Try.prog 151 = some ⟨.func, 1, 8, .nilFunc⟩ := by kernel_rfl
theorem T153 : tiOf Try.prog 153 = some ⟨.func, 1, 8, .nilFunc⟩ := by kernel_rfl
theorem T155 : tiOf Try.prog 155 = some ⟨.func, 1, 8, .nilFunc⟩ := by kernel_rfl
theorem T156 : tiOf Try.prog 156 = some ⟨.func, 1, 8, .nilFunc⟩ := by kernel_rfl
theorem T157 : tiOf Try.prog 157 = some ⟨.func, 1, 8, .nilFunc⟩ := by kernel_rfl
theorem T158 : tiOf Try.prog 158 = some ⟨.func, 1, 8, .nilFunc⟩ := by kernel_rfl
theorem T159 : tiOf Try.prog 159 = some ⟨.array 2 2, 2, 16, .agg #[(.int .i64 0), (.int .i64 0)]⟩ := by kernel_rfl
theorem T160 : tiOf Try.prog 160 = some ⟨.func, 1, 8, .nilFunc⟩ := by kernel_rfl
theorem T161 : tiOf Try.prog 161 = some ⟨.func, 1, 8, .nilFunc⟩ := by kernel_rfl
theorem T162 : tiOf Try.prog 162 = some ⟨.slice 92, 1, 24, .slice none 0 0⟩ := by kernel_rfl
theorem T163 : tiOf Try.prog 163 = some ⟨.func, 1, 8, .nilFunc⟩ := by kernel_rfl
theorem T164 : tiOf Try.prog 164 = some ⟨.func, 1, 8, .nilFunc⟩ := by kernel_rfl
theorem T165 : tiOf Try.prog 165 = some ⟨.func, 1, 8, .nilFunc⟩ := by kernel_rfl
theorem T166 : tiOf Try.prog 166 = some ⟨.func, 1, 8, .nilFunc⟩ := by kernel_rfl
theorem T167 : tiOf Try.prog 167 = some ⟨.func, 1, 8, .nilFunc⟩ := by kernel_rfl
theorem T168 : tiOf Try.prog 168 = some ⟨.slice 176, 1, 24, .slice none 0 0⟩ := by kernel_rfl
theorem T169 : tiOf Try.prog 169 = some ⟨.func, 1, 8, .nilFunc⟩ := by kernel_rfl
theorem T170 : tiOf Try.prog 170 = some ⟨.slice 187, 1, 24, .slice none 0 0⟩ := by kernel_rfl
theorem T171 : tiOf Try.prog 171 = some ⟨.struct [(0, 1, false), (1, 1, false)], 2, 32, .agg #[(.int .i64 0), (.slice none 0 0)]⟩ := by kernel_rfl
theorem T172 : tiOf Try.prog 172 = some ⟨.struct [(0, 1, false), (1, 1, false)], 2, 32, .agg #[(.int .i64 0), (.slice none 0 0)]⟩ := by kernel_rfl
theorem T173 : tiOf Try.prog 173 = some ⟨.slice 261, 1, 24, .slice none 0 0⟩ := by kernel_rfl
theorem T174 : tiOf Try.prog 174 = some ⟨.struct [(0, 1, false), (1, 1, false)], 2, 32, .agg #[(.int .i64 0), (.slice none 0 0)]⟩ := by kernel_rfl
theorem T175 : tiOf Try.prog 175 = some ⟨.struct [(0, 1, false), (1, 1, false)], 2, 32, .agg #[(.int .i64 0), (.slice none 0 0)]⟩ := by kernel_rfl
theorem T176 : tiOf Try.prog 176 = some ⟨.struct [(0, 1, false), (1, 11, true)], 12, 128, .agg #[(.int .i64 0), (.int .i64 0), (.int .i64 0), (.int .i64 0), (.int .i64 0), (.int .i64 0), (.int .i64 0), (.int .i64 0), (.int .i64 0), (.bool false), (.slice none 0 0), (.slice none 0 0)]⟩ := by kernel_rfl
theorem T178 : tiOf Try.prog 178 = some ⟨.func, 1, 8, .nilFunc⟩ := by kernel_rfl
theorem T180 : tiOf Try.prog 180 = some ⟨.func, 1, 8, .nilFunc⟩ := by kernel_rfl
theorem T181 : tiOf Try.prog 181 = some ⟨.func, 1, 8, .nilFunc⟩ := by kernel_rfl
theorem T182 : tiOf Try.prog 182 = some ⟨.func, 1, 8, .nilFunc⟩ := by kernel_rfl
theorem T183 : tiOf Try.prog 183 = some ⟨.map 3 4, 1, 8, .map none⟩ := by kernel_rfl
theorem T184 : tiOf Try.prog 184 = some ⟨.map 3 190, 1, 8, .map none⟩ := by kernel_rfl
theorem T185 : tiOf Try.prog 185 = some ⟨.slice 193, 1, 24, .slice none 0 0⟩ := by kernel_rfl
theorem T186 : tiOf Try.prog 186 = some ⟨.struct [(0, 1, false), (1, 1, false), (2, 1, false), (3, 1, false), (4, 1, false)], 5, 88, .agg #[(.int .i64 0), (.int .i64 0), (.slice none 0 0), (.slice none 0 0), (.slice none 0 0)]⟩ := by kernel_rfl
theorem T187 : tiOf Try.prog 187 = some ⟨.struct [(0, 1, false), (1, 1, false), (2, 1, false), (3, 1, false), (4, 1, false)], 5, 88, .agg #[(.int .i64 0), (.int .i64 0), (.slice none 0 0), (.slice none 0 0), (.slice none 0 0)]⟩ := by kernel_rfl
theorem T189 : tiOf Try.prog 189 = some ⟨.func, 1, 8, .nilFunc⟩ := by kernel_rfl
theorem T190 : tiOf Try.prog 190 = some ⟨.array 3 4, 3, 3, .agg #[(.bool false), (.bool false), (.bool false)]⟩ := by kernel_rfl
theorem T192 : tiOf Try.prog 192 = some ⟨.struct [(0, 1, false), (1, 1, false), (2, 1, false)], 3, 32, .agg #[(.bool false), (.bool false), (.slice none 0 0)]⟩ := by kernel_rfl
theorem T193 : tiOf Try.prog 193 = some ⟨.struct [(0, 1, false), (1, 1, false), (2, 1, false)], 3, 32, .agg #[(.bool false), (.bool false), (.slice none 0 0)]⟩ := by kernel_rfl
theorem T194 : tiOf Try.prog 194 = some ⟨.func, 1, 8, .nilFunc⟩ := by kernel_rfl
theorem T195 : tiOf Try.prog 195 = some ⟨.func, 1, 8, .nilFunc⟩ := by kernel_rfl
theorem T196 : tiOf Try.prog 196 = some ⟨.map 3 3, 1, 8, .map none⟩ := by kernel_rfl
theorem T198 : tiOf Try.prog 198 = some ⟨.func, 1, 8, .nilFunc⟩ := by kernel_rfl
theorem T199 : tiOf Try.prog 199 = some ⟨.func, 1, 8, .nilFunc⟩ := by kernel_rfl
theorem T200 : tiOf Try.prog 200 = some ⟨.func, 1, 8, .nilFunc⟩ := by kernel_rfl
theorem T201 : tiOf Try.prog 201 = some ⟨.func, 1, 8, .nilFunc⟩ := by kernel_rfl
theorem T202 : tiOf Try.prog 202 = some ⟨.func, 1, 8, .nilFunc⟩ := by kernel_rfl
theorem T203 : tiOf Try.prog 203 = some ⟨.func, 1, 8, .nilFunc⟩ := by kernel_rfl
theorem T204 : tiOf Try.prog 204 = some ⟨.struct [(0, 1, false), (1, 1, false)], 2, 32, .agg #[(.bool false), (.slice none 0 0)]⟩ := by kernel_rfl
theorem T205 : tiOf Try.prog 205 = some ⟨.struct [(0, 1, false), (1, 1, false)], 2, 32, .agg #[(.bool false), (.slice none 0 0)]⟩ := by kernel_rfl
theorem T206 : tiOf Try.prog 206 = some ⟨.func, 1, 8, .nilFunc⟩ := by kernel_rfl
theorem T207 : tiOf Try.prog 207 = some ⟨.func, 1, 8, .nilFunc⟩ := by kernel_rfl
theorem T209 : tiOf Try.prog 209 = some ⟨.func, 1, 8, .nilFunc⟩ := by kernel_rfl
theorem T210 : tiOf Try.prog 210 = some ⟨.func, 1, 8, .nilFunc⟩ := by kernel_rfl
theorem T211 : tiOf Try.prog 211 = some ⟨.func, 1, 8, .nilFunc⟩ := by kernel_rfl
theorem T212 : tiOf Try.prog 212 = some ⟨.func, 1, 8, .nilFunc⟩ := by kernel_rfl
theorem T213 : tiOf Try.prog 213 = some ⟨.func, 1, 8, .nilFunc⟩ := by kernel_rfl
theorem T214 : tiOf Try.prog 214 = some ⟨.func, 1, 8, .nilFunc⟩ := by kernel_rfl
theorem T215 : tiOf Try.prog 215 = some ⟨.func, 1, 8, .nilFunc⟩ := by kernel_rfl
theorem T216 : tiOf Try.prog 216 = some ⟨.func, 1, 8, .nilFunc⟩ := by kernel_rfl
theorem T217 : tiOf Try.prog 217 = some ⟨.func, 1, 8, .nilFunc⟩ := by kernel_rfl
theorem T218 : tiOf Try.prog 218 = some ⟨.func, 1, 8, .nilFunc⟩ := by kernel_rfl
theorem T219 : tiOf Try.prog 219 = some ⟨.func, 1, 8, .nilFunc⟩ := by kernel_rfl
theorem T220 : tiOf Try.prog 220 = some ⟨.func, 1, 8, .nilFunc⟩ := by kernel_rfl
theorem T221 : tiOf Try.prog 221 = some ⟨.slice 61, 1, 24, .slice none 0 0⟩ := by kernel_rfl
theorem T222 : tiOf Try.prog 222 = some ⟨.func, 1, 8, .nilFunc⟩ := by kernel_rfl
theorem T223 : tiOf Try.prog 223 = some ⟨.func, 1, 8, .nilFunc⟩ := by kernel_rfl
theorem T225 : tiOf Try.prog 225 = some ⟨.func, 1, 8, .nilFunc⟩ := by kernel_rfl
theorem T226 : tiOf Try.prog 226 = some ⟨.ptr 86, 1, 8, .pointer none⟩ := by kernel_rfl
theorem T227 : tiOf Try.prog 227 = some ⟨.func, 1, 8, .nilFunc⟩ := by kernel_rfl
theorem T228 : tiOf Try.prog 228 = some ⟨.struct [(0, 2, true), (2, 1, false)], 3, 24, .agg #[(.int .i64 0), (.int .i64 0), (.int .i64 0)]⟩ := by kernel_rfl
theorem T229 : tiOf Try.prog 229 = some ⟨.struct [(0, 2, true), (2, 1, false)], 3, 24, .agg #[(.int .i64 0), (.int .i64 0), (.int .i64 0)]⟩ := by kernel_rfl
theorem T230 : tiOf Try.prog 230 = some ⟨.func, 1, 8, .nilFunc⟩ := by kernel_rfl
theorem T231 : tiOf Try.prog 231 = some ⟨.func, 1, 8, .nilFunc⟩ := by kernel_rfl
theorem T232 : tiOf Try.prog 232 = some ⟨.func, 1, 8, .nilFunc⟩ := by kernel_rfl
theorem T233 : tiOf Try.prog 233 = some ⟨.func, 1, 8, .nilFunc⟩ := by kernel_rfl
theorem T234 : tiOf Try.prog 234 = some ⟨.struct [(0, 1, false), (1, 1, false), (2, 1, false), (3, 1, false)], 4, 48, .agg #[(.int .i64 0), (.int .i64 0), (.int .i64 0), (.slice none 0 0)]⟩ := by kernel_rfl
theorem T235 : tiOf Try.prog 235 = some ⟨.func, 1, 8, .nilFunc⟩ := by kernel_rfl
theorem T236 : tiOf Try.prog 236 = some ⟨.func, 1, 8, .nilFunc⟩ := by kernel_rfl
theorem T238 : tiOf Try.prog 238 = some ⟨.func, 1, 8, .nilFunc⟩ := by kernel_rfl
theorem T239 : tiOf Try.prog 239 = some ⟨.func, 1, 8, .nilFunc⟩ := by kernel_rfl
theorem T240 : tiOf Try.prog 240 = some ⟨.func, 1, 8, .nilFunc⟩ := by kernel_rfl
theorem T241 : tiOf Try.prog 241 = some ⟨.func, 1, 8, .nilFunc⟩ := by kernel_rfl
theorem T242 : tiOf Try.prog 242 = some ⟨.func, 1, 8, .nilFunc⟩ := by kernel_rfl
theorem T243 : tiOf Try.prog 243 = some ⟨.func, 1, 8, .nilFunc⟩ := by kernel_rfl
theorem T244 : tiOf Try.prog 244 = some ⟨.func, 1, 8, .nilFunc⟩ := by kernel_rfl
theorem T245 : tiOf Try.prog 245 = some ⟨.func, 1, 8, .nilFunc⟩ := by kernel_rfl
theorem T246 : tiOf Try.prog 246 = some ⟨.slice 47, 1, 24, .slice none 0 0⟩ := by kernel_rfl
theorem T247 : tiOf Try.prog 247 = some ⟨.func, 1, 8, .nilFunc⟩ := by kernel_rfl
theorem T248 : tiOf Try.prog 248 = some ⟨.func, 1, 8, .nilFunc⟩ := by kernel_rfl
theorem T249 : tiOf Try.prog 249 = some ⟨.func, 1, 8, .nilFunc⟩ := by kernel_rfl
theorem T250 : tiOf Try.prog 250 = some ⟨.func, 1, 8, .nilFunc⟩ := by kernel_rfl
theorem T251 : tiOf Try.prog 251 = some ⟨.func, 1, 8, .nilFunc⟩ := by kernel_rfl
theorem T252 : tiOf Try.prog 252 = some ⟨.func, 1, 8, .nilFunc⟩ := by kernel_rfl
theorem T253 : tiOf Try.prog 253 = some ⟨.func, 1, 8, .nilFunc⟩ := by kernel_rfl
theorem T254 : tiOf Try.prog 254 = some ⟨.func, 1, 8, .nilFunc⟩ := by kernel_rfl
theorem T255 : tiOf Try.prog 255 = some ⟨.func, 1, 8, .nilFunc⟩ := by kernel_rfl
theorem T256 : tiOf Try.prog 256 = some ⟨.func, 1, 8, .nilFunc⟩ := by kernel_rfl
theorem T257 : tiOf Try.prog 257 = some ⟨.func, 1, 8, .nilFunc⟩ := by kernel_rfl
theorem T258 : tiOf Try.prog 258 = some ⟨.array 8 4, 8, 8, .agg #[(.bool false), (.bool false), (.bool false), (.bool false), (.bool false), (.bool false), (.bool false), (.bool false)]⟩ := by kernel_rfl
theorem T259 : tiOf Try.prog 259 = some ⟨.array 8 92, 8, 192, .agg #[(.slice none 0 0), (.slice none 0 0), (.slice none 0 0), (.slice none 0 0), (.slice none 0 0), (.slice none 0 0), (.slice none 0 0), (.slice none 0 0)]⟩ := by kernel_rfl
theorem T260 : tiOf Try.prog 260 = some ⟨.struct [(0, 1, false), (1, 1, false), (2, 8, true), (10, 8, true), (18, 8, true), (26, 1, false), (27, 1, false)], 28, 272, .agg #[(.int .i64 0), (.int .i64 0), (.bool false), (.bool false), (.bool false), (.bool false), (.bool false), (.bool false), (.bool false), (.bool false), (.bool false), (.bool false), (.bool false), (.bool false), (.bool false), (.bool false), (.bool false), (.bool false), (.slice none 0 0), (.slice none 0 0), (.slice none 0 0), (.slice none 0 0), (.slice none 0 0), (.slice none 0 0), (.slice none 0 0), (.slice none 0 0), (.slice none 0 0), (.slice none 0 0)]⟩ := by kernel_rfl
theorem T261 : tiOf Try.prog 261 = some ⟨.struct [(0, 1, false), (1, 1, false), (2, 8, true), (10, 8, true), (18, 8, true), (26, 1, false), (27, 1, false)], 28, 272, .agg #[(.int .i64 0), (.int .i64 0), (.bool false), (.bool false), (.bool false), (.bool false), (.bool false), (.bool false), (.bool false), (.bool false), (.bool false), (.bool false), (.bool false), (.bool false), (.bool false), (.bool false), (.bool false), (.bool false), (.slice none 0 0), (.slice none 0 0), (.slice none 0 0), (.slice none 0 0), (.slice none 0 0), (.slice none 0 0), (.slice none 0 0), (.slice none 0 0), (.slice none 0 0), (.slice none 0 0)]⟩ := by kernel_rfl
theorem T262 : tiOf Try.prog 262 = some ⟨.func, 1, 8, .nilFunc⟩ := by kernel_rfl
theorem T263 : tiOf Try.prog 263 = some ⟨.func, 1, 8, .nilFunc⟩ := by kernel_rfl
theorem T264 : tiOf Try.prog 264 = some ⟨.func, 1, 8, .nilFunc⟩ := by kernel_rfl
theorem T265 : tiOf Try.prog 265 = some ⟨.int .u64, 1, 8, .int .u64 0⟩ := by kernel_rfl
theorem T266 : tiOf Try.prog 266 = some ⟨.func, 1, 8, .nilFunc⟩ := by kernel_rfl
theorem T267 : tiOf Try.prog 267 = some ⟨.func, 1, 8, .nilFunc⟩ := by kernel_rfl
theorem T268 : tiOf Try.prog 268 = some ⟨.func, 1, 8, .nilFunc⟩ := by kernel_rfl
theorem T269 : tiOf Try.prog 269 = some ⟨.func, 1, 8, .nilFunc⟩ := by kernel_rfl
theorem T270 : tiOf Try.prog 270 = some ⟨.func, 1, 8, .nilFunc⟩ := by kernel_rfl
theorem T271 : tiOf Try.prog 271 = some ⟨.int .u64, 1, 8, .int .u64 0⟩ := by kernel_rfl
theorem T272 : tiOf Try.prog 272 = some ⟨.struct [(0, 1, false), (1, 1, false)], 2, 16, .agg #[(.int .i64 0), (.int .u64 0)]⟩ := by kernel_rfl
theorem T273 : tiOf Try.prog 273 = some ⟨.struct [(0, 1, false), (1, 1, false)], 2, 16, .agg #[(.int .i64 0), (.int .u64 0)]⟩ := by kernel_rfl
theorem T274 : tiOf Try.prog 274 = some ⟨.func, 1, 8, .nilFunc⟩ := by kernel_rfl
theorem T275 : tiOf Try.prog 275 = some ⟨.func, 1, 8, .nilFunc⟩ := by kernel_rfl
theorem T276 : tiOf Try.prog 276 = some ⟨.struct [(0, 2, true), (2, 1, false)], 3, 24, .agg #[(.int .i64 0), (.int .i64 0), (.int .i64 0)]⟩ := by kernel_rfl
theorem T277 : tiOf Try.prog 277 = some ⟨.struct [(0, 2, true), (2, 1, false)], 3, 24, .agg #[(.int .i64 0), (.int .i64 0), (.int .i64 0)]⟩ := by kernel_rfl
theorem T278 : tiOf Try.prog 278 = some ⟨.func, 1, 8, .nilFunc⟩ := by kernel_rfl
theorem T279 : tiOf Try.prog 279 = some ⟨.func, 1, 8, .nilFunc⟩ := by kernel_rfl
theorem T280 : tiOf Try.prog 280 = some ⟨.func, 1, 8, .nilFunc⟩ := by kernel_rfl
theorem T281 : tiOf Try.prog 281 = some ⟨.func, 1, 8, .nilFunc⟩ := by kernel_rfl
theorem T282 : tiOf Try.prog 282 = some ⟨.func, 1, 8, .nilFunc⟩ := by kernel_rfl
theorem T283 : tiOf Try.prog 283 = some ⟨.func, 1, 8, .nilFunc⟩ := by kernel_rfl
theorem T284 : tiOf Try.prog 284 = some ⟨.func, 1, 8, .nilFunc⟩ := by kernel_rfl
theorem T285 : tiOf Try.prog 285 = some ⟨.func, 1, 8, .nilFunc⟩ := by kernel_rfl
theorem T287 : tiOf Try.prog 287 = some ⟨.func, 1, 8, .nilFunc⟩ := by kernel_rfl
theorem T288 : tiOf Try.prog 288 = some ⟨.func, 1, 8, .nilFunc⟩ := by kernel_rfl
theorem T290 : tiOf Try.prog 290 = some ⟨.func, 1, 8, .nilFunc⟩ := by kernel_rfl
theorem T291 : tiOf Try.prog 291 = some ⟨.func, 1, 8, .nilFunc⟩ := by kernel_rfl
theorem T292 : tiOf Try.prog 292 = some ⟨.func, 1, 8, .nilFunc⟩ := by kernel_rfl
theorem T293 : tiOf Try.prog 293 = some ⟨.func, 1, 8, .nilFunc⟩ := by kernel_rfl
theorem T294 : tiOf Try.prog 294 = some ⟨.func, 1, 8, .nilFunc⟩ := by kernel_rfl
theorem T295 : tiOf Try.prog 295 = some ⟨.func, 1, 8, .nilFunc⟩ := by kernel_rfl
theorem T296 : tiOf Try.prog 296 = some ⟨.func, 1, 8, .nilFunc⟩ := by kernel_rfl
theorem T297 : tiOf Try.prog 297 = some ⟨.func, 1, 8, .nilFunc⟩ := by kernel_rfl
theorem T298 : tiOf Try.prog 298 = some ⟨.func, 1, 8, .nilFunc⟩ := by kernel_rfl
theorem T299 : tiOf Try.prog 299 = some ⟨.func, 1, 8, .nilFunc⟩ := by kernel_rfl
theorem T300 : tiOf Try.prog 300 = some ⟨.func, 1, 8, .nilFunc⟩ := by kernel_rfl
theorem T301 : tiOf Try.prog 301 = some ⟨.func, 1, 8, .nilFunc⟩ := by kernel_rfl
theorem T302 : tiOf Try.prog 302 = some ⟨.func, 1, 8, .nilFunc⟩ := by kernel_rfl
theorem T303 : tiOf Try.prog 303 = some ⟨.func, 1, 8, .nilFunc⟩ := by kernel_rfl
theorem T304 : tiOf Try.prog 304 = some ⟨.func, 1, 8, .nilFunc⟩ := by kernel_rfl
theorem T305 : tiOf Try.prog 305 = some ⟨.func, 1, 8, .nilFunc⟩ := by kernel_rfl
theorem T306 : tiOf Try.prog 306 = some ⟨.func, 1, 8, .nilFunc⟩ := by kernel_rfl
theorem T307 : tiOf Try.prog 307 = some ⟨.func, 1, 8, .nilFunc⟩ := by kernel_rfl
theorem T308 : tiOf Try.prog 308 = some ⟨.func, 1, 8, .nilFunc⟩ := by kernel_rfl
theorem T309 : tiOf Try.prog 309 = some ⟨.func, 1, 8, .nilFunc⟩ := by kernel_rfl
theorem T310 : tiOf Try.prog 310 = some ⟨.func, 1, 8, .nilFunc⟩ := by kernel_rfl
theorem T311 : tiOf Try.prog 311 = some ⟨.func, 1, 8, .nilFunc⟩ := by kernel_rfl
theorem T312 : tiOf Try.prog 312 = some ⟨.func, 1, 8, .nilFunc⟩ := by kernel_rfl
theorem T313 : tiOf Try.prog 313 = some ⟨.func, 1, 8, .nilFunc⟩ := by kernel_rfl
theorem T314 : tiOf Try.prog 314 = some ⟨.func, 1, 8, .nilFunc⟩ := by kernel_rfl
theorem T315 : tiOf Try.prog 315 = some ⟨.func, 1, 8, .nilFunc⟩ := by kernel_rfl
theorem T316 : tiOf Try.prog 316 = some ⟨.func, 1, 8, .nilFunc⟩ := by kernel_rfl
theorem T317 : tiOf Try.prog 317 = some ⟨.func, 1, 8, .nilFunc⟩ := by kernel_rfl
theorem T318 : tiOf Try.prog 318 = some ⟨.func, 1, 8, .nilFunc⟩ := by kernel_rfl
theorem T319 : tiOf Try.prog 319 = some ⟨.func, 1, 8, .nilFunc⟩ := by kernel_rfl
theorem T320 : tiOf Try.prog 320 = some ⟨.func, 1, 8, .nilFunc⟩ := by kernel_rfl
theorem T321 : tiOf Try.prog 321 = some ⟨.func, 1, 8, .nilFunc⟩ := by kernel_rfl
theorem T322 : tiOf Try.prog 322 = some ⟨.int .i64, 1, 8, .int .i64 0⟩ := by kernel_rfl
theorem T324 : tiOf Try.prog 324 = some ⟨.func, 1, 8, .nilFunc⟩ := by kernel_rfl
theorem T325 : tiOf Try.prog 325 = some ⟨.func, 1, 8, .nilFunc⟩ := by kernel_rfl
theorem T326 : tiOf Try.prog 326 = some ⟨.func, 1, 8, .nilFunc⟩ := by kernel_rfl
theorem T327 : tiOf Try.prog 327 = some ⟨.func, 1, 8, .nilFunc⟩ := by kernel_rfl
theorem T328 : tiOf Try.prog 328 = some ⟨.func, 1, 8, .nilFunc⟩ := by kernel_rfl
theorem T329 : tiOf Try.prog 329 = some ⟨.int .u32, 1, 4, .int .u32 0⟩ := by kernel_rfl
theorem T330 : tiOf Try.prog 330 = some ⟨.func, 1, 8, .nilFunc⟩ := by kernel_rfl
theorem T331 : tiOf Try.prog 331 = some ⟨.func, 1, 8, .nilFunc⟩ := by kernel_rfl
theorem T332 : tiOf Try.prog 332 = some ⟨.func, 1, 8, .nilFunc⟩ := by kernel_rfl
theorem T333 : tiOf Try.prog 333 = some ⟨.func, 1, 8, .nilFunc⟩ := by kernel_rfl
theorem T334 : tiOf Try.prog 334 = some ⟨.func, 1, 8, .nilFunc⟩ := by kernel_rfl
theorem T335 : tiOf Try.prog 335 = some ⟨.func, 1, 8, .nilFunc⟩ := by kernel_rfl
theorem T336 : tiOf Try.prog 336 = some ⟨.func, 1, 8, .nilFunc⟩ := by kernel_rfl
theorem T337 : tiOf Try.prog 337 = some ⟨.func, 1, 8, .nilFunc⟩ := by kernel_rfl
theorem T338 : tiOf Try.prog 338 = some ⟨.int .u64, 1, 8, .int .u64 0⟩ := by kernel_rfl
theorem T339 : tiOf Try.prog 339 = some ⟨.func, 1, 8, .nilFunc⟩ := by kernel_rfl
theorem T340 : tiOf Try.prog 340 = some ⟨.func, 1, 8, .nilFunc⟩ := by kernel_rfl
theorem T341 : tiOf Try.prog 341 = some ⟨.func, 1, 8, .nilFunc⟩ := by kernel_rfl
theorem T342 : tiOf Try.prog 342 = some ⟨.ptr 3, 1, 8, .pointer none⟩ := by kernel_rfl
theorem T343 : tiOf Try.prog 343 = some ⟨.func, 1, 8, .nilFunc⟩ := by kernel_rfl
theorem T344 : tiOf Try.prog 344 = some ⟨.func, 1, 8, .nilFunc⟩ := by kernel_rfl
theorem T345 : tiOf Try.prog 345 = some ⟨.ptr 338, 1, 8, .pointer none⟩ := by kernel_rfl
theorem T347 : tiOf Try.prog 347 = some ⟨.func, 1, 8, .nilFunc⟩ := by kernel_rfl
theorem T348 : tiOf Try.prog 348 = some ⟨.func, 1, 8, .nilFunc⟩ := by kernel_rfl
theorem T349 : tiOf Try.prog 349 = some ⟨.func, 1, 8, .nilFunc⟩ := by kernel_rfl
theorem T350 : tiOf Try.prog 350 = some ⟨.struct [(0, 1, false), (1, 1, false), (2, 1, false), (3, 1, false)], 4, 40, .agg #[(.pointer none), (.pointer none), (.pointer none), (.string ⟨#[]⟩)]⟩ := by kernel_rfl
theorem T351 : tiOf Try.prog 351 = some ⟨.struct [(0, 1, false), (1, 1, false), (2, 1, false), (3, 1, false)], 4, 40, .agg #[(.pointer none), (.pointer none), (.pointer none), (.string ⟨#[]⟩)]⟩ := by kernel_rfl
theorem T352 : tiOf Try.prog 352 = some ⟨.array 0 16, 0, 0, .agg #[]⟩ := by kernel_rfl
theorem T353 : tiOf Try.prog 353 = some ⟨.struct [(0, 0, true)], 0, 0, .agg #[]⟩ := by kernel_rfl
theorem T354 : tiOf Try.prog 354 = some ⟨.struct [(0, 0, true)], 0, 0, .agg #[]⟩ := by kernel_rfl
theorem T355 : tiOf Try.prog 355 = some ⟨.func, 1, 8, .nilFunc⟩ := by kernel_rfl
theorem T356 : tiOf Try.prog 356 = some ⟨.int .u8, 1, 1, .int .u8 0⟩ := by kernel_rfl
theorem T357 : tiOf Try.prog 357 = some ⟨.int .u8, 1, 1, .int .u8 0⟩ := by kernel_rfl
theorem T358 : tiOf Try.prog 358 = some ⟨.func, 1, 8, .nilFunc⟩ := by kernel_rfl
theorem T359 : tiOf Try.prog 359 = some ⟨.ptr 5, 1, 8, .pointer none⟩ := by kernel_rfl
theorem T360 : tiOf Try.prog 360 = some ⟨.int .i32, 1, 4, .int .i32 0⟩ := by kernel_rfl
theorem T361 : tiOf Try.prog 361 = some ⟨.int .i32, 1, 4, .int .i32 0⟩ := by kernel_rfl
theorem T362 : tiOf Try.prog 362 = some ⟨.struct [(0, 1, false), (1, 1, false), (2, 1, false), (3, 1, false), (4, 1, false), (5, 1, false), (6, 1, false), (7, 1, false), (8, 1, false), (9, 1, false), (10, 1, false)], 11, 48, .agg #[(.int .u64 0), (.int .u64 0), (.int .u32 0), (.int .u8 0), (.int .u8 0), (.int .u8 0), (.int .u8 0), .nilFunc, (.pointer none), (.int .i32 0), (.int .i32 0)]⟩ := by kernel_rfl
theorem T363 : tiOf Try.prog 363 = some ⟨.struct [(0, 1, false), (1, 1, false), (2, 1, false), (3, 1, false), (4, 1, false), (5, 1, false), (6, 1, false), (7, 1, false), (8, 1, false), (9, 1, false), (10, 1, false)], 11, 48, .agg #[(.int .u64 0), (.int .u64 0), (.int .u32 0), (.int .u8 0), (.int .u8 0), (.int .u8 0), (.int .u8 0), .nilFunc, (.pointer none), (.int .i32 0), (.int .i32 0)]⟩ := by kernel_rfl
theorem T364 : tiOf Try.prog 364 = some ⟨.func, 1, 8, .nilFunc⟩ := by kernel_rfl
theorem E23 : eqOf Try.prog 23 = some [.int, .int] := by kernel_rfl
theorem E28 : eqOf Try.prog 28 = some [.int, .int, .int, .int, .int, .int, .int, .int] := by kernel_rfl
theorem E29 : eqOf Try.prog 29 = some [.int, .int, .int, .int, .int, .int, .int, .int, .int, .int, .int, .int, .int, .int, .int, .int, .int, .int, .int, .int, .int, .int, .int, .int, .int, .int, .int, .int, .int, .int, .int, .int, .int, .int, .int, .int, .int, .int, .int, .int, .int, .int, .int, .int, .int, .int, .int, .int, .int, .int, .int, .int, .int, .int, .int, .int, .int, .int, .int, .int, .int, .int, .int, .int] := by kernel_rfl
theorem E30 : eqOf Try.prog 30 = some [.int, .int, .int, .int, .int, .int, .int, .int, .int, .int, .int, .int, .int, .int, .int, .int, .int, .int, .int, .int, .int, .int, .int, .int, .int, .int, .int, .int, .int, .int, .int, .int, .int, .int, .int, .int, .int, .int, .int, .int, .int, .int, .int, .int, .int, .int, .int, .int, .int, .int, .int, .int, .int, .int, .int, .int, .int, .int, .int, .int, .int, .int, .int, .int] := by kernel_rfl
theorem E35 : eqOf Try.prog 35 = some [.int, .int, .int] := by kernel_rfl
theorem E36 : eqOf Try.prog 36 = some [.int, .int, .int] := by kernel_rfl
theorem E42 : eqOf Try.prog 42 = some [.int, .int, .int] := by kernel_rfl
theorem E53 : eqOf Try.prog 53 = some [.int, .int] := by kernel_rfl
theorem E54 : eqOf Try.prog 54 = some [.int, .int] := by kernel_rfl
theorem E64 : eqOf Try.prog 64 = some [.int, .int, .int, .int, .bool] := by kernel_rfl
theorem E65 : eqOf Try.prog 65 = some [.int, .int, .int, .int, .bool] := by kernel_rfl
theorem E69 : eqOf Try.prog 69 = some [.int, .int, .int, .int, .int, .int, .int, .int] := by kernel_rfl
theorem E70 : eqOf Try.prog 70 = some [.int, .int, .int, .int, .int, .int, .int, .int] := by kernel_rfl
theorem E141 : eqOf Try.prog 141 = some [.int, .int, .int, .int] := by kernel_rfl
theorem E142 : eqOf Try.prog 142 = some [.int, .int, .int, .int] := by kernel_rfl
theorem E159 : eqOf Try.prog 159 = some [.int, .int] := by kernel_rfl
theorem E190 : eqOf Try.prog 190 = some [.bool, .bool, .bool] := by kernel_rfl
theorem E228 : eqOf Try.prog 228 = some [.int, .int, .int] := by kernel_rfl
theorem E229 : eqOf Try.prog 229 = some [.int, .int, .int] := by kernel_rfl
theorem E258 : eqOf Try.prog 258 = some [.bool, .bool, .bool, .bool, .bool, .bool, .bool, .bool] := by kernel_rfl
theorem E272 : eqOf Try.prog 272 = some [.int, .int] := by kernel_rfl
theorem E273 : eqOf Try.prog 273 = some [.int, .int] := by kernel_rfl
theorem E276 : eqOf Try.prog 276 = some [.int, .int, .int] := by kernel_rfl
theorem E277 : eqOf Try.prog 277 = some [.int, .int, .int] := by kernel_rfl
attribute [go_sem] T1 T2 T3 T4 T5 T6 T7 T8 T9 T10 T11 T12 T13 T14 T15 T16 T17 T18 T19 T20 T21 T22 T23 T24 T25 T26 T27 T28 T29 T30 T32 T33 T34 T35 T36 T37 T39 T40 T41 T42 T43 T44 T45 T46 T47 T49 T51 T52 T53 T54 T55 T56 T57 T58 T59 T60 T61 T63 T64 T65 T67 T68 T69 T70 T71 T72 T74 T75 T76 T77 T78 T79 T80 T81 T82 T83 T84 T85 T86 T88 T89 T90 T91 T92 T93 T94 T95 T96 T98 T99 T101 T102 T103 T104 T105 T106 T107 T108 T109 T110 T111 T112 T113 T114 T115 T117 T118 T119 T120 T121 T122 T123 T125 T126 T127 T128 T129 T130 T131 T132 T134 T136 T137 T138 T139 T140 T141 T142 T143 T144 T146 T147 T148 T149 T150 T151 T153 T155 T156 T157 T158 T159 T160 T161 T162 T163 T164 T165 T166 T167 T168 T169 T170 T171 T172 T173 T174 T175 T176 T178 T180 T181 T182 T183 T184 T185 T186 T187 T189 T190 T192 T193 T194 T195 T196 T198 T199 T200 T201 T202 T203 T204 T205 T206 T207 T209 T210 T211 T212 T213 T214 T215 T216 T217 T218 T219 T220 T221 T222 T223 T225 T226 T227 T228 T229 T230 T231 T232 T233 T234 T235 T236 T238 T239 T240 T241 T242 T243 T244 T245 T246 T247 T248 T249 T250 T251 T252 T253 T254 T255 T256 T257 T258 T259 T260 T261 T262 T263 T264 T265 T266 T267 T268 T269 T270 T271 T272 T273 T274 T275 T276 T277 T278 T279 T280 T281 T282 T283 T284 T285 T287 T288 T290 T291 T292 T293 T294 T295 T296 T297 T298 T299 T300 T301 T302 T303 T304 T305 T306 T307 T308 T309 T310 T311 T312 T313 T314 T315 T316 T317 T318 T319 T320 T321 T322 T324 T325 T326 T327 T328 T329 T330 T331 T332 T333 T334 T335 T336 T337 T338 T339 T340 T341 T342 T343 T344 T345 T347 T348 T349 T350 T351 T352 T353 T354 T355 T356 T357 T358 T359 T360 T361 T362 T363 T364 E23 E28 E29 E30 E35 E36 E42 E53 E54 E64 E65 E69 E70 E141 E142 E159 E190 E228 E229 E258 E272 E273 E276 E277
end Go.Proofs.Ytdodgbhodkcckaa.Pv
end
section
set_option linter.unusedVariables false
set_option linter.unusedSimpArgs false
set_option autoImplicit false
set_option maxRecDepth 100000
namespace Go.Proofs.Ytdodgbhodkcckaa.Pv
open Go Go.RowKit
theorem run169 (a : Int) : Runs Try.prog 169 [pint .i64 a] [] (pbool false) [] := by
  refine Runs.of (kit Try.prog) Try.func169 rfl rfl (by rw [Try.ntmps169]; exact of_decide_eq_true rfl) ?_; rw [Try.ntmps169, Try.results169]
  repeat' (first|((first|refine goA rfl fun K hK=>?_|refine goB rfl fun K hK=>?_|refine goC rfl rfl fun K hK=>?_|refine goD rfl rfl fun K hK=>?_);simp (dsimp:=false) only [↓gq,↓stepP,↓stepG,go_sem])|refine Pwp.seq ?_|refine Pwp.block ?_|(refine Pwp.exit ?_;simp only [thenS,blockS,if_true,if_false,reduceIte,Nat.reduceEqDiff,Nat.add_one_ne_zero,reduceCtorEq])|(refine Pwp.skip ?_;simp only [thenS,blockS])|(refine Pwp.cond rfl True.intro (fun h=>?_) (fun h=>?_)<;>(try (cases h;done))<;>(try simp only [h]))|refine Pwp.ret ?_|(refine hK _ ?_;clear hK K)|(refine hK _ _ rfl ?_;clear hK K)|refine CallG.off ?_|with_reducible refine Or.inl ?_|simp only [thenS,blockS]|with_reducible refine And.intro ?_ ?_|with_reducible exact True.intro|simp (dsimp:=false) only [↓gq,↓stepP,↓stepG,go_sem])
  all_goals (try (first|(intro hg;simp_all;done)|(intro hg;simp [hg];done)|exact of_decide_eq_true rfl|(cases h;done)))
  refine Fin.data (.inr rfl) rfl ?_ rfl ?_
  · exact ⟨True.intro, True.intro⟩
  · simp [subD, subV]
theorem run109 (a b : Int) : Runs Try.prog 109 [pint .i64 a, pint .i64 b] [] (pint .i64 (if a < b then -1 else if b < a then 1 else 0)) [] := by
  refine Runs.of (kit Try.prog) Try.func109 rfl rfl (by rw [Try.ntmps109]; exact of_decide_eq_true rfl) ?_; rw [Try.ntmps109, Try.results109]
  repeat' (first|((first|refine goA rfl fun K hK=>?_|refine goB rfl fun K hK=>?_|refine goC rfl rfl fun K hK=>?_|refine goD rfl rfl fun K hK=>?_);simp (dsimp:=false) only [↓gq,↓stepP,↓stepG,go_sem])|refine Pwp.seq ?_|refine Pwp.block ?_|(refine Pwp.exit ?_;simp only [thenS,blockS,if_true,if_false,reduceIte,Nat.reduceEqDiff,Nat.add_one_ne_zero,reduceCtorEq])|(refine Pwp.skip ?_;simp only [thenS,blockS])|(refine Pwp.cond rfl True.intro (fun h=>?_) (fun h=>?_)<;>(try (cases h;done))<;>(try simp only [h]))|refine Pwp.ret ?_|(refine hK _ ?_;clear hK K)|(refine hK _ _ rfl ?_;clear hK K)|(refine CallK.same (run169 _) rfl ?_)|(refine CallG.same (fun _ => run169 _) rfl ?_ ?_)|(refine CallK.toD rfl (run169 _) rfl ?_)|(refine CallG.toD rfl (run169 _) rfl ?_ ?_)|refine CallG.off ?_|with_reducible refine Or.inl ?_|simp only [thenS,blockS]|with_reducible refine And.intro ?_ ?_|with_reducible exact True.intro|simp (dsimp:=false) only [↓gq,↓stepP,↓stepG,go_sem])
  all_goals (try (first|(intro hg;simp_all;done)|(intro hg;simp [hg];done)|exact of_decide_eq_true rfl|(cases h;done)))
  all_goals (refine Fin.data (.inr rfl) rfl ?_ rfl ?_; exact ⟨True.intro, True.intro⟩; simp_all [subD, subV]; try omega)
def L108 (a b : Int) (i : Nat) : St := ⟨[(8, pint .i64 i), (7, pint .i64 2), (6, .d (.slc 1 [.v (.int .i64 a), .v (.int .i64 b)])), (3, pint .i64 0), (2, pint .i64 0), (0, .d (.slc 1 [.v (.int .i64 a), .v (.int .i64 b)]))], [], 28⟩
theorem run108 (a b : Int) : Runs Try.prog 108 [.d (.slc 1 [.v (.int .i64 a), .v (.int .i64 b)])] [] (pint .i64 (if a = 0 then b else a)) [] := by
  refine Runs.of (kit Try.prog) Try.func108 rfl rfl (by rw [Try.ntmps108]; exact of_decide_eq_true rfl) ?_; rw [Try.ntmps108, Try.results108]
  repeat' (first|((first|refine goA rfl fun K hK=>?_|refine goB rfl fun K hK=>?_|refine goC rfl rfl fun K hK=>?_|refine goD rfl rfl fun K hK=>?_);simp (dsimp:=false) only [↓gq,↓stepP,↓stepG,go_sem])|refine Pwp.seq ?_|refine Pwp.block ?_|(refine Pwp.exit ?_;simp only [thenS,blockS,if_true,if_false,reduceIte,Nat.reduceEqDiff,Nat.add_one_ne_zero,reduceCtorEq])|(refine Pwp.skip ?_;simp only [thenS,blockS])|(refine Pwp.cond rfl True.intro (fun h=>?_) (fun h=>?_)<;>(try (cases h;done))<;>(try simp only [h]))|refine Pwp.ret ?_|(refine hK _ ?_;clear hK K)|(refine hK _ _ rfl ?_;clear hK K)|refine CallG.off ?_|with_reducible refine Or.inl ?_|simp only [thenS,blockS]|with_reducible refine And.intro ?_ ?_|with_reducible exact True.intro|simp (dsimp:=false) only [↓gq,↓stepP,↓stepG,go_sem])
  all_goals (try (first|(intro hg;simp_all;done)|(intro hg;simp [hg];done)|exact of_decide_eq_true rfl|(cases h;done)))
  refine Pwp.loop (fun k s => ∃ i, i ≤ 2 ∧ k = 2 - i ∧ s = L108 a b i ∧ (1 ≤ i → a = 0) ∧ (2 ≤ i → b = 0)) 2 (Sub.refl _ _) ⟨0, by omega, rfl, rfl, by omega, by omega⟩ ?_
  rintro k s ⟨i, hi, rfl, rfl, h1, h2⟩
  have : i = 0 ∨ i = 1 ∨ i = 2 := by omega
  rcases this with rfl | rfl | rfl <;> unfold L108
  · repeat' (first|((first|refine goA rfl fun K hK=>?_|refine goB rfl fun K hK=>?_|refine goC rfl rfl fun K hK=>?_|refine goD rfl rfl fun K hK=>?_);simp (dsimp:=false) only [↓gq,↓stepP,↓stepG,go_sem])|refine Pwp.seq ?_|refine Pwp.block ?_|(refine Pwp.exit ?_;simp only [thenS,blockS,if_true,if_false,reduceIte,Nat.reduceEqDiff,Nat.add_one_ne_zero,reduceCtorEq])|(refine Pwp.skip ?_;simp only [thenS,blockS])|(refine Pwp.cond rfl True.intro (fun h=>?_) (fun h=>?_)<;>(try (cases h;done))<;>(try simp only [h]))|refine Pwp.ret ?_|(refine hK _ ?_;clear hK K)|(refine hK _ _ rfl ?_;clear hK K)|refine CallG.off ?_|with_reducible refine Or.inl ?_|simp only [thenS,blockS]|with_reducible refine And.intro ?_ ?_|with_reducible exact True.intro|simp (dsimp:=false) only [↓gq,↓stepP,↓stepG,go_sem])
    all_goals (try (first|(intro hg;simp_all;done)|(intro hg;simp [hg];done)|exact of_decide_eq_true rfl|(cases h;done)))
    · refine Fin.data (.inr rfl) rfl ?_ rfl ?_
      · exact ⟨True.intro, True.intro⟩
      · simp_all [subD, subV]
    · refine ⟨1, L108 a b 1, by omega, Sub.same (by simp [L108]) trivial ?_, 1, by omega, rfl, rfl, fun _ => by simpa using h, by omega⟩
      simp [viewT, viewP, L108, V0, keptOf, St.ev, find, PVal.toD, subD, subV, disj, PVal.ids, wrap_of]
  · repeat' (first|((first|refine goA rfl fun K hK=>?_|refine goB rfl fun K hK=>?_|refine goC rfl rfl fun K hK=>?_|refine goD rfl rfl fun K hK=>?_);simp (dsimp:=false) only [↓gq,↓stepP,↓stepG,go_sem])|refine Pwp.seq ?_|refine Pwp.block ?_|(refine Pwp.exit ?_;simp only [thenS,blockS,if_true,if_false,reduceIte,Nat.reduceEqDiff,Nat.add_one_ne_zero,reduceCtorEq])|(refine Pwp.skip ?_;simp only [thenS,blockS])|(refine Pwp.cond rfl True.intro (fun h=>?_) (fun h=>?_)<;>(try (cases h;done))<;>(try simp only [h]))|refine Pwp.ret ?_|(refine hK _ ?_;clear hK K)|(refine hK _ _ rfl ?_;clear hK K)|refine CallG.off ?_|with_reducible refine Or.inl ?_|simp only [thenS,blockS]|with_reducible refine And.intro ?_ ?_|with_reducible exact True.intro|simp (dsimp:=false) only [↓gq,↓stepP,↓stepG,go_sem])
    all_goals (try (first|(intro hg;simp_all;done)|(intro hg;simp [hg];done)|exact of_decide_eq_true rfl|(cases h;done)))
    · refine Fin.data (.inr rfl) rfl ?_ rfl ?_
      · exact ⟨True.intro, True.intro⟩
      · simp_all [subD, subV]
    · refine ⟨0, L108 a b 2, by omega, Sub.same (by simp [L108]) trivial ?_, 2, by omega, rfl, rfl, fun _ => h1 (by omega), fun _ => by simpa using h⟩
      simp [viewT, viewP, L108, V0, keptOf, St.ev, find, PVal.toD, subD, subV, disj, PVal.ids, wrap_of]
  · repeat' (first|((first|refine goA rfl fun K hK=>?_|refine goB rfl fun K hK=>?_|refine goC rfl rfl fun K hK=>?_|refine goD rfl rfl fun K hK=>?_);simp (dsimp:=false) only [↓gq,↓stepP,↓stepG,go_sem])|refine Pwp.seq ?_|refine Pwp.block ?_|(refine Pwp.exit ?_;simp only [thenS,blockS,if_true,if_false,reduceIte,Nat.reduceEqDiff,Nat.add_one_ne_zero,reduceCtorEq])|(refine Pwp.skip ?_;simp only [thenS,blockS])|(refine Pwp.cond rfl True.intro (fun h=>?_) (fun h=>?_)<;>(try (cases h;done))<;>(try simp only [h]))|refine Pwp.ret ?_|(refine hK _ ?_;clear hK K)|(refine hK _ _ rfl ?_;clear hK K)|refine CallG.off ?_|with_reducible refine Or.inl ?_|simp only [thenS,blockS]|with_reducible refine And.intro ?_ ?_|with_reducible exact True.intro|simp (dsimp:=false) only [↓gq,↓stepP,↓stepG,go_sem])
    all_goals (try (first|(intro hg;simp_all;done)|(intro hg;simp [hg];done)|exact of_decide_eq_true rfl|(cases h;done)))
    refine Fin.data (.inr rfl) rfl ?_ rfl ?_
    · exact ⟨True.intro, True.intro⟩
    · simp [subD, subV, h1, h2]
def cmpI (a b : Int) : Int := if a < b then -1 else if b < a then 1 else 0
theorem run44 (a b c d : Int) : Runs Try.prog 44 [.d (.agg [.v (.int .i64 a), .v (.int .i64 b)]), .d (.agg [.v (.int .i64 c), .v (.int .i64 d)])] [] (pint .i64 (if cmpI a c = 0 then cmpI b d else cmpI a c)) [] := by
  refine Runs.of (kit Try.prog) Try.func44 rfl rfl (by rw [Try.ntmps44]; exact of_decide_eq_true rfl) ?_; rw [Try.ntmps44, Try.results44]
  repeat' (first|((first|refine goA rfl fun K hK=>?_|refine goB rfl fun K hK=>?_|refine goC rfl rfl fun K hK=>?_|refine goD rfl rfl fun K hK=>?_);simp (dsimp:=false) only [↓gq,↓stepP,↓stepG,go_sem])|refine Pwp.seq ?_|refine Pwp.block ?_|(refine Pwp.exit ?_;simp only [thenS,blockS,if_true,if_false,reduceIte,Nat.reduceEqDiff,Nat.add_one_ne_zero,reduceCtorEq])|(refine Pwp.skip ?_;simp only [thenS,blockS])|(refine Pwp.cond rfl True.intro (fun h=>?_) (fun h=>?_)<;>(try (cases h;done))<;>(try simp only [h]))|refine Pwp.ret ?_|(refine hK _ ?_;clear hK K)|(refine hK _ _ rfl ?_;clear hK K)|(refine CallK.same (run109 _ _) rfl ?_)|(refine CallG.same (fun _ => run109 _ _) rfl ?_ ?_)|(refine CallK.toD rfl (run109 _ _) rfl ?_)|(refine CallG.toD rfl (run109 _ _) rfl ?_ ?_)|(refine CallK.same (run108 _ _) rfl ?_)|(refine CallG.same (fun _ => run108 _ _) rfl ?_ ?_)|(refine CallK.toD rfl (run108 _ _) rfl ?_)|(refine CallG.toD rfl (run108 _ _) rfl ?_ ?_)|refine CallG.off ?_|with_reducible refine Or.inl ?_|simp only [thenS,blockS]|with_reducible refine And.intro ?_ ?_|with_reducible exact True.intro|simp (dsimp:=false) only [↓gq,↓stepP,↓stepG,go_sem])
  all_goals (try (first|(intro hg;simp_all;done)|(intro hg;simp [hg];done)|exact of_decide_eq_true rfl|(cases h;done)))
  refine Fin.data (.inr rfl) rfl ?_ rfl ?_
  · exact ⟨True.intro, True.intro⟩
  · exact subD_refl _
abbrev I64 (n : Int) : D := .v (.int .i64 n)
def cmpN (s n t m : Int) : Int := if cmpI s t = 0 then cmpI n m else cmpI s t
end Go.Proofs.Ytdodgbhodkcckaa.Pv
end
section
set_option linter.unusedVariables false
set_option linter.unusedSimpArgs false
set_option autoImplicit false
set_option maxRecDepth 100000
namespace Go.Proofs.Ytdodgbhodkcckaa.Pv
open Go Go.RowKit
theorem run115 (els : List D) (ho : ∀ d ∈ els, d.cells.all D.one = true) (hm : els.length * 64 ≤ 140737488355328) : Runs Try.prog 115 [.d (.slc 8 els)] [] (.own 8 0 8 0 els.length) [(8, .arr 70 8 0 none els)] := by
  refine Runs.slc (pre := []) (post := []) (fun hne => ?_) (fun he ad cap => ?_)
  · obtain ⟨x, xs, rfl⟩ := List.exists_cons_of_ne_nil hne
    refine Runs.of (kit Try.prog) Try.func115 rfl rfl (by rw [Try.ntmps115]; exact of_decide_eq_true rfl) ?_; rw [Try.ntmps115, Try.results115]
    repeat' (first|((first|refine goA rfl fun K hK=>?_|refine goB rfl fun K hK=>?_|refine goC rfl rfl fun K hK=>?_|refine goD rfl rfl fun K hK=>?_);simp (dsimp:=false) only [↓gq,↓stepP,↓stepG,go_sem])|refine Pwp.seq ?_|refine Pwp.block ?_|(refine Pwp.exit ?_;simp only [thenS,blockS,if_true,if_false,reduceIte,Nat.reduceEqDiff,Nat.add_one_ne_zero,reduceCtorEq])|(refine Pwp.skip ?_;simp only [thenS,blockS])|(refine Pwp.cond rfl True.intro (fun h=>?_) (fun h=>?_)<;>(try (cases h;done))<;>(try simp only [h]))|refine Pwp.ret ?_|(refine hK _ ?_;clear hK K)|(refine hK _ _ rfl ?_;clear hK K)|refine CallG.off ?_|with_reducible refine Or.inl ?_|simp only [thenS,blockS]|with_reducible refine And.intro ?_ ?_|with_reducible exact True.intro|simp (dsimp:=false) only [↓gq,↓stepP,↓stepG,go_sem])
    all_goals (try (first|(intro hg;simp_all;done)|(intro hg;simp [hg];done)|exact of_decide_eq_true rfl|(cases h;done)))
    all_goals (try (first | exact ho | (simp [maxLen] at hm ⊢; omega)))
    show Fin _ _ (.own 8 0 8 0 (x :: xs).length) [(8, .arr 70 8 0 none (x :: xs))] _ _
    refine Fin.row (els := x :: xs) (.inr rfl) rfl ?_ rfl rfl
    exact ⟨True.intro, True.intro⟩
  · subst he
    cases ad with
    | none =>
      refine Runs.of (kit Try.prog) Try.func115 rfl rfl (by rw [Try.ntmps115]; exact of_decide_eq_true rfl) ?_; rw [Try.ntmps115, Try.results115]
      repeat' (first|((first|refine goA rfl fun K hK=>?_|refine goB rfl fun K hK=>?_|refine goC rfl rfl fun K hK=>?_|refine goD rfl rfl fun K hK=>?_);simp (dsimp:=false) only [↓gq,↓stepP,↓stepG,go_sem])|refine Pwp.seq ?_|refine Pwp.block ?_|(refine Pwp.exit ?_;simp only [thenS,blockS,if_true,if_false,reduceIte,Nat.reduceEqDiff,Nat.add_one_ne_zero,reduceCtorEq])|(refine Pwp.skip ?_;simp only [thenS,blockS])|(refine Pwp.cond rfl True.intro (fun h=>?_) (fun h=>?_)<;>(try (cases h;done))<;>(try simp only [h]))|refine Pwp.ret ?_|(refine hK _ ?_;clear hK K)|(refine hK _ _ rfl ?_;clear hK K)|refine CallG.off ?_|with_reducible refine Or.inl ?_|simp only [thenS,blockS]|with_reducible refine And.intro ?_ ?_|with_reducible exact True.intro|simp (dsimp:=false) only [↓gq,↓stepP,↓stepG,go_sem])
      all_goals (try (first|(intro hg;simp_all;done)|(intro hg;simp [hg];done)|exact of_decide_eq_true rfl|(cases h;done)))
      refine Fin.nil (.inr rfl) rfl ?_
      exact ⟨True.intro, True.intro⟩
    | some ad =>
      refine Runs.of (kit Try.prog) Try.func115 rfl rfl (by rw [Try.ntmps115]; exact of_decide_eq_true rfl) ?_; rw [Try.ntmps115, Try.results115]
      repeat' (first|((first|refine goA rfl fun K hK=>?_|refine goB rfl fun K hK=>?_|refine goC rfl rfl fun K hK=>?_|refine goD rfl rfl fun K hK=>?_);simp (dsimp:=false) only [↓gq,↓stepP,↓stepG,go_sem])|refine Pwp.seq ?_|refine Pwp.block ?_|(refine Pwp.exit ?_;simp only [thenS,blockS,if_true,if_false,reduceIte,Nat.reduceEqDiff,Nat.add_one_ne_zero,reduceCtorEq])|(refine Pwp.skip ?_;simp only [thenS,blockS])|(refine Pwp.cond rfl True.intro (fun h=>?_) (fun h=>?_)<;>(try (cases h;done))<;>(try simp only [h]))|refine Pwp.ret ?_|(refine hK _ ?_;clear hK K)|(refine hK _ _ rfl ?_;clear hK K)|refine CallG.off ?_|with_reducible refine Or.inl ?_|simp only [thenS,blockS]|with_reducible refine And.intro ?_ ?_|with_reducible exact True.intro|simp (dsimp:=false) only [↓gq,↓stepP,↓stepG,go_sem])
      all_goals (try (first|(intro hg;simp_all;done)|(intro hg;simp [hg];done)|exact of_decide_eq_true rfl|(cases h;done)))
      all_goals (try (first | exact ho | (simp [maxLen]; done)))
      refine Fin.row (els := []) (.inr rfl) rfl ?_ rfl rfl
      exact ⟨True.intro, True.intro⟩
theorem run167 (els : List D) (ho : ∀ d ∈ els, d.cells.all D.one = true) (hm : els.length * 24 ≤ 140737488355328) : Runs Try.prog 167 [.d (.slc 3 els)] [] (.own 8 0 3 0 els.length) [(8, .arr 277 3 0 none els)] := by
  refine Runs.slc (pre := []) (post := []) (fun hne => ?_) (fun he ad cap => ?_)
  · obtain ⟨x, xs, rfl⟩ := List.exists_cons_of_ne_nil hne
    refine Runs.of (kit Try.prog) Try.func167 rfl rfl (by rw [Try.ntmps167]; exact of_decide_eq_true rfl) ?_; rw [Try.ntmps167, Try.results167]
    repeat' (first|((first|refine goA rfl fun K hK=>?_|refine goB rfl fun K hK=>?_|refine goC rfl rfl fun K hK=>?_|refine goD rfl rfl fun K hK=>?_);simp (dsimp:=false) only [↓gq,↓stepP,↓stepG,go_sem])|refine Pwp.seq ?_|refine Pwp.block ?_|(refine Pwp.exit ?_;simp only [thenS,blockS,if_true,if_false,reduceIte,Nat.reduceEqDiff,Nat.add_one_ne_zero,reduceCtorEq])|(refine Pwp.skip ?_;simp only [thenS,blockS])|(refine Pwp.cond rfl True.intro (fun h=>?_) (fun h=>?_)<;>(try (cases h;done))<;>(try simp only [h]))|refine Pwp.ret ?_|(refine hK _ ?_;clear hK K)|(refine hK _ _ rfl ?_;clear hK K)|refine CallG.off ?_|with_reducible refine Or.inl ?_|simp only [thenS,blockS]|with_reducible refine And.intro ?_ ?_|with_reducible exact True.intro|simp (dsimp:=false) only [↓gq,↓stepP,↓stepG,go_sem])
    all_goals (try (first|(intro hg;simp_all;done)|(intro hg;simp [hg];done)|exact of_decide_eq_true rfl|(cases h;done)))
    all_goals (try (first | exact ho | (simp [maxLen] at hm ⊢; omega)))
    show Fin _ _ (.own 8 0 3 0 (x :: xs).length) [(8, .arr 277 3 0 none (x :: xs))] _ _
    refine Fin.row (els := x :: xs) (.inr rfl) rfl ?_ rfl rfl
    exact ⟨True.intro, True.intro⟩
  · subst he
    cases ad with
    | none =>
      refine Runs.of (kit Try.prog) Try.func167 rfl rfl (by rw [Try.ntmps167]; exact of_decide_eq_true rfl) ?_; rw [Try.ntmps167, Try.results167]
      repeat' (first|((first|refine goA rfl fun K hK=>?_|refine goB rfl fun K hK=>?_|refine goC rfl rfl fun K hK=>?_|refine goD rfl rfl fun K hK=>?_);simp (dsimp:=false) only [↓gq,↓stepP,↓stepG,go_sem])|refine Pwp.seq ?_|refine Pwp.block ?_|(refine Pwp.exit ?_;simp only [thenS,blockS,if_true,if_false,reduceIte,Nat.reduceEqDiff,Nat.add_one_ne_zero,reduceCtorEq])|(refine Pwp.skip ?_;simp only [thenS,blockS])|(refine Pwp.cond rfl True.intro (fun h=>?_) (fun h=>?_)<;>(try (cases h;done))<;>(try simp only [h]))|refine Pwp.ret ?_|(refine hK _ ?_;clear hK K)|(refine hK _ _ rfl ?_;clear hK K)|refine CallG.off ?_|with_reducible refine Or.inl ?_|simp only [thenS,blockS]|with_reducible refine And.intro ?_ ?_|with_reducible exact True.intro|simp (dsimp:=false) only [↓gq,↓stepP,↓stepG,go_sem])
      all_goals (try (first|(intro hg;simp_all;done)|(intro hg;simp [hg];done)|exact of_decide_eq_true rfl|(cases h;done)))
      refine Fin.nil (.inr rfl) rfl ?_
      exact ⟨True.intro, True.intro⟩
    | some ad =>
      refine Runs.of (kit Try.prog) Try.func167 rfl rfl (by rw [Try.ntmps167]; exact of_decide_eq_true rfl) ?_; rw [Try.ntmps167, Try.results167]
      repeat' (first|((first|refine goA rfl fun K hK=>?_|refine goB rfl fun K hK=>?_|refine goC rfl rfl fun K hK=>?_|refine goD rfl rfl fun K hK=>?_);simp (dsimp:=false) only [↓gq,↓stepP,↓stepG,go_sem])|refine Pwp.seq ?_|refine Pwp.block ?_|(refine Pwp.exit ?_;simp only [thenS,blockS,if_true,if_false,reduceIte,Nat.reduceEqDiff,Nat.add_one_ne_zero,reduceCtorEq])|(refine Pwp.skip ?_;simp only [thenS,blockS])|(refine Pwp.cond rfl True.intro (fun h=>?_) (fun h=>?_)<;>(try (cases h;done))<;>(try simp only [h]))|refine Pwp.ret ?_|(refine hK _ ?_;clear hK K)|(refine hK _ _ rfl ?_;clear hK K)|refine CallG.off ?_|with_reducible refine Or.inl ?_|simp only [thenS,blockS]|with_reducible refine And.intro ?_ ?_|with_reducible exact True.intro|simp (dsimp:=false) only [↓gq,↓stepP,↓stepG,go_sem])
      all_goals (try (first|(intro hg;simp_all;done)|(intro hg;simp [hg];done)|exact of_decide_eq_true rfl|(cases h;done)))
      all_goals (try (first | exact ho | (simp [maxLen]; done)))
      refine Fin.row (els := []) (.inr rfl) rfl ?_ rfl rfl
      exact ⟨True.intro, True.intro⟩
end Go.Proofs.Ytdodgbhodkcckaa.Pv
end
section
set_option linter.unusedVariables false
set_option linter.unusedSimpArgs false
set_option autoImplicit false
namespace Go.Proofs.Ytdodgbhodkcckaa.Pv
def bsLoop (c : Nat → Int) (i j : Nat) : Nat := if h : i < j then (if c ((i + j) / 2) < 0 then bsLoop c ((i + j) / 2 + 1) j else bsLoop c i ((i + j) / 2)) else i
termination_by j - i
decreasing_by all_goals omega
theorem bsLoop_lt {c : Nat → Int} {i j : Nat} (h : i < j) (hc : c ((i + j) / 2) < 0) : bsLoop c i j = bsLoop c ((i + j) / 2 + 1) j := by
  rw [bsLoop]; simp [h, hc]
theorem bsLoop_ge {c : Nat → Int} {i j : Nat} (h : i < j) (hc : ¬ c ((i + j) / 2) < 0) : bsLoop c i j = bsLoop c i ((i + j) / 2) := by
  rw [bsLoop]; simp [h, hc]
theorem bsLoop_end {c : Nat → Int} {i j : Nat} (h : ¬ i < j) : bsLoop c i j = i := by
  rw [bsLoop]; simp [h]
theorem bsLoop_le (c : Nat → Int) : ∀ (d i j : Nat), j - i = d → i ≤ j → bsLoop c i j ≤ j := by
  intro d
  induction d using Nat.strongRecOn with
  | _ d ih =>
    intro i j hd hij
    by_cases h : i < j
    · by_cases hc : c ((i + j) / 2) < 0
      · rw [bsLoop_lt h hc]; exact ih _ (by omega) _ _ rfl (by omega)
      · rw [bsLoop_ge h hc]; have := ih (((i + j) / 2) - i) (by omega) i ((i + j) / 2) rfl (by omega); omega
    · rw [bsLoop_end h]; exact hij
theorem put_grown {α : Type} {els : List α} {x z : α} {i : Nat} (hi : i < els.length) :
    ((els.take i ++ List.replicate (els.length + 1 - i) z).take i ++ [x] ++ (els.take i ++ List.replicate (els.length + 1 - i) z).drop (i + 1)).take (i + 1) ++ (els.drop i) ++
      ((els.take i ++ List.replicate (els.length + 1 - i) z).take i ++ [x] ++ (els.take i ++ List.replicate (els.length + 1 - i) z).drop (i + 1)).drop (i + 1 + (els.length - i)) = els.take i ++ x :: els.drop i := by
  have h1 : (els.take i).length = i := by simp; omega
  have h2 : (els.take i ++ List.replicate (els.length + 1 - i) z).take i = els.take i := List.take_left' h1
  have h3 : (els.take i ++ List.replicate (els.length + 1 - i) z).drop (i + 1) = List.replicate (els.length - i) z := by
    rw [show i + 1 = (els.take i).length + 1 by omega, List.drop_append, List.drop_eq_nil_of_le (by omega), List.nil_append, List.drop_replicate]
    congr 1; omega
  rw [h2, h3]
  have h4 : (els.take i ++ [x]).length = i + 1 := by simp; omega
  have h5 : (els.take i ++ [x] ++ List.replicate (els.length - i) z).drop (i + 1 + (els.length - i)) = [] := List.drop_eq_nil_of_le (by simp; omega)
  rw [List.take_left' h4, h5]
  simp
theorem put_moved {α : Type} {els : List α} {x : α} {i : Nat} (hi : i < els.length) :
    (els.take (i + 1) ++ els.drop i ++ els.drop (i + 1 + (els.length - i))).take i ++ [x] ++ (els.take (i + 1) ++ els.drop i ++ els.drop (i + 1 + (els.length - i))).drop (i + 1) = els.take i ++ x :: els.drop i := by
  have h1 : (els.take (i + 1)).length = i + 1 := by simp; omega
  have h0 : els.drop (i + 1 + (els.length - i)) = [] := List.drop_eq_nil_of_le (by omega)
  rw [h0, List.append_nil, List.drop_left' h1, List.take_append, List.take_take, h1]
  simp [Nat.min_eq_left (Nat.le_succ i), show i - (i + 1) = 0 by omega]
theorem take_drop_all {α : Type} (els : List α) (i n : Nat) (h : els.length - i ≤ n) : (els.drop i).take n = els.drop i := List.take_of_length_le (by simpa using h)
end Go.Proofs.Ytdodgbhodkcckaa.Pv
end
section
set_option linter.unusedVariables false
set_option linter.unusedSimpArgs false
set_option autoImplicit false
set_option maxRecDepth 100000
namespace Go.Proofs.Ytdodgbhodkcckaa.Pv
open Go Go.RowKit
def L113 (xs : List (List D)) (tv : List D) (g : Nat) (i j : Nat) : St := ⟨[(10, pint .i64 j), (9, pint .i64 i), (8, pint .i64 xs.length), (4, .ref 8 0), (0, .d (.slc 8 (xs.map .agg))), (2, .d (.v (.func (.func g) #[] #[])))], [(8, .box (tv.map .d))], 40⟩
theorem run113 (xs : List (List D)) (tv : List D) (g : Nat) (c : Nat → Int) (hx : ∀ x ∈ xs, x.length = 8) (ht : tv.length = 2) (hl : xs.length < 4611686018427387904) (hc : ∀ i x, xs[i]? = some x → Runs Try.prog g [.d (.agg x), .d (.agg tv)] [] (pint .i64 (c i)) []) :
    Runs Try.prog 113 [.d (.slc 8 (xs.map .agg)), .d (.agg tv), .d (.v (.func (.func g) #[] #[]))] [] (.d (.tup [.v (.int .i64 (bsLoop c 0 xs.length)), .v (.bool (decide (bsLoop c 0 xs.length < xs.length) && (c (bsLoop c 0 xs.length) == 0)))])) [] := by
  refine Runs.of (kit Try.prog) Try.func113 rfl rfl (by rw [Try.ntmps113]; exact of_decide_eq_true rfl) ?_; rw [Try.ntmps113, Try.results113]
  repeat' (first|((first|refine goA rfl fun K hK=>?_|refine goB rfl fun K hK=>?_|refine goC rfl rfl fun K hK=>?_|refine goD rfl rfl fun K hK=>?_);simp (dsimp:=false) only [↓gq,↓stepP,↓stepG,go_sem])|refine Pwp.seq ?_|refine Pwp.block ?_|(refine Pwp.exit ?_;simp only [thenS,blockS,if_true,if_false,reduceIte,Nat.reduceEqDiff,Nat.add_one_ne_zero,reduceCtorEq])|(refine Pwp.skip ?_;simp only [thenS,blockS])|(refine Pwp.cond rfl True.intro (fun h=>?_) (fun h=>?_)<;>(try (cases h;done))<;>(try simp only [h]))|refine Pwp.ret ?_|(refine hK _ ?_;clear hK K)|(refine hK _ _ rfl ?_;clear hK K)|refine CallG.off ?_|with_reducible refine Or.inl ?_|simp only [thenS,blockS]|with_reducible refine And.intro ?_ ?_|with_reducible exact True.intro|simp (dsimp:=false) only [↓gq,↓stepP,↓stepG,go_sem])
  all_goals (try (first|(intro hg;simp_all;done)|(intro hg;simp [hg];done)|exact of_decide_eq_true rfl|(cases h;done)))
  refine Pwp.loop (fun k s => ∃ i j, i ≤ j ∧ j ≤ xs.length ∧ k = j - i ∧ s = L113 xs tv g i j ∧ bsLoop c i j = bsLoop c 0 xs.length) xs.length (s := L113 xs tv g 0 xs.length) (Sub.same (by simp [L113]) ?_ ?_) ⟨0, xs.length, by omega, by omega, by omega, rfl, rfl⟩ ?_
  · simp [viewH, viewP, viewO, L113, V0, keptOf, find, viewL_ds]
  · simp [viewT, viewP, L113, V0, keptOf, St.ev, find, PVal.toD, subD, subV, disj, PVal.ids]
  rintro k s ⟨i, j, hij, hj, rfl, rfl, hb⟩
  rcases Nat.lt_or_ge i j with hlt | hge
  · have hh := half (i := i) (j := j) (by omega)
    have hh2 : IntKind.i64.wrap (Int.fdiv (IntKind.u64.wrap (IntKind.i64.wrap ((i : Int) + j))) (2 ^ min 1 64)) = (((i + j) / 2 : Nat) : Int) := half (i := i) (j := j) (by omega)
    obtain ⟨x, hxe⟩ : ∃ x, xs[(i + j) / 2]? = some x := ⟨_, List.getElem?_eq_getElem (by omega)⟩
    have hg : (xs.map D.agg)[(i + j) / 2]? = some (.agg x) := by simp [hxe]
    have hx1 : (x.map PVal.d).length = 8 := by simp [hx x (List.mem_of_getElem? hxe)]
    have hx3 : (x.map PVal.d).take 8 = x.map PVal.d := List.take_of_length_le (by omega)
    have ht1 : (tv.map PVal.d).length = 2 := by simp [ht]
    have ht3 : (tv.map PVal.d).take 2 = tv.map PVal.d := List.take_of_length_le (by omega)
    have hcc := hc _ x hxe
    have hlt' : decide ((i : Int) < (j : Int)) = true := by simp; omega
    unfold L113
    repeat' (first|((first|refine goA rfl fun K hK=>?_|refine goB rfl fun K hK=>?_|refine goC rfl rfl fun K hK=>?_|refine goD rfl rfl fun K hK=>?_);simp (dsimp:=false) only [↓gq,↓stepP,↓stepG,go_sem,hh,hh2,hlt',hg,hx1,hx3,ht1,ht3,toDL_ds])|refine Pwp.seq ?_|refine Pwp.block ?_|(refine Pwp.exit ?_;simp only [thenS,blockS,if_true,if_false,reduceIte,Nat.reduceEqDiff,Nat.add_one_ne_zero,reduceCtorEq])|(refine Pwp.skip ?_;simp only [thenS,blockS])|(refine Pwp.cond rfl True.intro (fun h=>?_) (fun h=>?_)<;>(try (cases h;done))<;>(try simp only [h]))|refine Pwp.ret ?_|(refine hK _ ?_;clear hK K)|(refine hK _ _ rfl ?_;clear hK K)|(refine CallK.toD (ds:=[.agg x, .agg tv]) (by simp only [toDL, PVal.toD, toDL_ds, Option.map]) hcc rfl ?_)|refine CallG.off ?_|with_reducible refine Or.inl ?_|simp only [thenS,blockS]|with_reducible refine And.intro ?_ ?_|with_reducible exact True.intro|simp (dsimp:=false) only [↓gq,↓stepP,↓stepG,go_sem,hh,hh2,hlt',hg,hx1,hx3,ht1,ht3,toDL_ds])
    all_goals (try (first|(intro hg;simp_all;done)|(intro hg;simp [hg];done)|exact of_decide_eq_true rfl|(cases h;done)))
    · refine ⟨j - ((i + j) / 2 + 1), L113 xs tv g ((i + j) / 2 + 1) j, by omega, Sub.same (by simp [L113]) ?_ ?_, (i + j) / 2 + 1, j, by omega, hj, rfl, rfl, ?_⟩
      · simp [viewH, viewP, viewO, L113, V0, keptOf, find, viewL_ds]
      · rw [wrap_succ (by omega)]
        simp [viewT, viewP, L113, V0, keptOf, St.ev, find, PVal.toD, subD, subV, disj, PVal.ids]
      · rw [← hb, bsLoop_lt hlt (by simpa using h)]
    · refine ⟨(i + j) / 2 - i, L113 xs tv g i ((i + j) / 2), by omega, Sub.same (by simp [L113]) ?_ ?_, i, (i + j) / 2, by omega, by omega, rfl, rfl, ?_⟩
      · simp [viewH, viewP, viewO, L113, V0, keptOf, find, viewL_ds]
      · simp [viewT, viewP, L113, V0, keptOf, St.ev, find, PVal.toD, subD, subV, disj, PVal.ids]
      · rw [← hb, bsLoop_ge hlt (by simpa using h)]
  · obtain rfl : i = j := by omega
    have hlt' : decide ((i : Int) < (i : Int)) = false := by simp
    have hbi : bsLoop c 0 xs.length = i := by rw [← hb, bsLoop_end (Nat.lt_irrefl _)]
    unfold L113
    rcases Nat.lt_or_ge i xs.length with hlt | hge2
    · obtain ⟨x, hxe⟩ : ∃ x, xs[i]? = some x := ⟨_, List.getElem?_eq_getElem (by omega)⟩
      have hg : (xs.map D.agg)[i]? = some (.agg x) := by simp [hxe]
      have hx1 : (x.map PVal.d).length = 8 := by simp [hx x (List.mem_of_getElem? hxe)]
      have hx3 : (x.map PVal.d).take 8 = x.map PVal.d := List.take_of_length_le (by omega)
      have ht1 : (tv.map PVal.d).length = 2 := by simp [ht]
      have ht3 : (tv.map PVal.d).take 2 = tv.map PVal.d := List.take_of_length_le (by omega)
      have hcc := hc _ x hxe
      have hin : decide ((i : Int) < (xs.length : Int)) = true := by simp; omega
      repeat' (first|((first|refine goA rfl fun K hK=>?_|refine goB rfl fun K hK=>?_|refine goC rfl rfl fun K hK=>?_|refine goD rfl rfl fun K hK=>?_);simp (dsimp:=false) only [↓gq,↓stepP,↓stepG,go_sem,hg,hx1,hx3,ht1,ht3,toDL_ds,hin,hlt'])|refine Pwp.seq ?_|refine Pwp.block ?_|(refine Pwp.exit ?_;simp only [thenS,blockS,if_true,if_false,reduceIte,Nat.reduceEqDiff,Nat.add_one_ne_zero,reduceCtorEq])|(refine Pwp.skip ?_;simp only [thenS,blockS])|(refine Pwp.cond rfl True.intro (fun h=>?_) (fun h=>?_)<;>(try (cases h;done))<;>(try simp only [h]))|refine Pwp.ret ?_|(refine hK _ ?_;clear hK K)|(refine hK _ _ rfl ?_;clear hK K)|(refine CallG.toD (ds:=[.agg x, .agg tv]) (by simp only [toDL, PVal.toD, toDL_ds, Option.map]) hcc rfl ?_ ?_)|refine CallG.off ?_|with_reducible refine Or.inl ?_|simp only [thenS,blockS]|with_reducible refine And.intro ?_ ?_|with_reducible exact True.intro|simp (dsimp:=false) only [↓gq,↓stepP,↓stepG,go_sem,hg,hx1,hx3,ht1,ht3,toDL_ds,hin,hlt'])
      all_goals (try (first|(intro hg;simp_all;done)|(intro hg;simp [hg];done)|exact of_decide_eq_true rfl|(cases h;done)))
      all_goals (try (first | exact fun _ => trivial | trivial))
      have e : (D.tup [D.v (Value.int IntKind.i64 ↑(bsLoop c 0 xs.length)), D.v (Value.bool (decide (bsLoop c 0 xs.length < xs.length) && c (bsLoop c 0 xs.length) == 0))]) = D.tup [.v (.int .i64 i), .v (.bool (c i == 0))] := by rw [hbi]; simp [hlt]
      rw [e]
      exact Fin.data (.inr rfl) rfl ⟨True.intro, True.intro, True.intro⟩ rfl (subD_refl _)
    · have hin : decide ((i : Int) < (xs.length : Int)) = false := by simp; omega
      have hg' : (xs.map D.agg)[i]? = none := by simp; omega
      have ht1 : (tv.map PVal.d).length = 2 := by simp [ht]
      have ht3 : (tv.map PVal.d).take 2 = tv.map PVal.d := List.take_of_length_le (by omega)
      repeat' (first|((first|refine goA rfl fun K hK=>?_|refine goB rfl fun K hK=>?_|refine goC rfl rfl fun K hK=>?_|refine goD rfl rfl fun K hK=>?_);simp (dsimp:=false) only [↓gq,↓stepP,↓stepG,go_sem,hg',ht1,ht3,hin,hlt'])|refine Pwp.seq ?_|refine Pwp.block ?_|(refine Pwp.exit ?_;simp only [thenS,blockS,if_true,if_false,reduceIte,Nat.reduceEqDiff,Nat.add_one_ne_zero,reduceCtorEq])|(refine Pwp.skip ?_;simp only [thenS,blockS])|(refine Pwp.cond rfl True.intro (fun h=>?_) (fun h=>?_)<;>(try (cases h;done))<;>(try simp only [h]))|refine Pwp.ret ?_|(refine hK _ ?_;clear hK K)|(refine hK _ _ rfl ?_;clear hK K)|refine CallG.off ?_|with_reducible refine Or.inl ?_|simp only [thenS,blockS]|with_reducible refine And.intro ?_ ?_|with_reducible exact True.intro|simp (dsimp:=false) only [↓gq,↓stepP,↓stepG,go_sem,hg',ht1,ht3,hin,hlt'])
      all_goals (try (first|(intro hg;simp_all;done)|(intro hg;simp [hg];done)|exact of_decide_eq_true rfl|(cases h;done)))
      have e : (D.tup [D.v (Value.int IntKind.i64 ↑(bsLoop c 0 xs.length)), D.v (Value.bool (decide (bsLoop c 0 xs.length < xs.length) && c (bsLoop c 0 xs.length) == 0))]) = D.tup [.v (.int .i64 i), .v (.bool false)] := by rw [hbi]; simp [Nat.not_lt.2 hge2]
      rw [e]
      exact Fin.data (.inr rfl) rfl ⟨True.intro, True.intro, True.intro⟩ rfl (subD_refl _)
def L165 (xs : List (List D)) (tv : List D) (g : Nat) (i j : Nat) : St := ⟨[(10, pint .i64 j), (9, pint .i64 i), (8, pint .i64 xs.length), (4, .ref 8 0), (0, .d (.slc 3 (xs.map .agg))), (2, .d (.v (.func (.func g) #[] #[])))], [(8, .box (tv.map .d))], 40⟩
theorem run165 (xs : List (List D)) (tv : List D) (g : Nat) (c : Nat → Int) (hx : ∀ x ∈ xs, x.length = 3) (ht : tv.length = 2) (hl : xs.length < 4611686018427387904) (hc : ∀ i x, xs[i]? = some x → Runs Try.prog g [.d (.agg x), .d (.agg tv)] [] (pint .i64 (c i)) []) :
    Runs Try.prog 165 [.d (.slc 3 (xs.map .agg)), .d (.agg tv), .d (.v (.func (.func g) #[] #[]))] [] (.d (.tup [.v (.int .i64 (bsLoop c 0 xs.length)), .v (.bool (decide (bsLoop c 0 xs.length < xs.length) && (c (bsLoop c 0 xs.length) == 0)))])) [] := by
  refine Runs.of (kit Try.prog) Try.func165 rfl rfl (by rw [Try.ntmps165]; exact of_decide_eq_true rfl) ?_; rw [Try.ntmps165, Try.results165]
  repeat' (first|((first|refine goA rfl fun K hK=>?_|refine goB rfl fun K hK=>?_|refine goC rfl rfl fun K hK=>?_|refine goD rfl rfl fun K hK=>?_);simp (dsimp:=false) only [↓gq,↓stepP,↓stepG,go_sem])|refine Pwp.seq ?_|refine Pwp.block ?_|(refine Pwp.exit ?_;simp only [thenS,blockS,if_true,if_false,reduceIte,Nat.reduceEqDiff,Nat.add_one_ne_zero,reduceCtorEq])|(refine Pwp.skip ?_;simp only [thenS,blockS])|(refine Pwp.cond rfl True.intro (fun h=>?_) (fun h=>?_)<;>(try (cases h;done))<;>(try simp only [h]))|refine Pwp.ret ?_|(refine hK _ ?_;clear hK K)|(refine hK _ _ rfl ?_;clear hK K)|refine CallG.off ?_|with_reducible refine Or.inl ?_|simp only [thenS,blockS]|with_reducible refine And.intro ?_ ?_|with_reducible exact True.intro|simp (dsimp:=false) only [↓gq,↓stepP,↓stepG,go_sem])
  all_goals (try (first|(intro hg;simp_all;done)|(intro hg;simp [hg];done)|exact of_decide_eq_true rfl|(cases h;done)))
  refine Pwp.loop (fun k s => ∃ i j, i ≤ j ∧ j ≤ xs.length ∧ k = j - i ∧ s = L165 xs tv g i j ∧ bsLoop c i j = bsLoop c 0 xs.length) xs.length (s := L165 xs tv g 0 xs.length) (Sub.same (by simp [L165]) ?_ ?_) ⟨0, xs.length, by omega, by omega, by omega, rfl, rfl⟩ ?_
  · simp [viewH, viewP, viewO, L165, V0, keptOf, find, viewL_ds]
  · simp [viewT, viewP, L165, V0, keptOf, St.ev, find, PVal.toD, subD, subV, disj, PVal.ids]
  rintro k s ⟨i, j, hij, hj, rfl, rfl, hb⟩
  rcases Nat.lt_or_ge i j with hlt | hge
  · have hh := half (i := i) (j := j) (by omega)
    have hh2 : IntKind.i64.wrap (Int.fdiv (IntKind.u64.wrap (IntKind.i64.wrap ((i : Int) + j))) (2 ^ min 1 64)) = (((i + j) / 2 : Nat) : Int) := half (i := i) (j := j) (by omega)
    obtain ⟨x, hxe⟩ : ∃ x, xs[(i + j) / 2]? = some x := ⟨_, List.getElem?_eq_getElem (by omega)⟩
    have hg : (xs.map D.agg)[(i + j) / 2]? = some (.agg x) := by simp [hxe]
    have hx1 : (x.map PVal.d).length = 3 := by simp [hx x (List.mem_of_getElem? hxe)]
    have hx3 : (x.map PVal.d).take 3 = x.map PVal.d := List.take_of_length_le (by omega)
    have ht1 : (tv.map PVal.d).length = 2 := by simp [ht]
    have ht3 : (tv.map PVal.d).take 2 = tv.map PVal.d := List.take_of_length_le (by omega)
    have hcc := hc _ x hxe
    have hlt' : decide ((i : Int) < (j : Int)) = true := by simp; omega
    unfold L165
    repeat' (first|((first|refine goA rfl fun K hK=>?_|refine goB rfl fun K hK=>?_|refine goC rfl rfl fun K hK=>?_|refine goD rfl rfl fun K hK=>?_);simp (dsimp:=false) only [↓gq,↓stepP,↓stepG,go_sem,hh,hh2,hlt',hg,hx1,hx3,ht1,ht3,toDL_ds])|refine Pwp.seq ?_|refine Pwp.block ?_|(refine Pwp.exit ?_;simp only [thenS,blockS,if_true,if_false,reduceIte,Nat.reduceEqDiff,Nat.add_one_ne_zero,reduceCtorEq])|(refine Pwp.skip ?_;simp only [thenS,blockS])|(refine Pwp.cond rfl True.intro (fun h=>?_) (fun h=>?_)<;>(try (cases h;done))<;>(try simp only [h]))|refine Pwp.ret ?_|(refine hK _ ?_;clear hK K)|(refine hK _ _ rfl ?_;clear hK K)|(refine CallK.toD (ds:=[.agg x, .agg tv]) (by simp only [toDL, PVal.toD, toDL_ds, Option.map]) hcc rfl ?_)|refine CallG.off ?_|with_reducible refine Or.inl ?_|simp only [thenS,blockS]|with_reducible refine And.intro ?_ ?_|with_reducible exact True.intro|simp (dsimp:=false) only [↓gq,↓stepP,↓stepG,go_sem,hh,hh2,hlt',hg,hx1,hx3,ht1,ht3,toDL_ds])
    all_goals (try (first|(intro hg;simp_all;done)|(intro hg;simp [hg];done)|exact of_decide_eq_true rfl|(cases h;done)))
    · refine ⟨j - ((i + j) / 2 + 1), L165 xs tv g ((i + j) / 2 + 1) j, by omega, Sub.same (by simp [L165]) ?_ ?_, (i + j) / 2 + 1, j, by omega, hj, rfl, rfl, ?_⟩
      · simp [viewH, viewP, viewO, L165, V0, keptOf, find, viewL_ds]
      · rw [wrap_succ (by omega)]
        simp [viewT, viewP, L165, V0, keptOf, St.ev, find, PVal.toD, subD, subV, disj, PVal.ids]
      · rw [← hb, bsLoop_lt hlt (by simpa using h)]
    · refine ⟨(i + j) / 2 - i, L165 xs tv g i ((i + j) / 2), by omega, Sub.same (by simp [L165]) ?_ ?_, i, (i + j) / 2, by omega, by omega, rfl, rfl, ?_⟩
      · simp [viewH, viewP, viewO, L165, V0, keptOf, find, viewL_ds]
      · simp [viewT, viewP, L165, V0, keptOf, St.ev, find, PVal.toD, subD, subV, disj, PVal.ids]
      · rw [← hb, bsLoop_ge hlt (by simpa using h)]
  · obtain rfl : i = j := by omega
    have hlt' : decide ((i : Int) < (i : Int)) = false := by simp
    have hbi : bsLoop c 0 xs.length = i := by rw [← hb, bsLoop_end (Nat.lt_irrefl _)]
    unfold L165
    rcases Nat.lt_or_ge i xs.length with hlt | hge2
    · obtain ⟨x, hxe⟩ : ∃ x, xs[i]? = some x := ⟨_, List.getElem?_eq_getElem (by omega)⟩
      have hg : (xs.map D.agg)[i]? = some (.agg x) := by simp [hxe]
      have hx1 : (x.map PVal.d).length = 3 := by simp [hx x (List.mem_of_getElem? hxe)]
      have hx3 : (x.map PVal.d).take 3 = x.map PVal.d := List.take_of_length_le (by omega)
      have ht1 : (tv.map PVal.d).length = 2 := by simp [ht]
      have ht3 : (tv.map PVal.d).take 2 = tv.map PVal.d := List.take_of_length_le (by omega)
      have hcc := hc _ x hxe
      have hin : decide ((i : Int) < (xs.length : Int)) = true := by simp; omega
      repeat' (first|((first|refine goA rfl fun K hK=>?_|refine goB rfl fun K hK=>?_|refine goC rfl rfl fun K hK=>?_|refine goD rfl rfl fun K hK=>?_);simp (dsimp:=false) only [↓gq,↓stepP,↓stepG,go_sem,hg,hx1,hx3,ht1,ht3,toDL_ds,hin,hlt'])|refine Pwp.seq ?_|refine Pwp.block ?_|(refine Pwp.exit ?_;simp only [thenS,blockS,if_true,if_false,reduceIte,Nat.reduceEqDiff,Nat.add_one_ne_zero,reduceCtorEq])|(refine Pwp.skip ?_;simp only [thenS,blockS])|(refine Pwp.cond rfl True.intro (fun h=>?_) (fun h=>?_)<;>(try (cases h;done))<;>(try simp only [h]))|refine Pwp.ret ?_|(refine hK _ ?_;clear hK K)|(refine hK _ _ rfl ?_;clear hK K)|(refine CallG.toD (ds:=[.agg x, .agg tv]) (by simp only [toDL, PVal.toD, toDL_ds, Option.map]) hcc rfl ?_ ?_)|refine CallG.off ?_|with_reducible refine Or.inl ?_|simp only [thenS,blockS]|with_reducible refine And.intro ?_ ?_|with_reducible exact True.intro|simp (dsimp:=false) only [↓gq,↓stepP,↓stepG,go_sem,hg,hx1,hx3,ht1,ht3,toDL_ds,hin,hlt'])
      all_goals (try (first|(intro hg;simp_all;done)|(intro hg;simp [hg];done)|exact of_decide_eq_true rfl|(cases h;done)))
      all_goals (try (first | exact fun _ => trivial | trivial))
      have e : (D.tup [D.v (Value.int IntKind.i64 ↑(bsLoop c 0 xs.length)), D.v (Value.bool (decide (bsLoop c 0 xs.length < xs.length) && c (bsLoop c 0 xs.length) == 0))]) = D.tup [.v (.int .i64 i), .v (.bool (c i == 0))] := by rw [hbi]; simp [hlt]
      rw [e]
      exact Fin.data (.inr rfl) rfl ⟨True.intro, True.intro, True.intro⟩ rfl (subD_refl _)
    · have hin : decide ((i : Int) < (xs.length : Int)) = false := by simp; omega
      have hg' : (xs.map D.agg)[i]? = none := by simp; omega
      have ht1 : (tv.map PVal.d).length = 2 := by simp [ht]
      have ht3 : (tv.map PVal.d).take 2 = tv.map PVal.d := List.take_of_length_le (by omega)
      repeat' (first|((first|refine goA rfl fun K hK=>?_|refine goB rfl fun K hK=>?_|refine goC rfl rfl fun K hK=>?_|refine goD rfl rfl fun K hK=>?_);simp (dsimp:=false) only [↓gq,↓stepP,↓stepG,go_sem,hg',ht1,ht3,hin,hlt'])|refine Pwp.seq ?_|refine Pwp.block ?_|(refine Pwp.exit ?_;simp only [thenS,blockS,if_true,if_false,reduceIte,Nat.reduceEqDiff,Nat.add_one_ne_zero,reduceCtorEq])|(refine Pwp.skip ?_;simp only [thenS,blockS])|(refine Pwp.cond rfl True.intro (fun h=>?_) (fun h=>?_)<;>(try (cases h;done))<;>(try simp only [h]))|refine Pwp.ret ?_|(refine hK _ ?_;clear hK K)|(refine hK _ _ rfl ?_;clear hK K)|refine CallG.off ?_|with_reducible refine Or.inl ?_|simp only [thenS,blockS]|with_reducible refine And.intro ?_ ?_|with_reducible exact True.intro|simp (dsimp:=false) only [↓gq,↓stepP,↓stepG,go_sem,hg',ht1,ht3,hin,hlt'])
      all_goals (try (first|(intro hg;simp_all;done)|(intro hg;simp [hg];done)|exact of_decide_eq_true rfl|(cases h;done)))
      have e : (D.tup [D.v (Value.int IntKind.i64 ↑(bsLoop c 0 xs.length)), D.v (Value.bool (decide (bsLoop c 0 xs.length < xs.length) && c (bsLoop c 0 xs.length) == 0))]) = D.tup [.v (.int .i64 i), .v (.bool false)] := by rw [hbi]; simp [Nat.not_lt.2 hge2]
      rw [e]
      exact Fin.data (.inr rfl) rfl ⟨True.intro, True.intro, True.intro⟩ rfl (subD_refl _)
end Go.Proofs.Ytdodgbhodkcckaa.Pv
end
section
set_option linter.unusedVariables false
set_option linter.unusedSimpArgs false
set_option autoImplicit false
set_option maxRecDepth 100000
namespace Go.Proofs.Ytdodgbhodkcckaa.Pv
open Go Go.RowKit
theorem over170 : IsOver Try.prog 170 58 := ⟨Try.f170, 4, Try.func170, by kernel_rfl, by kernel_rfl, by kernel_rfl, by kernel_rfl⟩
theorem k58 : kindOf (tiOf Try.prog) 58 = some (.slice 70) := by rw [kindOf, T58]; rfl
set_option maxHeartbeats 8000000 in
theorem run116 (els : List D) (x : D) (i : Nat) (hi : i ≤ els.length) (ho : ∀ d ∈ els, d.cells.all D.one = true) (hx : x.cells.all D.one = true) (hm : (els.length + 1) * 64 ≤ 140737488355328) :
    Runs Try.prog 116 [.own 0 0 8 0 els.length, pint .i64 i, .own 1 0 8 0 1] [(0, .arr 70 8 0 none els), (1, .arr 70 8 0 (some 1) [x])] (.own 8 0 8 0 (els.take i ++ x :: els.drop i).length) [(8, .arr 70 8 0 none (els.take i ++ x :: els.drop i))] := by
  have hl63 : els.length + 1 ≤ maxLen := by simp [maxLen]; omega
  refine Runs.of (kit Try.prog) Try.func116 rfl rfl (by rw [Try.ntmps116]; exact of_decide_eq_true rfl) ?_; rw [Try.ntmps116, Try.results116]
  have w1 : IntKind.i64.wrap ((els.length : Int) + 1) = ((els.length + 1 : Nat) : Int) := wrap_succ (by simp [maxLen] at hl63; omega)
  have w2 : IntKind.i64.wrap (((els.length + 1 : Nat) : Int) - (i : Int)) = ((els.length + 1 - i : Nat) : Int) := by rw [wrap_of (by simp [maxLen] at hl63; omega) (by simp [maxLen] at hl63; omega)]; omega
  have w3 : IntKind.i64.wrap ((i : Int) + 1) = ((i + 1 : Nat) : Int) := wrap_succ (by simp [maxLen] at hl63; omega)
  have w4 : i + (els.length + 1 - i) = els.length + 1 := by omega
  rcases Nat.lt_or_ge i els.length with hlt | hge
  · have w5 : min 1 (els.length + 1 - i) = 1 := by omega
    have w6 : min (els.length - i) (els.length + 1 - (i + 1)) = els.length - i := by omega
    have w7 : min (els.length + 1 - i) (els.length + 1 - (i + 1)) = els.length - i := by omega
    have w8 : (els.drop i).take (els.length - i) = els.drop i := take_drop_all _ _ _ (Nat.le_refl _)
    have w9 : (els.drop i).take (els.length + 1 - i) = els.drop i := take_drop_all _ _ _ (by omega)
    have hin : ((i : Int) == (els.length : Int)) = false := by simp; omega
    refine Pwp.room (id := 0) rfl fun r hr hr2 => ?_
    simp only [St.start, upd, if_true, List.length, List.range, List.range.loop, List.zip, List.zipWith, reduceIte]
    rcases Nat.lt_or_ge r (els.length + 1) with hroom | hroom
    · have hcap : decide ((r : Int) < ((els.length + 1 : Nat) : Int)) = true := by simp; omega
      repeat' (first|((first|refine goA rfl fun K hK=>?_|refine goB rfl fun K hK=>?_|refine goC rfl rfl fun K hK=>?_|refine goD rfl rfl fun K hK=>?_);simp (dsimp:=false) only [↓gq,↓stepP,↓stepG,go_sem,w1,w2,w3,w4,w5,w6,w7,w8,w9,hin,hcap])|refine Pwp.seq ?_|refine Pwp.block ?_|(refine Pwp.exit ?_;simp only [thenS,blockS,if_true,if_false,reduceIte,Nat.reduceEqDiff,Nat.add_one_ne_zero,reduceCtorEq])|(refine Pwp.skip ?_;simp only [thenS,blockS])|(refine Pwp.cond rfl True.intro (fun h=>?_) (fun h=>?_)<;>(try (cases h;done))<;>(try simp only [h]))|refine Pwp.ret ?_|(refine hK _ ?_;clear hK K)|(refine hK _ _ rfl ?_;clear hK K)|refine CallG.off ?_|with_reducible refine Or.inl ?_|simp only [thenS,blockS]|with_reducible refine And.intro ?_ ?_|with_reducible exact True.intro|simp (dsimp:=false) only [↓gq,↓stepP,↓stepG,go_sem,w1,w2,w3,w4,w5,w6,w7,w8,w9,hin,hcap])
      all_goals (try (first|(intro hg;simp_all;done)|(intro hg;simp [hg];done)|exact of_decide_eq_true rfl|(cases h;done)))
      all_goals (try (first | omega | (simp [maxLen] at hl63 ⊢; omega) | (simp; omega) | (simp; done) | exact fun d hd => ho d (List.mem_of_mem_drop hd)))
      rw [← put_grown (x := x) (z := D.agg [D.v (Value.int IntKind.i64 0), D.v (Value.int IntKind.i64 0), D.v (Value.int IntKind.i64 0), D.v (Value.int IntKind.i64 0), D.v (Value.int IntKind.i64 0), D.v (Value.int IntKind.i64 0), D.v (Value.int IntKind.i64 0), D.v (Value.int IntKind.i64 0)]) hlt]
      refine Fin.row (.inr rfl) rfl ⟨True.intro, True.intro⟩ rfl ?_
      rw [put_grown hlt]; simp; omega
    · have hcap : decide ((r : Int) < ((els.length + 1 : Nat) : Int)) = false := by simp; omega
      repeat' (first|((first|refine goA rfl fun K hK=>?_|refine goB rfl fun K hK=>?_|refine goC rfl rfl fun K hK=>?_|refine goD rfl rfl fun K hK=>?_);simp (dsimp:=false) only [↓gq,↓stepP,↓stepG,go_sem,w1,w2,w3,w4,w5,w6,w7,w8,w9,hin,hcap])|refine Pwp.seq ?_|refine Pwp.block ?_|(refine Pwp.exit ?_;simp only [thenS,blockS,if_true,if_false,reduceIte,Nat.reduceEqDiff,Nat.add_one_ne_zero,reduceCtorEq])|(refine Pwp.skip ?_;simp only [thenS,blockS])|(refine Pwp.cond rfl True.intro (fun h=>?_) (fun h=>?_)<;>(try (cases h;done))<;>(try simp only [h]))|refine Pwp.ret ?_|(refine hK _ ?_;clear hK K)|(refine hK _ _ rfl ?_;clear hK K)|(refine Or.inr (OverK.two over170 k58 T70 rfl (of_decide_eq_true rfl) (of_decide_eq_true rfl) rfl rfl ?_ ?_))|refine CallG.off ?_|with_reducible refine Or.inl ?_|simp only [thenS,blockS]|with_reducible refine And.intro ?_ ?_|with_reducible exact True.intro|simp (dsimp:=false) only [↓gq,↓stepP,↓stepG,go_sem,w1,w2,w3,w4,w5,w6,w7,w8,w9,hin,hcap])
      all_goals (try (first|(intro hg;simp_all;done)|(intro hg;simp [hg];done)|exact of_decide_eq_true rfl|(cases h;done)))
      all_goals (try (first | omega | (simp [maxLen] at hl63 ⊢; omega) | (simp; omega) | (simp; done) | exact fun d hd => ho d (List.mem_of_mem_drop hd)))
      rw [← put_moved (x := x) hlt]
      refine Fin.row (.inr rfl) rfl ⟨True.intro, True.intro⟩ rfl ?_
      rw [put_moved hlt]; simp; omega
  · obtain rfl : i = els.length := by omega
    repeat' (first|((first|refine goA rfl fun K hK=>?_|refine goB rfl fun K hK=>?_|refine goC rfl rfl fun K hK=>?_|refine goD rfl rfl fun K hK=>?_);simp (dsimp:=false) only [↓gq,↓stepP,↓stepG,go_sem,beq_self_eq_true,w1])|refine Pwp.seq ?_|refine Pwp.block ?_|(refine Pwp.exit ?_;simp only [thenS,blockS,if_true,if_false,reduceIte,Nat.reduceEqDiff,Nat.add_one_ne_zero,reduceCtorEq])|(refine Pwp.skip ?_;simp only [thenS,blockS])|(refine Pwp.cond rfl True.intro (fun h=>?_) (fun h=>?_)<;>(try (cases h;done))<;>(try simp only [h]))|refine Pwp.ret ?_|(refine hK _ ?_;clear hK K)|(refine hK _ _ rfl ?_;clear hK K)|refine CallG.off ?_|with_reducible refine Or.inl ?_|simp only [thenS,blockS]|with_reducible refine And.intro ?_ ?_|with_reducible exact True.intro|simp (dsimp:=false) only [↓gq,↓stepP,↓stepG,go_sem,beq_self_eq_true,w1])
    all_goals (try (first|(intro hg;simp_all;done)|(intro hg;simp [hg];done)|exact of_decide_eq_true rfl|(cases h;done)))
    all_goals (try (first | omega | (simp [maxLen] at hl63 ⊢; omega) | (simp; omega) | (simp; done) | exact fun d hd => ho d (List.mem_of_mem_drop hd)))
    have e : els.take els.length ++ x :: els.drop els.length = els.take els.length ++ [x] := by simp
    rw [e]
    exact Fin.row (.inr rfl) rfl ⟨True.intro, True.intro⟩ rfl (by simp)
theorem over213 : IsOver Try.prog 213 59 := ⟨Try.f213, 4, Try.func213, by kernel_rfl, by kernel_rfl, by kernel_rfl, by kernel_rfl⟩
theorem k59 : kindOf (tiOf Try.prog) 59 = some (.slice 277) := by rw [kindOf, T59]; rfl
set_option maxHeartbeats 8000000 in
theorem run168 (els : List D) (x : D) (i : Nat) (hi : i ≤ els.length) (ho : ∀ d ∈ els, d.cells.all D.one = true) (hx : x.cells.all D.one = true) (hm : (els.length + 1) * 24 ≤ 140737488355328) :
    Runs Try.prog 168 [.own 0 0 3 0 els.length, pint .i64 i, .own 1 0 3 0 1] [(0, .arr 277 3 0 none els), (1, .arr 277 3 0 (some 1) [x])] (.own 8 0 3 0 (els.take i ++ x :: els.drop i).length) [(8, .arr 277 3 0 none (els.take i ++ x :: els.drop i))] := by
  have hl63 : els.length + 1 ≤ maxLen := by simp [maxLen]; omega
  refine Runs.of (kit Try.prog) Try.func168 rfl rfl (by rw [Try.ntmps168]; exact of_decide_eq_true rfl) ?_; rw [Try.ntmps168, Try.results168]
  have w1 : IntKind.i64.wrap ((els.length : Int) + 1) = ((els.length + 1 : Nat) : Int) := wrap_succ (by simp [maxLen] at hl63; omega)
  have w2 : IntKind.i64.wrap (((els.length + 1 : Nat) : Int) - (i : Int)) = ((els.length + 1 - i : Nat) : Int) := by rw [wrap_of (by simp [maxLen] at hl63; omega) (by simp [maxLen] at hl63; omega)]; omega
  have w3 : IntKind.i64.wrap ((i : Int) + 1) = ((i + 1 : Nat) : Int) := wrap_succ (by simp [maxLen] at hl63; omega)
  have w4 : i + (els.length + 1 - i) = els.length + 1 := by omega
  rcases Nat.lt_or_ge i els.length with hlt | hge
  · have w5 : min 1 (els.length + 1 - i) = 1 := by omega
    have w6 : min (els.length - i) (els.length + 1 - (i + 1)) = els.length - i := by omega
    have w7 : min (els.length + 1 - i) (els.length + 1 - (i + 1)) = els.length - i := by omega
    have w8 : (els.drop i).take (els.length - i) = els.drop i := take_drop_all _ _ _ (Nat.le_refl _)
    have w9 : (els.drop i).take (els.length + 1 - i) = els.drop i := take_drop_all _ _ _ (by omega)
    have hin : ((i : Int) == (els.length : Int)) = false := by simp; omega
    refine Pwp.room (id := 0) rfl fun r hr hr2 => ?_
    simp only [St.start, upd, if_true, List.length, List.range, List.range.loop, List.zip, List.zipWith, reduceIte]
    rcases Nat.lt_or_ge r (els.length + 1) with hroom | hroom
    · have hcap : decide ((r : Int) < ((els.length + 1 : Nat) : Int)) = true := by simp; omega
      repeat' (first|((first|refine goA rfl fun K hK=>?_|refine goB rfl fun K hK=>?_|refine goC rfl rfl fun K hK=>?_|refine goD rfl rfl fun K hK=>?_);simp (dsimp:=false) only [↓gq,↓stepP,↓stepG,go_sem,w1,w2,w3,w4,w5,w6,w7,w8,w9,hin,hcap])|refine Pwp.seq ?_|refine Pwp.block ?_|(refine Pwp.exit ?_;simp only [thenS,blockS,if_true,if_false,reduceIte,Nat.reduceEqDiff,Nat.add_one_ne_zero,reduceCtorEq])|(refine Pwp.skip ?_;simp only [thenS,blockS])|(refine Pwp.cond rfl True.intro (fun h=>?_) (fun h=>?_)<;>(try (cases h;done))<;>(try simp only [h]))|refine Pwp.ret ?_|(refine hK _ ?_;clear hK K)|(refine hK _ _ rfl ?_;clear hK K)|refine CallG.off ?_|with_reducible refine Or.inl ?_|simp only [thenS,blockS]|with_reducible refine And.intro ?_ ?_|with_reducible exact True.intro|simp (dsimp:=false) only [↓gq,↓stepP,↓stepG,go_sem,w1,w2,w3,w4,w5,w6,w7,w8,w9,hin,hcap])
      all_goals (try (first|(intro hg;simp_all;done)|(intro hg;simp [hg];done)|exact of_decide_eq_true rfl|(cases h;done)))
      all_goals (try (first | omega | (simp [maxLen] at hl63 ⊢; omega) | (simp; omega) | (simp; done) | exact fun d hd => ho d (List.mem_of_mem_drop hd)))
      rw [← put_grown (x := x) (z := D.agg [D.v (Value.int IntKind.i64 0), D.v (Value.int IntKind.i64 0), D.v (Value.int IntKind.i64 0)]) hlt]
      refine Fin.row (.inr rfl) rfl ⟨True.intro, True.intro⟩ rfl ?_
      rw [put_grown hlt]; simp; omega
    · have hcap : decide ((r : Int) < ((els.length + 1 : Nat) : Int)) = false := by simp; omega
      repeat' (first|((first|refine goA rfl fun K hK=>?_|refine goB rfl fun K hK=>?_|refine goC rfl rfl fun K hK=>?_|refine goD rfl rfl fun K hK=>?_);simp (dsimp:=false) only [↓gq,↓stepP,↓stepG,go_sem,w1,w2,w3,w4,w5,w6,w7,w8,w9,hin,hcap])|refine Pwp.seq ?_|refine Pwp.block ?_|(refine Pwp.exit ?_;simp only [thenS,blockS,if_true,if_false,reduceIte,Nat.reduceEqDiff,Nat.add_one_ne_zero,reduceCtorEq])|(refine Pwp.skip ?_;simp only [thenS,blockS])|(refine Pwp.cond rfl True.intro (fun h=>?_) (fun h=>?_)<;>(try (cases h;done))<;>(try simp only [h]))|refine Pwp.ret ?_|(refine hK _ ?_;clear hK K)|(refine hK _ _ rfl ?_;clear hK K)|(refine Or.inr (OverK.two over213 k59 T277 rfl (of_decide_eq_true rfl) (of_decide_eq_true rfl) rfl rfl ?_ ?_))|refine CallG.off ?_|with_reducible refine Or.inl ?_|simp only [thenS,blockS]|with_reducible refine And.intro ?_ ?_|with_reducible exact True.intro|simp (dsimp:=false) only [↓gq,↓stepP,↓stepG,go_sem,w1,w2,w3,w4,w5,w6,w7,w8,w9,hin,hcap])
      all_goals (try (first|(intro hg;simp_all;done)|(intro hg;simp [hg];done)|exact of_decide_eq_true rfl|(cases h;done)))
      all_goals (try (first | omega | (simp [maxLen] at hl63 ⊢; omega) | (simp; omega) | (simp; done) | exact fun d hd => ho d (List.mem_of_mem_drop hd)))
      rw [← put_moved (x := x) hlt]
      refine Fin.row (.inr rfl) rfl ⟨True.intro, True.intro⟩ rfl ?_
      rw [put_moved hlt]; simp; omega
  · obtain rfl : i = els.length := by omega
    repeat' (first|((first|refine goA rfl fun K hK=>?_|refine goB rfl fun K hK=>?_|refine goC rfl rfl fun K hK=>?_|refine goD rfl rfl fun K hK=>?_);simp (dsimp:=false) only [↓gq,↓stepP,↓stepG,go_sem,beq_self_eq_true,w1])|refine Pwp.seq ?_|refine Pwp.block ?_|(refine Pwp.exit ?_;simp only [thenS,blockS,if_true,if_false,reduceIte,Nat.reduceEqDiff,Nat.add_one_ne_zero,reduceCtorEq])|(refine Pwp.skip ?_;simp only [thenS,blockS])|(refine Pwp.cond rfl True.intro (fun h=>?_) (fun h=>?_)<;>(try (cases h;done))<;>(try simp only [h]))|refine Pwp.ret ?_|(refine hK _ ?_;clear hK K)|(refine hK _ _ rfl ?_;clear hK K)|refine CallG.off ?_|with_reducible refine Or.inl ?_|simp only [thenS,blockS]|with_reducible refine And.intro ?_ ?_|with_reducible exact True.intro|simp (dsimp:=false) only [↓gq,↓stepP,↓stepG,go_sem,beq_self_eq_true,w1])
    all_goals (try (first|(intro hg;simp_all;done)|(intro hg;simp [hg];done)|exact of_decide_eq_true rfl|(cases h;done)))
    all_goals (try (first | omega | (simp [maxLen] at hl63 ⊢; omega) | (simp; omega) | (simp; done) | exact fun d hd => ho d (List.mem_of_mem_drop hd)))
    have e : els.take els.length ++ x :: els.drop els.length = els.take els.length ++ [x] := by simp
    rw [e]
    exact Fin.row (.inr rfl) rfl ⟨True.intro, True.intro⟩ rfl (by simp)
end Go.Proofs.Ytdodgbhodkcckaa.Pv
end
section
set_option linter.unusedVariables false
set_option linter.unusedSimpArgs false
set_option autoImplicit false
set_option maxRecDepth 100000
namespace Go.Proofs.Ytdodgbhodkcckaa.Pv
open Go Go.RowKit
structure Item where
  seller : Int
  number : Int
  buyer : Int
  currency : Int
  amount : Int
  round : Int
  state : Int
  cycle : Int
deriving DecidableEq
def Item.cells (x : Item) : List D := [I64 x.seller, I64 x.number, I64 x.buyer, I64 x.currency, I64 x.amount, I64 x.round, I64 x.state, I64 x.cycle]
def Item.d (x : Item) : D := .agg x.cells
def chk (x : Item) : Int :=
  if (decide (x.seller < 0) || decide (8 ≤ x.seller)) = true then 1 else if (decide (x.buyer < 0) || decide (8 ≤ x.buyer)) = true then 1 else if (x.buyer == x.seller) = true then 1
  else if (decide (x.number < 1) || decide (1048576 < x.number)) = true then 1 else if (decide (x.currency < 0) || decide (8 ≤ x.currency)) = true then 1
  else if (decide (x.amount < 1) || decide (1125899906842624 < x.amount)) = true then 1 else if (decide (x.round < 0) || decide (3 < x.round)) = true then 1
  else if (decide (x.state < 1) || decide (5 < x.state)) = true then 1 else if (decide (x.cycle < 0) || decide (1048576 < x.cycle)) = true then 1
  else if (!(x.cycle == 0) && !(x.state == 3) && !(x.state == 5)) = true then 90 else if (x.cycle == 0 && x.state == 5) = true then 90 else 0
set_option maxHeartbeats 8000000 in
theorem run112 (x : Item) : Runs Try.prog 112 [.d x.d] [] (pint .i64 (chk x)) [] := by
  unfold Item.d Item.cells I64
  refine Runs.of (kit Try.prog) Try.func112 rfl rfl (by rw [Try.ntmps112]; exact of_decide_eq_true rfl) ?_; rw [Try.ntmps112, Try.results112]
  repeat' (first|((first|refine goA rfl fun K hK=>?_|refine goB rfl fun K hK=>?_|refine goC rfl rfl fun K hK=>?_|refine goD rfl rfl fun K hK=>?_);simp (dsimp:=false) only [↓gq,↓stepP,↓stepG,go_sem])|refine Pwp.seq ?_|refine Pwp.block ?_|(refine Pwp.exit ?_;simp only [thenS,blockS,if_true,if_false,reduceIte,Nat.reduceEqDiff,Nat.add_one_ne_zero,reduceCtorEq])|(refine Pwp.skip ?_;simp only [thenS,blockS])|(refine Pwp.cond rfl True.intro (fun h=>?_) (fun h=>?_)<;>(try (cases h;done))<;>(try simp only [h]))|refine Pwp.ret ?_|(refine hK _ ?_;clear hK K)|(refine hK _ _ rfl ?_;clear hK K)|refine CallG.off ?_|with_reducible refine Or.inl ?_|simp only [thenS,blockS]|with_reducible refine And.intro ?_ ?_|with_reducible exact True.intro|simp (dsimp:=false) only [↓gq,↓stepP,↓stepG,go_sem])
  all_goals (try (first|(intro hg;simp_all;done)|(intro hg;simp [hg];done)|exact of_decide_eq_true rfl|(cases h;done)))
  all_goals (refine Fin.data (.inr rfl) rfl ⟨True.intro, True.intro⟩ rfl ?_; simp only [pint, chk, *, if_true, if_false, reduceIte, Bool.false_eq_true]; first | exact subD_refl _ | (simp_all [subD, subV]; done))
theorem run114 (x : Item) (s n : Int) : Runs Try.prog 114 [.d x.d, .d (.agg [I64 s, I64 n])] [] (pint .i64 (if cmpI x.seller s = 0 then cmpI x.number n else cmpI x.seller s)) [] := by
  unfold Item.d Item.cells I64
  refine Runs.of (kit Try.prog) Try.func114 rfl rfl (by rw [Try.ntmps114]; exact of_decide_eq_true rfl) ?_; rw [Try.ntmps114, Try.results114]
  repeat' (first|((first|refine goA rfl fun K hK=>?_|refine goB rfl fun K hK=>?_|refine goC rfl rfl fun K hK=>?_|refine goD rfl rfl fun K hK=>?_);simp (dsimp:=false) only [↓gq,↓stepP,↓stepG,go_sem])|refine Pwp.seq ?_|refine Pwp.block ?_|(refine Pwp.exit ?_;simp only [thenS,blockS,if_true,if_false,reduceIte,Nat.reduceEqDiff,Nat.add_one_ne_zero,reduceCtorEq])|(refine Pwp.skip ?_;simp only [thenS,blockS])|(refine Pwp.cond rfl True.intro (fun h=>?_) (fun h=>?_)<;>(try (cases h;done))<;>(try simp only [h]))|refine Pwp.ret ?_|(refine hK _ ?_;clear hK K)|(refine hK _ _ rfl ?_;clear hK K)|(refine CallK.same (run44 _ _ _ _) rfl ?_)|(refine CallG.same (fun _ => run44 _ _ _ _) rfl ?_ ?_)|(refine CallK.toD rfl (run44 _ _ _ _) rfl ?_)|(refine CallG.toD rfl (run44 _ _ _ _) rfl ?_ ?_)|refine CallG.off ?_|with_reducible refine Or.inl ?_|simp only [thenS,blockS]|with_reducible refine And.intro ?_ ?_|with_reducible exact True.intro|simp (dsimp:=false) only [↓gq,↓stepP,↓stepG,go_sem])
  all_goals (try (first|(intro hg;simp_all;done)|(intro hg;simp [hg];done)|exact of_decide_eq_true rfl|(cases h;done)))
  exact Fin.data (.inr rfl) rfl ⟨True.intro, True.intro⟩ rfl (subD_refl _)
theorem run166 (a b c s n : Int) : Runs Try.prog 166 [.d (.agg [I64 a, I64 b, I64 c]), .d (.agg [I64 s, I64 n])] [] (pint .i64 (if cmpI a s = 0 then cmpI b n else cmpI a s)) [] := by
  unfold I64
  refine Runs.of (kit Try.prog) Try.func166 rfl rfl (by rw [Try.ntmps166]; exact of_decide_eq_true rfl) ?_; rw [Try.ntmps166, Try.results166]
  repeat' (first|((first|refine goA rfl fun K hK=>?_|refine goB rfl fun K hK=>?_|refine goC rfl rfl fun K hK=>?_|refine goD rfl rfl fun K hK=>?_);simp (dsimp:=false) only [↓gq,↓stepP,↓stepG,go_sem])|refine Pwp.seq ?_|refine Pwp.block ?_|(refine Pwp.exit ?_;simp only [thenS,blockS,if_true,if_false,reduceIte,Nat.reduceEqDiff,Nat.add_one_ne_zero,reduceCtorEq])|(refine Pwp.skip ?_;simp only [thenS,blockS])|(refine Pwp.cond rfl True.intro (fun h=>?_) (fun h=>?_)<;>(try (cases h;done))<;>(try simp only [h]))|refine Pwp.ret ?_|(refine hK _ ?_;clear hK K)|(refine hK _ _ rfl ?_;clear hK K)|(refine CallK.same (run44 _ _ _ _) rfl ?_)|(refine CallG.same (fun _ => run44 _ _ _ _) rfl ?_ ?_)|(refine CallK.toD rfl (run44 _ _ _ _) rfl ?_)|(refine CallG.toD rfl (run44 _ _ _ _) rfl ?_ ?_)|refine CallG.off ?_|with_reducible refine Or.inl ?_|simp only [thenS,blockS]|with_reducible refine And.intro ?_ ?_|with_reducible exact True.intro|simp (dsimp:=false) only [↓gq,↓stepP,↓stepG,go_sem])
  all_goals (try (first|(intro hg;simp_all;done)|(intro hg;simp [hg];done)|exact of_decide_eq_true rfl|(cases h;done)))
  exact Fin.data (.inr rfl) rfl ⟨True.intro, True.intro⟩ rfl (subD_refl _)
theorem run49 (me : Int) : Runs Try.prog 49 [pint .i64 me] [] (.d (.tup (if (decide (me < 0) || decide (8 ≤ me)) = true then [.agg [I64 0, .slc 8 [], .slc 3 []], I64 1] else [.agg [I64 me, .slc 8 [], .slc 3 []], I64 0]))) [] := by
  unfold I64
  refine Runs.of (kit Try.prog) Try.func49 rfl rfl (by rw [Try.ntmps49]; exact of_decide_eq_true rfl) ?_; rw [Try.ntmps49, Try.results49]
  repeat' (first|((first|refine goA rfl fun K hK=>?_|refine goB rfl fun K hK=>?_|refine goC rfl rfl fun K hK=>?_|refine goD rfl rfl fun K hK=>?_);simp (dsimp:=false) only [↓gq,↓stepP,↓stepG,go_sem])|refine Pwp.seq ?_|refine Pwp.block ?_|(refine Pwp.exit ?_;simp only [thenS,blockS,if_true,if_false,reduceIte,Nat.reduceEqDiff,Nat.add_one_ne_zero,reduceCtorEq])|(refine Pwp.skip ?_;simp only [thenS,blockS])|(refine Pwp.cond rfl True.intro (fun h=>?_) (fun h=>?_)<;>(try (cases h;done))<;>(try simp only [h]))|refine Pwp.ret ?_|(refine hK _ ?_;clear hK K)|(refine hK _ _ rfl ?_;clear hK K)|refine CallG.off ?_|with_reducible refine Or.inl ?_|simp only [thenS,blockS]|with_reducible refine And.intro ?_ ?_|with_reducible exact True.intro|simp (dsimp:=false) only [↓gq,↓stepP,↓stepG,go_sem])
  all_goals (try (first|(intro hg;simp_all;done)|(intro hg;simp [hg];done)|exact of_decide_eq_true rfl|(cases h;done)))
  all_goals ((refine Fin.data (.inr rfl) (by simp (dsimp:=false) only [↓gq,↓stepP,↓stepG,go_sem,resL]; rfl) (by simp only [and_self]) (by simp (dsimp:=false) only [↓gq,↓stepP,↓stepG,go_sem,resP,Nat.le_refl,List.take_length]; try rfl) ?_))
  all_goals (simp [subD, subL, subV]; done)
end Go.Proofs.Ytdodgbhodkcckaa.Pv
end
section
set_option linter.unusedVariables false
set_option linter.unusedSimpArgs false
set_option autoImplicit false
set_option maxRecDepth 100000
namespace Go.Proofs.Ytdodgbhodkcckaa.Pv
open Go Go.RowKit
def cmpAt (l : List Item) (s n : Int) (i : Nat) : Int := match l[i]? with
  | some x => cmpN x.seller x.number s n
  | none => 0
def itemsD (l : List Item) : List D := (l.map Item.cells).map .agg
def bookD (me : Int) (l : List Item) (os : List D) : D := .agg [I64 me, .slc 8 (itemsD l), .slc 3 os]
def posOf (l : List Item) (s n : Int) : Nat := bsLoop (cmpAt l s n) 0 l.length
def isIn (l : List Item) (s n : Int) : Bool := decide (posOf l s n < l.length) && (cmpAt l s n (posOf l s n) == 0)
theorem runFind (l : List Item) (s n : Int) (hl : l.length ≤ 2000000) : Runs Try.prog 113 [.d (.slc 8 (itemsD l)), .d (.agg [I64 s, I64 n]), .d (.v (.func (.func 114) #[] #[]))] [] (.d (.tup [I64 (posOf l s n), .v (.bool (isIn l s n))])) [] := by
  have h := run113 (l.map Item.cells) [I64 s, I64 n] 114 (cmpAt l s n) (by intro x hx; obtain ⟨y, _, rfl⟩ := List.mem_map.1 hx; rfl) rfl (by simp; omega) (by
    intro i x hx
    obtain ⟨y, hy, rfl⟩ : ∃ y, l[i]? = some y ∧ Item.cells y = x := by simpa using hx
    have : cmpAt l s n i = cmpN y.seller y.number s n := by simp only [cmpAt, hy]
    rw [this]; exact run114 y s n)
  simp only [List.length_map] at h
  exact h
def putIn (l : List Item) (x : Item) : List Item := if isIn l x.seller x.number = true then l.set (posOf l x.seller x.number) x else l.take (posOf l x.seller x.number) ++ x :: l.drop (posOf l x.seller x.number)
def putE (me : Int) (l : List Item) (x : Item) : Int := if (chk x != 0) = true then chk x else if (x.seller != me && x.buyer != me) = true then 140 else if (!isIn l x.seller x.number && decide (1024 ≤ (l.length : Int))) = true then 3 else 0
theorem items_one (l : List Item) : ∀ d ∈ itemsD l, d.cells.all D.one = true := by
  intro d hd
  simp only [itemsD, List.mem_map] at hd
  obtain ⟨_, ⟨x, _, rfl⟩, rfl⟩ := hd
  rfl
theorem items_len (l : List Item) : (itemsD l).length = l.length := by simp [itemsD]
theorem items_ins (l : List Item) (x : Item) (p : Nat) : itemsD (l.take p ++ x :: l.drop p) = (itemsD l).take p ++ x.d :: (itemsD l).drop p := by simp [itemsD, Item.d, List.map_take, List.map_drop]
theorem items_set (l : List Item) (x : Item) (p : Nat) : itemsD (l.set p x) = (itemsD l).set p x.d := by simp [itemsD, Item.d, List.map_set]
theorem pos_le (l : List Item) (s n : Int) : posOf l s n ≤ l.length := bsLoop_le _ _ 0 l.length rfl (Nat.zero_le _)
set_option maxHeartbeats 8000000 in
theorem run50 (me : Int) (l : List Item) (os : List D) (x : Item) (hl : l.length ≤ 1000000) : Runs Try.prog 50 [.d (bookD me l os), .d x.d] [] (.d (.tup [if putE me l x = 0 then bookD me (putIn l x) os else bookD me l os, I64 (putE me l x)])) [] := by
  have hlen := items_len l
  have hone := items_one l
  have hp := pos_le l x.seller x.number
  cases hin : isIn l x.seller x.number with
  | false =>
    unfold bookD Item.d Item.cells I64
    refine Runs.of (kit Try.prog) Try.func50 rfl rfl (by rw [Try.ntmps50]; exact of_decide_eq_true rfl) ?_; rw [Try.ntmps50, Try.results50]
    repeat' (first|((first|refine goA rfl fun K hK=>?_|refine goB rfl fun K hK=>?_|refine goC rfl rfl fun K hK=>?_|refine goD rfl rfl fun K hK=>?_);simp (dsimp:=false) only [↓gq,↓stepP,↓stepG,go_sem,Item.d,Item.cells,hin])|refine Pwp.seq ?_|refine Pwp.block ?_|(refine Pwp.exit ?_;simp only [thenS,blockS,if_true,if_false,reduceIte,Nat.reduceEqDiff,Nat.add_one_ne_zero,reduceCtorEq])|(refine Pwp.skip ?_;simp only [thenS,blockS])|(refine Pwp.cond rfl True.intro (fun h=>?_) (fun h=>?_)<;>(try (cases h;done))<;>(try simp only [h]))|refine Pwp.ret ?_|(refine hK _ ?_;clear hK K)|(refine hK _ _ rfl ?_;clear hK K)|(refine CallK.same (run112 x) rfl ?_)|(refine CallG.same (fun _ => run112 x) rfl ?_ ?_)|(refine CallK.toD rfl (run112 x) rfl ?_)|(refine CallG.toD rfl (run112 x) rfl ?_ ?_)|(refine CallK.toD (ds:=[x.d]) rfl (run112 x) rfl ?_)|(refine CallK.toD (ds:=[.slc 8 (itemsD l), .agg [I64 x.seller, I64 x.number], .v (.func (.func 114) #[] #[])]) rfl (runFind l x.seller x.number (by omega)) rfl ?_)|(refine CallK.give (ds:=[.slc 8 (itemsD l)]) rfl (run115 (itemsD l) hone (by omega)) (by simp) ?_)|(refine CallK.rows2 (run116 (itemsD l) x.d (posOf l x.seller x.number) (by omega) hone rfl (by omega)) rfl rfl (of_decide_eq_true rfl) (by simp) ?_)|refine CallG.off ?_|with_reducible refine Or.inl ?_|simp only [thenS,blockS]|with_reducible refine And.intro ?_ ?_|with_reducible exact True.intro|simp (dsimp:=false) only [↓gq,↓stepP,↓stepG,go_sem,Item.d,Item.cells,hin])
    all_goals (try (first|(intro hg;simp_all;done)|(intro hg;simp [hg];done)|exact of_decide_eq_true rfl|(cases h;done)))
    all_goals ((refine Fin.data (.inr rfl) (by simp (dsimp:=false) only [↓gq,↓stepP,↓stepG,go_sem,resL]; rfl) (by simp only [and_self]) (by simp (dsimp:=false) only [↓gq,↓stepP,↓stepG,go_sem,resP,Nat.le_refl,List.take_length]; try rfl) ?_))
    all_goals (try simp only [hlen] at *)
    all_goals (try simp only [putE, putIn, hin, items_ins, *, if_true, if_false, reduceIte, Bool.false_eq_true, Bool.not_false, Bool.true_and, Nat.add_one_ne_zero, Int.reduceEq])
    all_goals (try (first | exact subD_refl _ | (rw [if_neg (by simpa using ‹(chk x != 0) = true›)]; exact subD_refl _)))
  | true =>
    obtain ⟨y, hy⟩ : ∃ y, l[posOf l x.seller x.number]? = some y := by
      unfold isIn at hin
      simp only [Bool.and_eq_true, decide_eq_true_eq] at hin
      exact ⟨_, List.getElem?_eq_getElem hin.1⟩
    have hg : (itemsD l)[posOf l x.seller x.number]? = some y.d := by simp [itemsD, hy, Item.d]
    have hlt : posOf l x.seller x.number < l.length := (List.getElem?_eq_some_iff.1 hy).1
    have htk2 : (itemsD l).take l.length = itemsD l := List.take_of_length_le (by simp [hlen])
    have htk : ∀ d', ((itemsD l).set (posOf l x.seller x.number) d').take l.length = (itemsD l).set (posOf l x.seller x.number) d' := fun d' => List.take_of_length_le (by simp [hlen])
    unfold bookD Item.d Item.cells I64 at *
    refine Runs.of (kit Try.prog) Try.func50 rfl rfl (by rw [Try.ntmps50]; exact of_decide_eq_true rfl) ?_; rw [Try.ntmps50, Try.results50]
    repeat' (first|((first|refine goA rfl fun K hK=>?_|refine goB rfl fun K hK=>?_|refine goC rfl rfl fun K hK=>?_|refine goD rfl rfl fun K hK=>?_);simp (dsimp:=false) only [↓gq,↓stepP,↓stepG,go_sem,Item.d,Item.cells,hin,hg])|refine Pwp.seq ?_|refine Pwp.block ?_|(refine Pwp.exit ?_;simp only [thenS,blockS,if_true,if_false,reduceIte,Nat.reduceEqDiff,Nat.add_one_ne_zero,reduceCtorEq])|(refine Pwp.skip ?_;simp only [thenS,blockS])|(refine Pwp.cond rfl True.intro (fun h=>?_) (fun h=>?_)<;>(try (cases h;done))<;>(try simp only [h]))|refine Pwp.ret ?_|(refine hK _ ?_;clear hK K)|(refine hK _ _ rfl ?_;clear hK K)|(refine CallK.same (run112 x) rfl ?_)|(refine CallG.same (fun _ => run112 x) rfl ?_ ?_)|(refine CallK.toD rfl (run112 x) rfl ?_)|(refine CallG.toD rfl (run112 x) rfl ?_ ?_)|(refine CallK.toD (ds:=[x.d]) rfl (run112 x) rfl ?_)|(refine CallK.toD (ds:=[.slc 8 (itemsD l), .agg [I64 x.seller, I64 x.number], .v (.func (.func 114) #[] #[])]) rfl (runFind l x.seller x.number (by omega)) rfl ?_)|(refine CallK.give (ds:=[.slc 8 (itemsD l)]) rfl (run115 (itemsD l) hone (by omega)) (by simp) ?_)|refine CallG.off ?_|with_reducible refine Or.inl ?_|simp only [thenS,blockS]|with_reducible refine And.intro ?_ ?_|with_reducible exact True.intro|simp (dsimp:=false) only [↓gq,↓stepP,↓stepG,go_sem,Item.d,Item.cells,hin,hg])
    all_goals (try (first|(intro hg;simp_all;done)|(intro hg;simp [hg];done)|exact of_decide_eq_true rfl|(cases h;done)))
    all_goals (try (first | omega | ((refine Fin.data (.inr rfl) (by simp (dsimp:=false) only [↓gq,↓stepP,↓stepG,go_sem,resL,htk,htk2,List.length_set,hlen]; rfl) (by simp only [and_self]) (by simp (dsimp:=false) only [↓gq,↓stepP,↓stepG,go_sem,resP,Nat.le_refl,List.take_length,htk,htk2,List.length_set,hlen]; try rfl) ?_))))
    all_goals (try simp only [hlen] at *)
    all_goals (try simp only [putE, putIn, hin, items_set, *, if_true, if_false, reduceIte, Bool.false_eq_true, Bool.not_true, Bool.false_and, Nat.add_one_ne_zero, Int.reduceEq])
    all_goals (try (first | exact subD_refl _ | (rw [if_neg (by simpa using ‹(chk x != 0) = true›)]; exact subD_refl _)))
    have hyx : y = x := by
      cases y; cases x; simpa [and_assoc] using h
    subst hyx
    obtain ⟨_, he⟩ := List.getElem?_eq_some_iff.1 hg
    have e : (itemsD l).set (posOf l y.seller y.number) y.d = itemsD l := by
      show (itemsD l).set (posOf l y.seller y.number) (D.agg [I64 y.seller, I64 y.number, I64 y.buyer, I64 y.currency, I64 y.amount, I64 y.round, I64 y.state, I64 y.cycle]) = itemsD l
      unfold I64
      rw [← he, List.set_getElem_self]
    rw [e]
    exact subD_refl _
end Go.Proofs.Ytdodgbhodkcckaa.Pv
end
section
set_option linter.unusedVariables false
set_option linter.unusedSimpArgs false
set_option autoImplicit false
set_option maxRecDepth 100000
namespace Go.Proofs.Ytdodgbhodkcckaa.Pv
open Go Go.RowKit
def Item.zero : Item := ⟨0, 0, 0, 0, 0, 0, 0, 0⟩
def getI (l : List Item) (s n : Int) : Item := if isIn l s n = true then (l[posOf l s n]?).getD Item.zero else Item.zero
set_option maxHeartbeats 8000000 in
theorem run65 (me : Int) (l : List Item) (os : List D) (s n : Int) (hl : l.length ≤ 1000000) : Runs Try.prog 65 [.d (bookD me l os), .d (.agg [I64 s, I64 n])] [] (.d (.tup [(getI l s n).d, .v (.bool (isIn l s n))])) [] := by
  have hlen := items_len l
  cases hin : isIn l s n with
  | false =>
    unfold bookD I64
    refine Runs.of (kit Try.prog) Try.func65 rfl rfl (by rw [Try.ntmps65]; exact of_decide_eq_true rfl) ?_; rw [Try.ntmps65, Try.results65]
    repeat' (first|((first|refine goA rfl fun K hK=>?_|refine goB rfl fun K hK=>?_|refine goC rfl rfl fun K hK=>?_|refine goD rfl rfl fun K hK=>?_);simp (dsimp:=false) only [↓gq,↓stepP,↓stepG,go_sem,hin])|refine Pwp.seq ?_|refine Pwp.block ?_|(refine Pwp.exit ?_;simp only [thenS,blockS,if_true,if_false,reduceIte,Nat.reduceEqDiff,Nat.add_one_ne_zero,reduceCtorEq])|(refine Pwp.skip ?_;simp only [thenS,blockS])|(refine Pwp.cond rfl True.intro (fun h=>?_) (fun h=>?_)<;>(try (cases h;done))<;>(try simp only [h]))|refine Pwp.ret ?_|(refine hK _ ?_;clear hK K)|(refine hK _ _ rfl ?_;clear hK K)|(refine CallK.toD (ds:=[.slc 8 (itemsD l), .agg [I64 s, I64 n], .v (.func (.func 114) #[] #[])]) rfl (runFind l s n (by omega)) rfl ?_)|refine CallG.off ?_|with_reducible refine Or.inl ?_|simp only [thenS,blockS]|with_reducible refine And.intro ?_ ?_|with_reducible exact True.intro|simp (dsimp:=false) only [↓gq,↓stepP,↓stepG,go_sem,hin])
    all_goals (try (first|(intro hg;simp_all;done)|(intro hg;simp [hg];done)|exact of_decide_eq_true rfl|(cases h;done)))
    all_goals ((refine Fin.data (.inr rfl) (by simp (dsimp:=false) only [↓gq,↓stepP,↓stepG,go_sem,resL]; rfl) (by simp only [and_self]) (by simp (dsimp:=false) only [↓gq,↓stepP,↓stepG,go_sem,resP,Nat.le_refl,List.take_length]; try rfl) ?_))
    all_goals (simp only [getI, hin, Bool.false_eq_true, if_false]; exact subD_refl _)
  | true =>
    obtain ⟨y, hy⟩ : ∃ y, l[posOf l s n]? = some y := by
      unfold isIn at hin
      simp only [Bool.and_eq_true, decide_eq_true_eq] at hin
      exact ⟨_, List.getElem?_eq_getElem hin.1⟩
    have hg : (itemsD l)[posOf l s n]? = some y.d := by simp [itemsD, hy, Item.d]
    have hlt : posOf l s n < l.length := (List.getElem?_eq_some_iff.1 hy).1
    have hge : getI l s n = y := by simp [getI, hin, hy]
    unfold bookD Item.d Item.cells I64 at *
    refine Runs.of (kit Try.prog) Try.func65 rfl rfl (by rw [Try.ntmps65]; exact of_decide_eq_true rfl) ?_; rw [Try.ntmps65, Try.results65]
    repeat' (first|((first|refine goA rfl fun K hK=>?_|refine goB rfl fun K hK=>?_|refine goC rfl rfl fun K hK=>?_|refine goD rfl rfl fun K hK=>?_);simp (dsimp:=false) only [↓gq,↓stepP,↓stepG,go_sem,hin,hg])|refine Pwp.seq ?_|refine Pwp.block ?_|(refine Pwp.exit ?_;simp only [thenS,blockS,if_true,if_false,reduceIte,Nat.reduceEqDiff,Nat.add_one_ne_zero,reduceCtorEq])|(refine Pwp.skip ?_;simp only [thenS,blockS])|(refine Pwp.cond rfl True.intro (fun h=>?_) (fun h=>?_)<;>(try (cases h;done))<;>(try simp only [h]))|refine Pwp.ret ?_|(refine hK _ ?_;clear hK K)|(refine hK _ _ rfl ?_;clear hK K)|(refine CallK.toD (ds:=[.slc 8 (itemsD l), .agg [I64 s, I64 n], .v (.func (.func 114) #[] #[])]) rfl (runFind l s n (by omega)) rfl ?_)|refine CallG.off ?_|with_reducible refine Or.inl ?_|simp only [thenS,blockS]|with_reducible refine And.intro ?_ ?_|with_reducible exact True.intro|simp (dsimp:=false) only [↓gq,↓stepP,↓stepG,go_sem,hin,hg])
    all_goals (try (first|(intro hg;simp_all;done)|(intro hg;simp [hg];done)|exact of_decide_eq_true rfl|(cases h;done)))
    all_goals (try (first | omega | ((refine Fin.data (.inr rfl) (by simp (dsimp:=false) only [↓gq,↓stepP,↓stepG,go_sem,resL]; rfl) (by simp only [and_self]) (by simp (dsimp:=false) only [↓gq,↓stepP,↓stepG,go_sem,resP,Nat.le_refl,List.take_length]; try rfl) ?_))))
    all_goals (rw [hge]; exact subD_refl _)
structure Order where
  seller : Int
  number : Int
  amount : Int
deriving DecidableEq
def Order.cells (x : Order) : List D := [I64 x.seller, I64 x.number, I64 x.amount]
def Order.d (x : Order) : D := .agg x.cells
def cmpAtO (l : List Order) (s n : Int) (i : Nat) : Int := match l[i]? with
  | some x => cmpN x.seller x.number s n
  | none => 0
def ordersD (l : List Order) : List D := (l.map Order.cells).map .agg
def posO (l : List Order) (s n : Int) : Nat := bsLoop (cmpAtO l s n) 0 l.length
def isInO (l : List Order) (s n : Int) : Bool := decide (posO l s n < l.length) && (cmpAtO l s n (posO l s n) == 0)
theorem runFindO (l : List Order) (s n : Int) (hl : l.length ≤ 2000000) : Runs Try.prog 165 [.d (.slc 3 (ordersD l)), .d (.agg [I64 s, I64 n]), .d (.v (.func (.func 166) #[] #[]))] [] (.d (.tup [I64 (posO l s n), .v (.bool (isInO l s n))])) [] := by
  have h := run165 (l.map Order.cells) [I64 s, I64 n] 166 (cmpAtO l s n) (by intro x hx; obtain ⟨y, _, rfl⟩ := List.mem_map.1 hx; rfl) rfl (by simp; omega) (by
    intro i x hx
    obtain ⟨y, hy, rfl⟩ : ∃ y, l[i]? = some y ∧ Order.cells y = x := by simpa using hx
    have : cmpAtO l s n i = cmpN y.seller y.number s n := by simp only [cmpAtO, hy]
    rw [this]; exact run166 y.seller y.number y.amount s n)
  simp only [List.length_map] at h
  exact h
theorem orders_one (l : List Order) : ∀ d ∈ ordersD l, d.cells.all D.one = true := by
  intro d hd
  simp only [ordersD, List.mem_map] at hd
  obtain ⟨_, ⟨x, _, rfl⟩, rfl⟩ := hd
  rfl
theorem orders_len (l : List Order) : (ordersD l).length = l.length := by simp [ordersD]
theorem orders_ins (l : List Order) (x : Order) (p : Nat) : ordersD (l.take p ++ x :: l.drop p) = (ordersD l).take p ++ x.d :: (ordersD l).drop p := by simp [ordersD, Order.d, List.map_take, List.map_drop]
theorem orders_set (l : List Order) (x : Order) (p : Nat) : ordersD (l.set p x) = (ordersD l).set p x.d := by simp [ordersD, Order.d, List.map_set]
theorem posO_le (l : List Order) (s n : Int) : posO l s n ≤ l.length := bsLoop_le _ _ 0 l.length rfl (Nat.zero_le _)
def bookO (me : Int) (is : List D) (l : List Order) : D := .agg [I64 me, .slc 8 is, .slc 3 (ordersD l)]
def putO (l : List Order) (x : Order) : List Order := if isInO l x.seller x.number = true then (match l[posO l x.seller x.number]? with
  | some y => l.set (posO l x.seller x.number) ⟨y.seller, y.number, x.amount⟩
  | none => l) else l.take (posO l x.seller x.number) ++ x :: l.drop (posO l x.seller x.number)
def expE (me : Int) (l : List Order) (x : Order) : Int :=
  if (decide (x.seller < 0) || decide (8 ≤ x.seller) || x.seller == me || decide (x.number < 1) || decide (1048576 < x.number)) = true then 1 else if (decide (x.amount < 1) || decide (1125899906842624 < x.amount)) = true then 1
  else if (!isInO l x.seller x.number && decide (1024 ≤ (l.length : Int))) = true then 3 else 0
def getO (l : List Order) (s n : Int) : Int := if isInO l s n = true then (match l[posO l s n]? with | some x => x.amount | none => 0) else 0
set_option maxHeartbeats 8000000 in
theorem run107 (me : Int) (is : List D) (l : List Order) (s n : Int) (hl : l.length ≤ 1000000) : Runs Try.prog 107 [.d (bookO me is l), .d (.agg [I64 s, I64 n])] [] (.d (.tup [I64 (getO l s n), .v (.bool (isInO l s n))])) [] := by
  have hlen := orders_len l
  cases hin : isInO l s n with
  | false =>
    unfold bookO I64
    refine Runs.of (kit Try.prog) Try.func107 rfl rfl (by rw [Try.ntmps107]; exact of_decide_eq_true rfl) ?_; rw [Try.ntmps107, Try.results107]
    repeat' (first|((first|refine goA rfl fun K hK=>?_|refine goB rfl fun K hK=>?_|refine goC rfl rfl fun K hK=>?_|refine goD rfl rfl fun K hK=>?_);simp (dsimp:=false) only [↓gq,↓stepP,↓stepG,go_sem,hin])|refine Pwp.seq ?_|refine Pwp.block ?_|(refine Pwp.exit ?_;simp only [thenS,blockS,if_true,if_false,reduceIte,Nat.reduceEqDiff,Nat.add_one_ne_zero,reduceCtorEq])|(refine Pwp.skip ?_;simp only [thenS,blockS])|(refine Pwp.cond rfl True.intro (fun h=>?_) (fun h=>?_)<;>(try (cases h;done))<;>(try simp only [h]))|refine Pwp.ret ?_|(refine hK _ ?_;clear hK K)|(refine hK _ _ rfl ?_;clear hK K)|(refine CallK.toD (ds:=[.slc 3 (ordersD l), .agg [I64 s, I64 n], .v (.func (.func 166) #[] #[])]) rfl (runFindO l s n (by omega)) rfl ?_)|refine CallG.off ?_|with_reducible refine Or.inl ?_|simp only [thenS,blockS]|with_reducible refine And.intro ?_ ?_|with_reducible exact True.intro|simp (dsimp:=false) only [↓gq,↓stepP,↓stepG,go_sem,hin])
    all_goals (try (first|(intro hg;simp_all;done)|(intro hg;simp [hg];done)|exact of_decide_eq_true rfl|(cases h;done)))
    all_goals ((refine Fin.data (.inr rfl) (by simp (dsimp:=false) only [↓gq,↓stepP,↓stepG,go_sem,resL]; rfl) (by simp only [and_self]) (by simp (dsimp:=false) only [↓gq,↓stepP,↓stepG,go_sem,resP,Nat.le_refl,List.take_length]; try rfl) ?_))
    all_goals (simp only [getO, hin, Bool.false_eq_true, if_false]; exact subD_refl _)
  | true =>
    obtain ⟨y, hy⟩ : ∃ y, l[posO l s n]? = some y := by
      unfold isInO at hin
      simp only [Bool.and_eq_true, decide_eq_true_eq] at hin
      exact ⟨_, List.getElem?_eq_getElem hin.1⟩
    have hg : (ordersD l)[posO l s n]? = some y.d := by simp [ordersD, hy, Order.d]
    have hlt : posO l s n < l.length := (List.getElem?_eq_some_iff.1 hy).1
    have hge : getO l s n = y.amount := by simp [getO, hin, hy]
    unfold bookO Order.d Order.cells I64 at *
    refine Runs.of (kit Try.prog) Try.func107 rfl rfl (by rw [Try.ntmps107]; exact of_decide_eq_true rfl) ?_; rw [Try.ntmps107, Try.results107]
    repeat' (first|((first|refine goA rfl fun K hK=>?_|refine goB rfl fun K hK=>?_|refine goC rfl rfl fun K hK=>?_|refine goD rfl rfl fun K hK=>?_);simp (dsimp:=false) only [↓gq,↓stepP,↓stepG,go_sem,hin,hg])|refine Pwp.seq ?_|refine Pwp.block ?_|(refine Pwp.exit ?_;simp only [thenS,blockS,if_true,if_false,reduceIte,Nat.reduceEqDiff,Nat.add_one_ne_zero,reduceCtorEq])|(refine Pwp.skip ?_;simp only [thenS,blockS])|(refine Pwp.cond rfl True.intro (fun h=>?_) (fun h=>?_)<;>(try (cases h;done))<;>(try simp only [h]))|refine Pwp.ret ?_|(refine hK _ ?_;clear hK K)|(refine hK _ _ rfl ?_;clear hK K)|(refine CallK.toD (ds:=[.slc 3 (ordersD l), .agg [I64 s, I64 n], .v (.func (.func 166) #[] #[])]) rfl (runFindO l s n (by omega)) rfl ?_)|refine CallG.off ?_|with_reducible refine Or.inl ?_|simp only [thenS,blockS]|with_reducible refine And.intro ?_ ?_|with_reducible exact True.intro|simp (dsimp:=false) only [↓gq,↓stepP,↓stepG,go_sem,hin,hg])
    all_goals (try (first|(intro hg;simp_all;done)|(intro hg;simp [hg];done)|exact of_decide_eq_true rfl|(cases h;done)))
    all_goals (try (first | omega | ((refine Fin.data (.inr rfl) (by simp (dsimp:=false) only [↓gq,↓stepP,↓stepG,go_sem,resL]; rfl) (by simp only [and_self]) (by simp (dsimp:=false) only [↓gq,↓stepP,↓stepG,go_sem,resP,Nat.le_refl,List.take_length]; try rfl) ?_))))
    all_goals (rw [hge]; exact subD_refl _)
set_option maxHeartbeats 8000000 in
theorem run106 (me : Int) (is : List D) (l : List Order) (x : Order) (hl : l.length ≤ 1000000) : Runs Try.prog 106 [.d (bookO me is l), .d (.agg [I64 x.seller, I64 x.number]), pint .i64 x.amount] [] (.d (.tup [if expE me l x = 0 then bookO me is (putO l x) else bookO me is l, I64 (expE me l x)])) [] := by
  have hlen := orders_len l
  have hone := orders_one l
  have hp := posO_le l x.seller x.number
  have htk2 : (ordersD l).take l.length = ordersD l := List.take_of_length_le (by simp [hlen])
  cases hin : isInO l x.seller x.number with
  | false =>
    unfold bookO I64
    refine Runs.of (kit Try.prog) Try.func106 rfl rfl (by rw [Try.ntmps106]; exact of_decide_eq_true rfl) ?_; rw [Try.ntmps106, Try.results106]
    repeat' (first|((first|refine goA rfl fun K hK=>?_|refine goB rfl fun K hK=>?_|refine goC rfl rfl fun K hK=>?_|refine goD rfl rfl fun K hK=>?_);simp (dsimp:=false) only [↓gq,↓stepP,↓stepG,go_sem,Order.d,Order.cells,hin])|refine Pwp.seq ?_|refine Pwp.block ?_|(refine Pwp.exit ?_;simp only [thenS,blockS,if_true,if_false,reduceIte,Nat.reduceEqDiff,Nat.add_one_ne_zero,reduceCtorEq])|(refine Pwp.skip ?_;simp only [thenS,blockS])|(refine Pwp.cond rfl True.intro (fun h=>?_) (fun h=>?_)<;>(try (cases h;done))<;>(try simp only [h]))|refine Pwp.ret ?_|(refine hK _ ?_;clear hK K)|(refine hK _ _ rfl ?_;clear hK K)|(refine CallK.toD (ds:=[.slc 3 (ordersD l), .agg [I64 x.seller, I64 x.number], .v (.func (.func 166) #[] #[])]) rfl (runFindO l x.seller x.number (by omega)) rfl ?_)|(refine CallK.give (ds:=[.slc 3 (ordersD l)]) rfl (run167 (ordersD l) hone (by omega)) (by simp) ?_)|(refine CallK.rows2 (run168 (ordersD l) x.d (posO l x.seller x.number) (by omega) hone rfl (by omega)) rfl rfl (of_decide_eq_true rfl) (by simp) ?_)|refine CallG.off ?_|with_reducible refine Or.inl ?_|simp only [thenS,blockS]|with_reducible refine And.intro ?_ ?_|with_reducible exact True.intro|simp (dsimp:=false) only [↓gq,↓stepP,↓stepG,go_sem,Order.d,Order.cells,hin])
    all_goals (try (first|(intro hg;simp_all;done)|(intro hg;simp [hg];done)|exact of_decide_eq_true rfl|(cases h;done)))
    all_goals ((refine Fin.data (.inr rfl) (by simp (dsimp:=false) only [↓gq,↓stepP,↓stepG,go_sem,resL]; rfl) (by simp only [and_self]) (by simp (dsimp:=false) only [↓gq,↓stepP,↓stepG,go_sem,resP,Nat.le_refl,List.take_length]; try rfl) ?_))
    all_goals (try simp only [hlen] at *)
    all_goals (try simp only [expE, putO, hin, orders_ins, *, if_true, if_false, reduceIte, Bool.false_eq_true, Bool.not_false, Bool.true_and, Nat.add_one_ne_zero, Int.reduceEq])
    all_goals (try (exact subD_refl _))
  | true =>
    obtain ⟨y, hy⟩ : ∃ y, l[posO l x.seller x.number]? = some y := by
      unfold isInO at hin
      simp only [Bool.and_eq_true, decide_eq_true_eq] at hin
      exact ⟨_, List.getElem?_eq_getElem hin.1⟩
    have hg : (ordersD l)[posO l x.seller x.number]? = some y.d := by simp [ordersD, hy, Order.d]
    have hlt : posO l x.seller x.number < l.length := (List.getElem?_eq_some_iff.1 hy).1
    have htk : ∀ d', ((ordersD l).set (posO l x.seller x.number) d').take l.length = (ordersD l).set (posO l x.seller x.number) d' := fun d' => List.take_of_length_le (by simp [hlen])
    unfold bookO Order.d Order.cells I64 at *
    refine Runs.of (kit Try.prog) Try.func106 rfl rfl (by rw [Try.ntmps106]; exact of_decide_eq_true rfl) ?_; rw [Try.ntmps106, Try.results106]
    repeat' (first|((first|refine goA rfl fun K hK=>?_|refine goB rfl fun K hK=>?_|refine goC rfl rfl fun K hK=>?_|refine goD rfl rfl fun K hK=>?_);simp (dsimp:=false) only [↓gq,↓stepP,↓stepG,go_sem,Order.d,Order.cells,hin,hg])|refine Pwp.seq ?_|refine Pwp.block ?_|(refine Pwp.exit ?_;simp only [thenS,blockS,if_true,if_false,reduceIte,Nat.reduceEqDiff,Nat.add_one_ne_zero,reduceCtorEq])|(refine Pwp.skip ?_;simp only [thenS,blockS])|(refine Pwp.cond rfl True.intro (fun h=>?_) (fun h=>?_)<;>(try (cases h;done))<;>(try simp only [h]))|refine Pwp.ret ?_|(refine hK _ ?_;clear hK K)|(refine hK _ _ rfl ?_;clear hK K)|(refine CallK.toD (ds:=[.slc 3 (ordersD l), .agg [I64 x.seller, I64 x.number], .v (.func (.func 166) #[] #[])]) rfl (runFindO l x.seller x.number (by omega)) rfl ?_)|(refine CallK.give (ds:=[.slc 3 (ordersD l)]) rfl (run167 (ordersD l) hone (by omega)) (by simp) ?_)|refine CallG.off ?_|with_reducible refine Or.inl ?_|simp only [thenS,blockS]|with_reducible refine And.intro ?_ ?_|with_reducible exact True.intro|simp (dsimp:=false) only [↓gq,↓stepP,↓stepG,go_sem,Order.d,Order.cells,hin,hg])
    all_goals (try (first|(intro hg;simp_all;done)|(intro hg;simp [hg];done)|exact of_decide_eq_true rfl|(cases h;done)))
    all_goals (try (first | omega | ((refine Fin.data (.inr rfl) (by simp (dsimp:=false) only [↓gq,↓stepP,↓stepG,go_sem,resL,htk,htk2,List.length_set,hlen]; rfl) (by simp only [and_self]) (by simp (dsimp:=false) only [↓gq,↓stepP,↓stepG,go_sem,resP,Nat.le_refl,List.take_length,htk,htk2,List.length_set,hlen]; try rfl) ?_))))
    all_goals (try simp only [hlen] at *)
    all_goals (try simp only [expE, putO, hin, hy, orders_set, *, if_true, if_false, reduceIte, Bool.false_eq_true, Bool.not_true, Bool.false_and, Nat.add_one_ne_zero, Int.reduceEq])
    all_goals (try (exact subD_refl _))
end Go.Proofs.Ytdodgbhodkcckaa.Pv
end
section
set_option linter.unusedVariables false
set_option linter.unusedSimpArgs false
set_option autoImplicit false
set_option maxRecDepth 100000
namespace Go.Proofs.Ytdodgbhodkcckaa.Pv
open Go Go.RowKit
abbrev nilD : D := .v (.slice none 0 0)
structure Msg where
  kind : Int
  seller : Int
  number : Int
  buyer : Int
  currency : Int
  round : Int
  cycle : Int
  amount : Int
  yes : Bool
  lines : D
  nets : D
def Msg.cells (m : Msg) : List D := [I64 m.kind, I64 m.seller, I64 m.number, I64 m.buyer, I64 m.currency, I64 m.round, I64 m.cycle, I64 m.amount, .v (.bool m.yes), m.lines, m.nets]
def Msg.d (m : Msg) : D := .agg m.cells
def about (kind : Int) (x : Item) : Msg := ⟨kind, x.seller, x.number, x.buyer, x.currency, x.round, 0, x.amount, false, nilD, nilD⟩
def newI (s n b c a r : Int) : Item := ⟨s, n, b, c, a, r, 1, 0⟩
def stepI (x : Item) (f t : Int) : Item := if x.state = f then { x with state := t } else x
def stepE (x : Item) (f : Int) : Int := if x.state = f then 0 else 90
def adjE (x : Item) (a : Int) : Int := if x.state ≠ 2 then 90 else if (decide (a < 1) || decide (1125899906842624 < a)) = true then 1 else if x.round = 3 then 91 else 0
def adjI (x : Item) (a : Int) : Item := if adjE x a = 0 then { x with state := 1, round := x.round + 1, amount := a } else x
set_option maxHeartbeats 8000000 in
theorem run216 (s n b c a : Int) : Runs Try.prog 216 [.d (.agg [I64 s, I64 n]), pint .i64 b, pint .i64 c, pint .i64 a] [] (.d (.tup [(if chk (newI s n b c a 0) = 0 then newI s n b c a 0 else Item.zero).d, I64 (chk (newI s n b c a 0))])) [] := by
  have r112 := run112 (newI s n b c a 0)
  by_cases he : chk (newI s n b c a 0) = 0
  · rw [he] at r112 ⊢
    rw [if_pos rfl]
    refine Runs.of (kit Try.prog) Try.func216 rfl rfl (by rw [Try.ntmps216]; exact of_decide_eq_true rfl) ?_; rw [Try.ntmps216, Try.results216]
    repeat' (first|((first|refine goA rfl fun K hK=>?_|refine goB rfl fun K hK=>?_|refine goC rfl rfl fun K hK=>?_|refine goD rfl rfl fun K hK=>?_);simp (dsimp:=false) only [↓gq,↓stepP,↓stepG,go_sem,bne_self_eq_false])|refine Pwp.seq ?_|refine Pwp.block ?_|(refine Pwp.exit ?_;simp only [thenS,blockS,if_true,if_false,reduceIte,Nat.reduceEqDiff,Nat.add_one_ne_zero,reduceCtorEq])|(refine Pwp.skip ?_;simp only [thenS,blockS])|(refine Pwp.cond rfl True.intro (fun h=>?_) (fun h=>?_)<;>(try (cases h;done))<;>(try simp only [h]))|refine Pwp.ret ?_|(refine hK _ ?_;clear hK K)|(refine hK _ _ rfl ?_;clear hK K)|(refine CallK.toD (ds:=[(newI s n b c a 0).d]) rfl (r112) rfl ?_)|refine CallG.off ?_|with_reducible refine Or.inl ?_|simp only [thenS,blockS]|with_reducible refine And.intro ?_ ?_|with_reducible exact True.intro|simp (dsimp:=false) only [↓gq,↓stepP,↓stepG,go_sem,bne_self_eq_false])
    all_goals (try (first|(intro hg;simp [hg];done)|exact of_decide_eq_true rfl|(cases h;done)))
    (refine Fin.data (.inr rfl) (by simp (dsimp:=false) only [↓gq,↓stepP,↓stepG,go_sem,resL]; rfl) (by simp only [and_self]) (by simp (dsimp:=false) only [↓gq,↓stepP,↓stepG,go_sem,resP,Nat.le_refl,List.take_length]; try rfl) ?_)
    exact subD_refl _
  · rw [if_neg he]
    have n1 : (chk (newI s n b c a 0) != 0) = true := by simpa using he
    generalize chk (newI s n b c a 0) = e at *
    refine Runs.of (kit Try.prog) Try.func216 rfl rfl (by rw [Try.ntmps216]; exact of_decide_eq_true rfl) ?_; rw [Try.ntmps216, Try.results216]
    repeat' (first|((first|refine goA rfl fun K hK=>?_|refine goB rfl fun K hK=>?_|refine goC rfl rfl fun K hK=>?_|refine goD rfl rfl fun K hK=>?_);simp (dsimp:=false) only [↓gq,↓stepP,↓stepG,go_sem,n1])|refine Pwp.seq ?_|refine Pwp.block ?_|(refine Pwp.exit ?_;simp only [thenS,blockS,if_true,if_false,reduceIte,Nat.reduceEqDiff,Nat.add_one_ne_zero,reduceCtorEq])|(refine Pwp.skip ?_;simp only [thenS,blockS])|(refine Pwp.cond rfl True.intro (fun h=>?_) (fun h=>?_)<;>(try (cases h;done))<;>(try simp only [h]))|refine Pwp.ret ?_|(refine hK _ ?_;clear hK K)|(refine hK _ _ rfl ?_;clear hK K)|(refine CallK.toD (ds:=[(newI s n b c a 0).d]) rfl (r112) rfl ?_)|refine CallG.off ?_|with_reducible refine Or.inl ?_|simp only [thenS,blockS]|with_reducible refine And.intro ?_ ?_|with_reducible exact True.intro|simp (dsimp:=false) only [↓gq,↓stepP,↓stepG,go_sem,n1])
    all_goals (try (first|(intro hg;simp [hg];done)|exact of_decide_eq_true rfl|(cases h;done)))
    (refine Fin.data (.inr rfl) (by simp (dsimp:=false) only [↓gq,↓stepP,↓stepG,go_sem,resL]; rfl) (by simp only [and_self]) (by simp (dsimp:=false) only [↓gq,↓stepP,↓stepG,go_sem,resP,Nat.le_refl,List.take_length]; try rfl) ?_)
    exact subD_refl _
set_option maxHeartbeats 8000000 in
theorem run222 (m : Msg) : Runs Try.prog 222 [.d m.d] [] (.d (.tup [(if chk (newI m.seller m.number m.buyer m.currency m.amount m.round) = 0 then newI m.seller m.number m.buyer m.currency m.amount m.round else Item.zero).d, I64 (chk (newI m.seller m.number m.buyer m.currency m.amount m.round))])) [] := by
  have r112 := run112 (newI m.seller m.number m.buyer m.currency m.amount m.round)
  by_cases he : chk (newI m.seller m.number m.buyer m.currency m.amount m.round) = 0
  · rw [he] at r112 ⊢
    rw [if_pos rfl]
    unfold Msg.d Msg.cells
    refine Runs.of (kit Try.prog) Try.func222 rfl rfl (by rw [Try.ntmps222]; exact of_decide_eq_true rfl) ?_; rw [Try.ntmps222, Try.results222]
    repeat' (first|((first|refine goA rfl fun K hK=>?_|refine goB rfl fun K hK=>?_|refine goC rfl rfl fun K hK=>?_|refine goD rfl rfl fun K hK=>?_);simp (dsimp:=false) only [↓gq,↓stepP,↓stepG,go_sem,bne_self_eq_false])|refine Pwp.seq ?_|refine Pwp.block ?_|(refine Pwp.exit ?_;simp only [thenS,blockS,if_true,if_false,reduceIte,Nat.reduceEqDiff,Nat.add_one_ne_zero,reduceCtorEq])|(refine Pwp.skip ?_;simp only [thenS,blockS])|(refine Pwp.cond rfl True.intro (fun h=>?_) (fun h=>?_)<;>(try (cases h;done))<;>(try simp only [h]))|refine Pwp.ret ?_|(refine hK _ ?_;clear hK K)|(refine hK _ _ rfl ?_;clear hK K)|(refine CallK.toD (ds:=[(newI m.seller m.number m.buyer m.currency m.amount m.round).d]) rfl (r112) rfl ?_)|refine CallG.off ?_|with_reducible refine Or.inl ?_|simp only [thenS,blockS]|with_reducible refine And.intro ?_ ?_|with_reducible exact True.intro|simp (dsimp:=false) only [↓gq,↓stepP,↓stepG,go_sem,bne_self_eq_false])
    all_goals (try (first|(intro hg;simp [hg];done)|exact of_decide_eq_true rfl|(cases h;done)))
    (refine Fin.data (.inr rfl) (by simp (dsimp:=false) only [↓gq,↓stepP,↓stepG,go_sem,resL]; rfl) (by simp only [and_self]) (by simp (dsimp:=false) only [↓gq,↓stepP,↓stepG,go_sem,resP,Nat.le_refl,List.take_length]; try rfl) ?_)
    exact subD_refl _
  · rw [if_neg he]
    have n1 : (chk (newI m.seller m.number m.buyer m.currency m.amount m.round) != 0) = true := by simpa using he
    unfold Msg.d Msg.cells
    refine Runs.of (kit Try.prog) Try.func222 rfl rfl (by rw [Try.ntmps222]; exact of_decide_eq_true rfl) ?_; rw [Try.ntmps222, Try.results222]
    repeat' (first|((first|refine goA rfl fun K hK=>?_|refine goB rfl fun K hK=>?_|refine goC rfl rfl fun K hK=>?_|refine goD rfl rfl fun K hK=>?_);simp (dsimp:=false) only [↓gq,↓stepP,↓stepG,go_sem,n1])|refine Pwp.seq ?_|refine Pwp.block ?_|(refine Pwp.exit ?_;simp only [thenS,blockS,if_true,if_false,reduceIte,Nat.reduceEqDiff,Nat.add_one_ne_zero,reduceCtorEq])|(refine Pwp.skip ?_;simp only [thenS,blockS])|(refine Pwp.cond rfl True.intro (fun h=>?_) (fun h=>?_)<;>(try (cases h;done))<;>(try simp only [h]))|refine Pwp.ret ?_|(refine hK _ ?_;clear hK K)|(refine hK _ _ rfl ?_;clear hK K)|(refine CallK.toD (ds:=[(newI m.seller m.number m.buyer m.currency m.amount m.round).d]) rfl (r112) rfl ?_)|refine CallG.off ?_|with_reducible refine Or.inl ?_|simp only [thenS,blockS]|with_reducible refine And.intro ?_ ?_|with_reducible exact True.intro|simp (dsimp:=false) only [↓gq,↓stepP,↓stepG,go_sem,n1])
    all_goals (try (first|(intro hg;simp [hg];done)|exact of_decide_eq_true rfl|(cases h;done)))
    (refine Fin.data (.inr rfl) (by simp (dsimp:=false) only [↓gq,↓stepP,↓stepG,go_sem,resL]; rfl) (by simp only [and_self]) (by simp (dsimp:=false) only [↓gq,↓stepP,↓stepG,go_sem,resP,Nat.le_refl,List.take_length]; try rfl) ?_)
    exact subD_refl _
set_option maxHeartbeats 8000000 in
theorem run233 (x : Item) (f t : Int) : Runs Try.prog 233 [.d x.d, pint .i64 f, pint .i64 t] [] (.d (.tup [(stepI x f t).d, I64 (stepE x f)])) [] := by
  by_cases h : x.state = f
  · have c : (x.state != f) = false := by simp [h]
    unfold stepI stepE
    rw [if_pos h, if_pos h]
    unfold Item.d Item.cells
    refine Runs.of (kit Try.prog) Try.func233 rfl rfl (by rw [Try.ntmps233]; exact of_decide_eq_true rfl) ?_; rw [Try.ntmps233, Try.results233]
    repeat' (first|((first|refine goA rfl fun K hK=>?_|refine goB rfl fun K hK=>?_|refine goC rfl rfl fun K hK=>?_|refine goD rfl rfl fun K hK=>?_);simp (dsimp:=false) only [↓gq,↓stepP,↓stepG,go_sem,c])|refine Pwp.seq ?_|refine Pwp.block ?_|(refine Pwp.exit ?_;simp only [thenS,blockS,if_true,if_false,reduceIte,Nat.reduceEqDiff,Nat.add_one_ne_zero,reduceCtorEq])|(refine Pwp.skip ?_;simp only [thenS,blockS])|(refine Pwp.cond rfl True.intro (fun h=>?_) (fun h=>?_)<;>(try (cases h;done))<;>(try simp only [h]))|refine Pwp.ret ?_|(refine hK _ ?_;clear hK K)|(refine hK _ _ rfl ?_;clear hK K)|refine CallG.off ?_|with_reducible refine Or.inl ?_|simp only [thenS,blockS]|with_reducible refine And.intro ?_ ?_|with_reducible exact True.intro|simp (dsimp:=false) only [↓gq,↓stepP,↓stepG,go_sem,c])
    all_goals (try (first|(intro hg;simp [hg];done)|exact of_decide_eq_true rfl|(cases h;done)))
    (refine Fin.data (.inr rfl) (by simp (dsimp:=false) only [↓gq,↓stepP,↓stepG,go_sem,resL]; rfl) (by simp only [and_self]) (by simp (dsimp:=false) only [↓gq,↓stepP,↓stepG,go_sem,resP,Nat.le_refl,List.take_length]; try rfl) ?_)
    exact subD_refl _
  · have c : (x.state != f) = true := by simpa using h
    unfold stepI stepE
    rw [if_neg h, if_neg h]
    unfold Item.d Item.cells
    refine Runs.of (kit Try.prog) Try.func233 rfl rfl (by rw [Try.ntmps233]; exact of_decide_eq_true rfl) ?_; rw [Try.ntmps233, Try.results233]
    repeat' (first|((first|refine goA rfl fun K hK=>?_|refine goB rfl fun K hK=>?_|refine goC rfl rfl fun K hK=>?_|refine goD rfl rfl fun K hK=>?_);simp (dsimp:=false) only [↓gq,↓stepP,↓stepG,go_sem,c])|refine Pwp.seq ?_|refine Pwp.block ?_|(refine Pwp.exit ?_;simp only [thenS,blockS,if_true,if_false,reduceIte,Nat.reduceEqDiff,Nat.add_one_ne_zero,reduceCtorEq])|(refine Pwp.skip ?_;simp only [thenS,blockS])|(refine Pwp.cond rfl True.intro (fun h=>?_) (fun h=>?_)<;>(try (cases h;done))<;>(try simp only [h]))|refine Pwp.ret ?_|(refine hK _ ?_;clear hK K)|(refine hK _ _ rfl ?_;clear hK K)|refine CallG.off ?_|with_reducible refine Or.inl ?_|simp only [thenS,blockS]|with_reducible refine And.intro ?_ ?_|with_reducible exact True.intro|simp (dsimp:=false) only [↓gq,↓stepP,↓stepG,go_sem,c])
    all_goals (try (first|(intro hg;simp [hg];done)|exact of_decide_eq_true rfl|(cases h;done)))
    (refine Fin.data (.inr rfl) (by simp (dsimp:=false) only [↓gq,↓stepP,↓stepG,go_sem,resL]; rfl) (by simp only [and_self]) (by simp (dsimp:=false) only [↓gq,↓stepP,↓stepG,go_sem,resP,Nat.le_refl,List.take_length]; try rfl) ?_)
    exact subD_refl _
theorem run224 (x : Item) : Runs Try.prog 224 [.d x.d] [] (.d (.tup [(stepI x 1 3).d, I64 (stepE x 1)])) [] := by
  have r := run233 x 1 3
  generalize stepI x 1 3 = y at *
  generalize stepE x 1 = e at *
  unfold Item.d Item.cells at *
  refine Runs.of (kit Try.prog) Try.func224 rfl rfl (by rw [Try.ntmps224]; exact of_decide_eq_true rfl) ?_; rw [Try.ntmps224, Try.results224]
  repeat' (first|((first|refine goA rfl fun K hK=>?_|refine goB rfl fun K hK=>?_|refine goC rfl rfl fun K hK=>?_|refine goD rfl rfl fun K hK=>?_);simp (dsimp:=false) only [↓gq,↓stepP,↓stepG,go_sem])|refine Pwp.seq ?_|refine Pwp.block ?_|(refine Pwp.exit ?_;simp only [thenS,blockS,if_true,if_false,reduceIte,Nat.reduceEqDiff,Nat.add_one_ne_zero,reduceCtorEq])|(refine Pwp.skip ?_;simp only [thenS,blockS])|(refine Pwp.cond rfl True.intro (fun h=>?_) (fun h=>?_)<;>(try (cases h;done))<;>(try simp only [h]))|refine Pwp.ret ?_|(refine hK _ ?_;clear hK K)|(refine hK _ _ rfl ?_;clear hK K)|(refine CallK.toD (ds:=[.agg [I64 x.seller, I64 x.number, I64 x.buyer, I64 x.currency, I64 x.amount, I64 x.round, I64 x.state, I64 x.cycle], I64 1, I64 3]) rfl (r) rfl ?_)|refine CallG.off ?_|with_reducible refine Or.inl ?_|simp only [thenS,blockS]|with_reducible refine And.intro ?_ ?_|with_reducible exact True.intro|simp (dsimp:=false) only [↓gq,↓stepP,↓stepG,go_sem])
  all_goals (try (first|(intro hg;simp [hg];done)|exact of_decide_eq_true rfl|(cases h;done)))
  (refine Fin.data (.inr rfl) (by simp (dsimp:=false) only [↓gq,↓stepP,↓stepG,go_sem,resL]; rfl) (by simp only [and_self]) (by simp (dsimp:=false) only [↓gq,↓stepP,↓stepG,go_sem,resP,Nat.le_refl,List.take_length]; try rfl) ?_)
  exact subD_refl _
theorem run225 (x : Item) : Runs Try.prog 225 [.d x.d] [] (.d (.tup [(stepI x 1 2).d, I64 (stepE x 1)])) [] := by
  have r := run233 x 1 2
  generalize stepI x 1 2 = y at *
  generalize stepE x 1 = e at *
  unfold Item.d Item.cells at *
  refine Runs.of (kit Try.prog) Try.func225 rfl rfl (by rw [Try.ntmps225]; exact of_decide_eq_true rfl) ?_; rw [Try.ntmps225, Try.results225]
  repeat' (first|((first|refine goA rfl fun K hK=>?_|refine goB rfl fun K hK=>?_|refine goC rfl rfl fun K hK=>?_|refine goD rfl rfl fun K hK=>?_);simp (dsimp:=false) only [↓gq,↓stepP,↓stepG,go_sem])|refine Pwp.seq ?_|refine Pwp.block ?_|(refine Pwp.exit ?_;simp only [thenS,blockS,if_true,if_false,reduceIte,Nat.reduceEqDiff,Nat.add_one_ne_zero,reduceCtorEq])|(refine Pwp.skip ?_;simp only [thenS,blockS])|(refine Pwp.cond rfl True.intro (fun h=>?_) (fun h=>?_)<;>(try (cases h;done))<;>(try simp only [h]))|refine Pwp.ret ?_|(refine hK _ ?_;clear hK K)|(refine hK _ _ rfl ?_;clear hK K)|(refine CallK.toD (ds:=[.agg [I64 x.seller, I64 x.number, I64 x.buyer, I64 x.currency, I64 x.amount, I64 x.round, I64 x.state, I64 x.cycle], I64 1, I64 2]) rfl (r) rfl ?_)|refine CallG.off ?_|with_reducible refine Or.inl ?_|simp only [thenS,blockS]|with_reducible refine And.intro ?_ ?_|with_reducible exact True.intro|simp (dsimp:=false) only [↓gq,↓stepP,↓stepG,go_sem])
  all_goals (try (first|(intro hg;simp [hg];done)|exact of_decide_eq_true rfl|(cases h;done)))
  (refine Fin.data (.inr rfl) (by simp (dsimp:=false) only [↓gq,↓stepP,↓stepG,go_sem,resL]; rfl) (by simp only [and_self]) (by simp (dsimp:=false) only [↓gq,↓stepP,↓stepG,go_sem,resP,Nat.le_refl,List.take_length]; try rfl) ?_)
  exact subD_refl _
theorem run221 (x : Item) : Runs Try.prog 221 [.d x.d] [] (.d (.tup [(stepI x 2 4).d, I64 (stepE x 2)])) [] := by
  have r := run233 x 2 4
  generalize stepI x 2 4 = y at *
  generalize stepE x 2 = e at *
  unfold Item.d Item.cells at *
  refine Runs.of (kit Try.prog) Try.func221 rfl rfl (by rw [Try.ntmps221]; exact of_decide_eq_true rfl) ?_; rw [Try.ntmps221, Try.results221]
  repeat' (first|((first|refine goA rfl fun K hK=>?_|refine goB rfl fun K hK=>?_|refine goC rfl rfl fun K hK=>?_|refine goD rfl rfl fun K hK=>?_);simp (dsimp:=false) only [↓gq,↓stepP,↓stepG,go_sem])|refine Pwp.seq ?_|refine Pwp.block ?_|(refine Pwp.exit ?_;simp only [thenS,blockS,if_true,if_false,reduceIte,Nat.reduceEqDiff,Nat.add_one_ne_zero,reduceCtorEq])|(refine Pwp.skip ?_;simp only [thenS,blockS])|(refine Pwp.cond rfl True.intro (fun h=>?_) (fun h=>?_)<;>(try (cases h;done))<;>(try simp only [h]))|refine Pwp.ret ?_|(refine hK _ ?_;clear hK K)|(refine hK _ _ rfl ?_;clear hK K)|(refine CallK.toD (ds:=[.agg [I64 x.seller, I64 x.number, I64 x.buyer, I64 x.currency, I64 x.amount, I64 x.round, I64 x.state, I64 x.cycle], I64 2, I64 4]) rfl (r) rfl ?_)|refine CallG.off ?_|with_reducible refine Or.inl ?_|simp only [thenS,blockS]|with_reducible refine And.intro ?_ ?_|with_reducible exact True.intro|simp (dsimp:=false) only [↓gq,↓stepP,↓stepG,go_sem])
  all_goals (try (first|(intro hg;simp [hg];done)|exact of_decide_eq_true rfl|(cases h;done)))
  (refine Fin.data (.inr rfl) (by simp (dsimp:=false) only [↓gq,↓stepP,↓stepG,go_sem,resL]; rfl) (by simp only [and_self]) (by simp (dsimp:=false) only [↓gq,↓stepP,↓stepG,go_sem,resP,Nat.le_refl,List.take_length]; try rfl) ?_)
  exact subD_refl _
set_option maxHeartbeats 8000000 in
theorem run220 (x : Item) (a : Int) (hr : 0 ≤ x.round ∧ x.round ≤ 3) : Runs Try.prog 220 [.d x.d, pint .i64 a] [] (.d (.tup [(adjI x a).d, I64 (adjE x a)])) [] := by
  have w : IntKind.wrap .i64 (x.round + 1) = x.round + 1 := wrap_of (by omega) (by omega)
  by_cases h1 : x.state = 2
  · have c1 : (x.state != 2) = false := by simp [h1]
    cases c2 : (decide (a < 1) || decide (1125899906842624 < a)) with
    | true =>
      have e : adjE x a = 1 := by unfold adjE; rw [if_neg (by simp [h1]), if_pos c2]
      unfold adjI
      rw [e, if_neg (by decide)]
      unfold Item.d Item.cells
      refine Runs.of (kit Try.prog) Try.func220 rfl rfl (by rw [Try.ntmps220]; exact of_decide_eq_true rfl) ?_; rw [Try.ntmps220, Try.results220]
      repeat' (first|((first|refine goA rfl fun K hK=>?_|refine goB rfl fun K hK=>?_|refine goC rfl rfl fun K hK=>?_|refine goD rfl rfl fun K hK=>?_);simp (dsimp:=false) only [↓gq,↓stepP,↓stepG,go_sem,c1,c2])|refine Pwp.seq ?_|refine Pwp.block ?_|(refine Pwp.exit ?_;simp only [thenS,blockS,if_true,if_false,reduceIte,Nat.reduceEqDiff,Nat.add_one_ne_zero,reduceCtorEq])|(refine Pwp.skip ?_;simp only [thenS,blockS])|(refine Pwp.cond rfl True.intro (fun h=>?_) (fun h=>?_)<;>(try (cases h;done))<;>(try simp only [h]))|refine Pwp.ret ?_|(refine hK _ ?_;clear hK K)|(refine hK _ _ rfl ?_;clear hK K)|refine CallG.off ?_|with_reducible refine Or.inl ?_|simp only [thenS,blockS]|with_reducible refine And.intro ?_ ?_|with_reducible exact True.intro|simp (dsimp:=false) only [↓gq,↓stepP,↓stepG,go_sem,c1,c2])
      all_goals (try (first|(intro hg;simp [hg];done)|exact of_decide_eq_true rfl|(cases h;done)))
      (refine Fin.data (.inr rfl) (by simp (dsimp:=false) only [↓gq,↓stepP,↓stepG,go_sem,resL]; rfl) (by simp only [and_self]) (by simp (dsimp:=false) only [↓gq,↓stepP,↓stepG,go_sem,resP,Nat.le_refl,List.take_length]; try rfl) ?_)
      exact subD_refl _
    | false =>
      by_cases h3 : x.round = 3
      · have c3 : (x.round == 3) = true := by simp [h3]
        have e : adjE x a = 91 := by unfold adjE; rw [if_neg (by simp [h1]), if_neg (by simp [c2]), if_pos h3]
        unfold adjI
        rw [e, if_neg (by decide)]
        unfold Item.d Item.cells
        refine Runs.of (kit Try.prog) Try.func220 rfl rfl (by rw [Try.ntmps220]; exact of_decide_eq_true rfl) ?_; rw [Try.ntmps220, Try.results220]
        repeat' (first|((first|refine goA rfl fun K hK=>?_|refine goB rfl fun K hK=>?_|refine goC rfl rfl fun K hK=>?_|refine goD rfl rfl fun K hK=>?_);simp (dsimp:=false) only [↓gq,↓stepP,↓stepG,go_sem,c1,c2,c3])|refine Pwp.seq ?_|refine Pwp.block ?_|(refine Pwp.exit ?_;simp only [thenS,blockS,if_true,if_false,reduceIte,Nat.reduceEqDiff,Nat.add_one_ne_zero,reduceCtorEq])|(refine Pwp.skip ?_;simp only [thenS,blockS])|(refine Pwp.cond rfl True.intro (fun h=>?_) (fun h=>?_)<;>(try (cases h;done))<;>(try simp only [h]))|refine Pwp.ret ?_|(refine hK _ ?_;clear hK K)|(refine hK _ _ rfl ?_;clear hK K)|refine CallG.off ?_|with_reducible refine Or.inl ?_|simp only [thenS,blockS]|with_reducible refine And.intro ?_ ?_|with_reducible exact True.intro|simp (dsimp:=false) only [↓gq,↓stepP,↓stepG,go_sem,c1,c2,c3])
        all_goals (try (first|(intro hg;simp [hg];done)|exact of_decide_eq_true rfl|(cases h;done)))
        (refine Fin.data (.inr rfl) (by simp (dsimp:=false) only [↓gq,↓stepP,↓stepG,go_sem,resL]; rfl) (by simp only [and_self]) (by simp (dsimp:=false) only [↓gq,↓stepP,↓stepG,go_sem,resP,Nat.le_refl,List.take_length]; try rfl) ?_)
        exact subD_refl _
      · have c3 : (x.round == 3) = false := by simpa using h3
        have e : adjE x a = 0 := by unfold adjE; rw [if_neg (by simp [h1]), if_neg (by simp [c2]), if_neg h3]
        unfold adjI
        rw [e, if_pos rfl]
        unfold Item.d Item.cells
        refine Runs.of (kit Try.prog) Try.func220 rfl rfl (by rw [Try.ntmps220]; exact of_decide_eq_true rfl) ?_; rw [Try.ntmps220, Try.results220]
        repeat' (first|((first|refine goA rfl fun K hK=>?_|refine goB rfl fun K hK=>?_|refine goC rfl rfl fun K hK=>?_|refine goD rfl rfl fun K hK=>?_);simp (dsimp:=false) only [↓gq,↓stepP,↓stepG,go_sem,c1,c2,c3,w])|refine Pwp.seq ?_|refine Pwp.block ?_|(refine Pwp.exit ?_;simp only [thenS,blockS,if_true,if_false,reduceIte,Nat.reduceEqDiff,Nat.add_one_ne_zero,reduceCtorEq])|(refine Pwp.skip ?_;simp only [thenS,blockS])|(refine Pwp.cond rfl True.intro (fun h=>?_) (fun h=>?_)<;>(try (cases h;done))<;>(try simp only [h]))|refine Pwp.ret ?_|(refine hK _ ?_;clear hK K)|(refine hK _ _ rfl ?_;clear hK K)|refine CallG.off ?_|with_reducible refine Or.inl ?_|simp only [thenS,blockS]|with_reducible refine And.intro ?_ ?_|with_reducible exact True.intro|simp (dsimp:=false) only [↓gq,↓stepP,↓stepG,go_sem,c1,c2,c3,w])
        all_goals (try (first|(intro hg;simp [hg];done)|exact of_decide_eq_true rfl|(cases h;done)))
        (refine Fin.data (.inr rfl) (by simp (dsimp:=false) only [↓gq,↓stepP,↓stepG,go_sem,resL]; rfl) (by simp only [and_self]) (by simp (dsimp:=false) only [↓gq,↓stepP,↓stepG,go_sem,resP,Nat.le_refl,List.take_length]; try rfl) ?_)
        exact subD_refl _
  · have c1 : (x.state != 2) = true := by simpa using h1
    have e : adjE x a = 90 := by unfold adjE; rw [if_pos h1]
    unfold adjI
    rw [e, if_neg (by decide)]
    unfold Item.d Item.cells
    refine Runs.of (kit Try.prog) Try.func220 rfl rfl (by rw [Try.ntmps220]; exact of_decide_eq_true rfl) ?_; rw [Try.ntmps220, Try.results220]
    repeat' (first|((first|refine goA rfl fun K hK=>?_|refine goB rfl fun K hK=>?_|refine goC rfl rfl fun K hK=>?_|refine goD rfl rfl fun K hK=>?_);simp (dsimp:=false) only [↓gq,↓stepP,↓stepG,go_sem,c1])|refine Pwp.seq ?_|refine Pwp.block ?_|(refine Pwp.exit ?_;simp only [thenS,blockS,if_true,if_false,reduceIte,Nat.reduceEqDiff,Nat.add_one_ne_zero,reduceCtorEq])|(refine Pwp.skip ?_;simp only [thenS,blockS])|(refine Pwp.cond rfl True.intro (fun h=>?_) (fun h=>?_)<;>(try (cases h;done))<;>(try simp only [h]))|refine Pwp.ret ?_|(refine hK _ ?_;clear hK K)|(refine hK _ _ rfl ?_;clear hK K)|refine CallG.off ?_|with_reducible refine Or.inl ?_|simp only [thenS,blockS]|with_reducible refine And.intro ?_ ?_|with_reducible exact True.intro|simp (dsimp:=false) only [↓gq,↓stepP,↓stepG,go_sem,c1])
    all_goals (try (first|(intro hg;simp [hg];done)|exact of_decide_eq_true rfl|(cases h;done)))
    (refine Fin.data (.inr rfl) (by simp (dsimp:=false) only [↓gq,↓stepP,↓stepG,go_sem,resL]; rfl) (by simp only [and_self]) (by simp (dsimp:=false) only [↓gq,↓stepP,↓stepG,go_sem,resP,Nat.le_refl,List.take_length]; try rfl) ?_)
    exact subD_refl _
theorem run250 (k : Int) (x : Item) : Runs Try.prog 250 [pint .i64 k, .d x.d] [] (.d (about k x).d) [] := by
  unfold Item.d Item.cells
  refine Runs.of (kit Try.prog) Try.func250 rfl rfl (by rw [Try.ntmps250]; exact of_decide_eq_true rfl) ?_; rw [Try.ntmps250, Try.results250]
  repeat' (first|((first|refine goA rfl fun K hK=>?_|refine goB rfl fun K hK=>?_|refine goC rfl rfl fun K hK=>?_|refine goD rfl rfl fun K hK=>?_);simp (dsimp:=false) only [↓gq,↓stepP,↓stepG,go_sem])|refine Pwp.seq ?_|refine Pwp.block ?_|(refine Pwp.exit ?_;simp only [thenS,blockS,if_true,if_false,reduceIte,Nat.reduceEqDiff,Nat.add_one_ne_zero,reduceCtorEq])|(refine Pwp.skip ?_;simp only [thenS,blockS])|(refine Pwp.cond rfl True.intro (fun h=>?_) (fun h=>?_)<;>(try (cases h;done))<;>(try simp only [h]))|refine Pwp.ret ?_|(refine hK _ ?_;clear hK K)|(refine hK _ _ rfl ?_;clear hK K)|refine CallG.off ?_|with_reducible refine Or.inl ?_|simp only [thenS,blockS]|with_reducible refine And.intro ?_ ?_|with_reducible exact True.intro|simp (dsimp:=false) only [↓gq,↓stepP,↓stepG,go_sem])
  all_goals (try (first|(intro hg;simp [hg];done)|exact of_decide_eq_true rfl|(cases h;done)))
  (refine Fin.data (.inr rfl) (by simp (dsimp:=false) only [↓gq,↓stepP,↓stepG,go_sem,resL]; rfl) (by simp only [and_self]) (by simp (dsimp:=false) only [↓gq,↓stepP,↓stepG,go_sem,resP,Nat.le_refl,List.take_length]; try rfl) ?_)
  exact subD_refl _
end Go.Proofs.Ytdodgbhodkcckaa.Pv
end
section
set_option linter.unusedVariables false
set_option linter.unusedSimpArgs false
set_option autoImplicit false
set_option maxRecDepth 100000
namespace Go.Proofs.Ytdodgbhodkcckaa.Pv
open Go Go.RowKit
def In64 (a : Int) : Prop := -9223372036854775808 ≤ a ∧ a ≤ 9223372036854775807
theorem wrap_u (x : Int) : IntKind.u64.wrap x = x % 18446744073709551616 := by
  simp only [IntKind.wrap, IntKind.bits, IntKind.signed]; simp
theorem In64.wrap {x : Int} (h : In64 x) : IntKind.i64.wrap x = x := wrap_of h.1 h.2
end Go.Proofs.Ytdodgbhodkcckaa.Pv
end
