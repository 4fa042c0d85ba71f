/- One state told as another: fewer things, other numbers, nil as an empty row of one's own, a row that is given up as data. No program is in sight here. -/
import Derived.Test.YtdodgbhodkcckaaPvt
set_option linter.unusedVariables false
set_option linter.unusedSectionVars false
set_option linter.unusedSimpArgs false
set_option autoImplicit false
namespace Go.Proofs.Ytdodgbhodkcckaa.Pv
open Go Go.RowKit

/-- How the numbers of a new telling stand to those of the old one: ρ: the old number; τ: if it is told, the new version is 0 and the old one is this; A: rows that were nil. -/
structure Turn where
  ρ : Nat → Nat
  τ : Nat → Option Nat
  A : List Nat

mutual
def viewP (V : Turn) (h : List (Nat × PObj)) (kept : List Nat) (N : Nat) (q : PVal) : PVal → Prop
  | .dead => True
  | .d y => (match q.toD h with
    | some x => subD x y ∧ disj q.ids kept = true
    | none => False)
  | .own k ver s off len => k < N ∧ (if V.A.contains k = true then q = pnil ∧ ver = 0 ∧ off = 0 ∧ len = 0 else match V.τ k with
    | some v => ver = 0 ∧ q = .own (V.ρ k) v s off len
    | none => q = .own (V.ρ k) ver s off len)
  | .ref k j => k < N ∧ V.A.contains k = false ∧ V.τ k = none ∧ q = .ref (V.ρ k) j
  | .refE k ver s i j => k < N ∧ V.A.contains k = false ∧ V.τ k = none ∧ q = .refE (V.ρ k) ver s i j
  | .mp k => k < N ∧ V.A.contains k = false ∧ V.τ k = none ∧ q = .mp (V.ρ k)
  | .agg ps => (match q with
    | .agg qs => viewL V h kept N qs ps
    | .d (.agg ds) => viewL V h kept N (ds.map .d) ps
    | _ => False)
  | .tup ps => (match q with
    | .tup qs => viewL V h kept N qs ps
    | .d (.tup ds) => viewL V h kept N (ds.map .d) ps
    | _ => False)
  | .clo f a b => (match q with
    | .clo f' a' b' => f' = f ∧ viewL V h kept N a' a ∧ viewL V h kept N b' b
    | _ => False)
  | .ifc t p => (match q with
    | .ifc t' q' => t' = t ∧ viewP V h kept N q' p
    | _ => False)
  | .gd _ _ => False
def viewL (V : Turn) (h : List (Nat × PObj)) (kept : List Nat) (N : Nat) (qs : List PVal) : List PVal → Prop
  | [] => qs = []
  | p :: ps => (match qs with
    | [] => False
    | q :: qs => viewP V h kept N q p ∧ viewL V h kept N qs ps)
end

def viewO (V : Turn) (h : List (Nat × PObj)) (kept : List Nat) (N : Nat) (k : Nat) (o' o : PObj) : Prop := match o, o' with
  | .box ps, .box qs => V.τ k = none ∧ viewL V h kept N qs ps
  | .arr e s ver room els, .arr e' s' ver' room' els' => e' = e ∧ s' = s ∧ els' = els ∧ (room = none ∨ room' = room) ∧ (match V.τ k with
    | some v => ver = 0 ∧ ver' = v
    | none => ver' = ver)
  | .map es, .map es' => V.τ k = none ∧ es' = es
  | _, _ => False

def viewT (V : Turn) (s : St) (kept : List Nat) (N : Nat) : List (Nat × PVal) → Prop
  | [] => True
  | (i, p) :: l => viewP V s.heap kept N (s.ev (.tmp i)) p ∧ viewT V s kept N l

def viewH (V : Turn) (s : St) (kept : List Nat) (N : Nat) : List (Nat × PObj) → Prop
  | [] => True
  | (k, o) :: l => (k < N ∧ (if V.A.contains k = true then (8 ≤ k ∧ match o with | .arr _ _ 0 none [] => True | _ => False) else match find (V.ρ k) s.heap with
    | some o' => viewO V s.heap kept N k o' o
    | none => False)) ∧ viewH V s kept N l

/-- The old names under the new ones. -/
def Turn.S (V : Turn) (S : Nat → Nat → Prop) (N : Nat) : Nat → Nat → Prop := fun k v => k < N ∧ (if V.A.contains k = true then v = 0 else match V.τ k with
  | some v0 => v = 0 ∧ S (V.ρ k) v0
  | none => S (V.ρ k) v)
def Turn.φ (V : Turn) (φ : Nat → Nat → Option (Nat × Nat)) : Nat → Nat → Option (Nat × Nat) := fun k v => if V.A.contains k = true then none else match V.τ k with
  | some v0 => φ (V.ρ k) v0
  | none => φ (V.ρ k) v

section
variable {E : Env} {S : Nat → Nat → Prop} {φ : Nat → Nat → Option (Nat × Nat)} {w : World} {O O' : Nat → Prop} {h : List (Nat × PObj)} {V : Turn} {kept : List Nat} {N : Nat}

mutual
theorem viewP_rep (hobj : ∀ id o, find id h = some o → ORep w O φ id o ∧ ∀ b, blk φ id o = some b → b < w.heap.size) (hO : ∀ b, O' b → O b) (hfree : ∀ i o b, i ∉ kept → find i h = some o → blk φ i o = some b → ¬ O' b) :
    ∀ (p q : PVal) (c : Value), viewP V h kept N q p → q.und S → PRep w O φ q c → p.und (V.S S N) ∧ PRep w O' (V.φ φ) p c
  | .dead, q, c, _, _, _ => by simp only [PVal.und, PRep, and_self]
  | .d y, q, c, hv, hu, hr => by
    simp only [viewP] at hv
    split at hv
    · rename_i x hx
      simp only [PVal.und, PRep]
      refine ⟨trivial, subD_rep x y c hv.1 (toD_rep hobj hO q x c hx (fun i o b hi ho hb => hfree i o b (disj_spec hv.2 hi) ho hb) hr)⟩
    · exact hv.elim
  | .own k ver s off len, q, c, hv, hu, hr => by
    simp only [viewP] at hv
    obtain ⟨hk, hv⟩ := hv
    simp only [PVal.und, PRep, Turn.S, Turn.φ]
    split at hv
    · rename_i hA
      obtain ⟨rfl, rfl, rfl, rfl⟩ := hv
      simp only [PRep, DRep] at hr
      rw [if_pos hA, if_pos hA]
      exact ⟨⟨hk, rfl⟩, .inl ⟨rfl, rfl, rfl, hr⟩⟩
    · rename_i hA
      split at hv
      · rename_i v hτ
        obtain ⟨rfl, rfl⟩ := hv
        simp only [PRep, PVal.und] at hr hu
        simp only [hk, hA, hτ, hu, Bool.false_eq_true, if_false, true_and, and_self]
        exact hr
      · rename_i hτ
        subst hv
        simp only [PRep, PVal.und] at hr hu
        simp only [hk, hA, hτ, hu, Bool.false_eq_true, if_false, true_and]
        exact hr
  | .ref k j, q, c, hv, hu, hr => by
    simp only [viewP] at hv
    obtain ⟨hk, hA, hτ, rfl⟩ := hv
    simp only [PVal.und, PRep, Turn.S, Turn.φ] at hu hr ⊢
    simp only [hk, hA, hτ, hu, Bool.false_eq_true, if_false, true_and]
    exact hr
  | .refE k ver s i j, q, c, hv, hu, hr => by
    simp only [viewP] at hv
    obtain ⟨hk, hA, hτ, rfl⟩ := hv
    simp only [PVal.und, PRep, Turn.S, Turn.φ] at hu hr ⊢
    simp only [hk, hA, hτ, hu, Bool.false_eq_true, if_false, true_and]
    exact hr
  | .mp k, q, c, hv, hu, hr => by
    simp only [viewP] at hv
    obtain ⟨hk, hA, hτ, rfl⟩ := hv
    simp only [PVal.und, PRep, Turn.S, Turn.φ] at hu hr ⊢
    simp only [hk, hA, hτ, hu, Bool.false_eq_true, if_false, true_and]
    exact hr
  | .agg ps, q, c, hv, hu, hr => by
    simp only [viewP] at hv
    split at hv
    · simp only [PVal.und, PRep] at hu hr ⊢
      obtain ⟨cs, e, hr⟩ := hr
      obtain ⟨h1, h2⟩ := viewL_rep hobj hO hfree ps _ cs hv hu hr
      exact ⟨h1, cs, e, h2⟩
    · simp only [PRep, DRep, PVal.und] at hr ⊢
      obtain ⟨cs, e, hr⟩ := hr
      obtain ⟨h1, h2⟩ := viewL_rep hobj hO hfree ps _ cs hv (undL_ds _ _) (PRepL.ds hr)
      exact ⟨h1, cs, e, h2⟩
    · exact hv.elim
  | .tup ps, q, c, hv, hu, hr => by
    simp only [viewP] at hv
    split at hv
    · simp only [PVal.und, PRep] at hu hr ⊢
      obtain ⟨cs, e, hr⟩ := hr
      obtain ⟨h1, h2⟩ := viewL_rep hobj hO hfree ps _ cs hv hu hr
      exact ⟨h1, cs, e, h2⟩
    · simp only [PRep, DRep, PVal.und] at hr ⊢
      obtain ⟨cs, e, hr⟩ := hr
      obtain ⟨h1, h2⟩ := viewL_rep hobj hO hfree ps _ cs hv (undL_ds _ _) (PRepL.ds hr)
      exact ⟨h1, cs, e, h2⟩
    · exact hv.elim
  | .clo f a b, q, c, hv, hu, hr => by
    simp only [viewP] at hv
    split at hv
    · obtain ⟨rfl, ha, hb⟩ := hv
      simp only [PVal.und, PRep] at hu hr ⊢
      obtain ⟨x, y, e, r1, r2⟩ := hr
      obtain ⟨h1, h2⟩ := viewL_rep hobj hO hfree a _ x ha hu.1 r1
      obtain ⟨h3, h4⟩ := viewL_rep hobj hO hfree b _ y hb hu.2 r2
      exact ⟨⟨h1, h3⟩, x, y, e, h2, h4⟩
    · exact hv.elim
  | .ifc t p, q, c, hv, hu, hr => by
    simp only [viewP] at hv
    split at hv
    · obtain ⟨rfl, hv⟩ := hv
      simp only [PVal.und, PRep] at hu hr ⊢
      obtain ⟨x, e, hr⟩ := hr
      obtain ⟨h1, h2⟩ := viewP_rep hobj hO hfree p _ x hv hu hr
      exact ⟨h1, x, e, h2⟩
    · exact hv.elim
  | .gd _ _, q, c, hv, _, _ => by simp only [viewP] at hv
theorem viewL_rep (hobj : ∀ id o, find id h = some o → ORep w O φ id o ∧ ∀ b, blk φ id o = some b → b < w.heap.size) (hO : ∀ b, O' b → O b) (hfree : ∀ i o b, i ∉ kept → find i h = some o → blk φ i o = some b → ¬ O' b) :
    ∀ (ps qs : List PVal) (cs : List Value), viewL V h kept N qs ps → undL S qs → PRepL w O φ qs cs → undL (V.S S N) ps ∧ PRepL w O' (V.φ φ) ps cs
  | [], qs, cs, hv, _, hr => by simp only [viewL] at hv; subst hv; simp only [PRepL, undL] at *; exact ⟨trivial, hr⟩
  | p :: ps, qs, cs, hv, hu, hr => by
    simp only [viewL] at hv
    split at hv
    · exact hv.elim
    · simp only [undL, PRepL] at hu hr ⊢
      obtain ⟨c, cs', e, r1, r2⟩ := hr
      obtain ⟨h1, h2⟩ := viewP_rep hobj hO hfree p _ c hv.1 hu.1 r1
      obtain ⟨h3, h4⟩ := viewL_rep hobj hO hfree ps _ cs' hv.2 hu.2 r2
      exact ⟨⟨h1, h3⟩, c, cs', e, h2, h4⟩
end
end

theorem viewT_get {V : Turn} {s : St} {kept : List Nat} {N : Nat} : ∀ {l : List (Nat × PVal)} {i : Nat} {p : PVal}, viewT V s kept N l → find i l = some p → viewP V s.heap kept N (s.ev (.tmp i)) p
  | [], i, p, _, hf => by simp [find] at hf
  | (j, x) :: l, i, p, h, hf => by
    simp only [viewT] at h
    simp only [find] at hf
    split at hf
    · rename_i e; subst e; cases hf; exact h.1
    · exact viewT_get h.2 hf
theorem viewH_get {V : Turn} {s : St} {kept : List Nat} {N : Nat} : ∀ {l : List (Nat × PObj)} {k : Nat} {o : PObj}, viewH V s kept N l → find k l = some o → k < N ∧ (if V.A.contains k = true then (8 ≤ k ∧ match o with | .arr _ _ 0 none [] => True | _ => False) else match find (V.ρ k) s.heap with
    | some o' => viewO V s.heap kept N k o' o
    | none => False)
  | [], i, p, _, hf => by simp [find] at hf
  | (j, x) :: l, i, p, h, hf => by
    simp only [viewH] at h
    simp only [find] at hf
    split at hf
    · rename_i e; subst e; cases hf; exact h.1
    · exact viewH_get h.2 hf

/-- The old numbers of the objects that are kept. -/
def keptOf (V : Turn) (t : St) : List Nat := (t.heap.map (·.1)).map V.ρ

/-- Numbers below 8 stay as they are; no two are turned into one. -/
def turnOK (V : Turn) (ks : List Nat) : Bool := (List.range 8).all (fun k => V.ρ k == k && V.τ k == none && !V.A.contains k) && ks.all fun k => V.A.contains k || ks.all fun k' => V.A.contains k' || k == k' || V.ρ k != V.ρ k'

theorem view_run {E : Env} {S : Nat → Nat → Prop} {φ : Nat → Nat → Option (Nat × Nat)} {s t : St} {a : Act} {w : World} (V : Turn) (hr : Rst E S φ s a w) (hinj : ∀ k k', k ∈ t.heap.map (·.1) → k' ∈ t.heap.map (·.1) → V.A.contains k = false → V.A.contains k' = false → V.ρ k = V.ρ k' → k = k')
    (hh : viewH V s (keptOf V t) t.next t.heap) (ht : viewT V s (keptOf V t) t.next t.tmps) : Rst E (V.S S t.next) (V.φ φ) t a w := by
  have hfacts : ∀ k o, find k t.heap = some o → V.A.contains k = false → k < t.next ∧ ∃ o', find (V.ρ k) s.heap = some o' ∧ viewO V s.heap (keptOf V t) t.next k o' o := by
    intro k o ho hA
    obtain ⟨h1, h2⟩ := viewH_get hh ho
    rw [hA] at h2
    simp only [Bool.false_eq_true, if_false] at h2
    split at h2
    · rename_i o' ho'; exact ⟨h1, o', ho', h2⟩
    · exact h2.elim
  have hnil : ∀ k o, find k t.heap = some o → V.A.contains k = true → k < t.next ∧ ∃ e sz, o = .arr e sz 0 none [] := by
    intro k o ho hA
    obtain ⟨h1, h2⟩ := viewH_get hh ho
    rw [hA] at h2
    simp only [if_true] at h2
    obtain ⟨_, h2⟩ := h2
    split at h2
    · exact ⟨h1, _, _, rfl⟩
    · exact h2.elim
  have hver : ∀ k o o', viewO V s.heap (keptOf V t) t.next k o' o → (match V.τ k with | some v => o.ver = 0 ∧ o'.ver = v | none => o'.ver = o.ver) := by
    intro k o o' hv
    unfold viewO at hv
    split at hv
    · rw [hv.1]; rfl
    · exact hv.2.2.2.2
    · rw [hv.1]; rfl
    · exact hv.elim
  have hblk : ∀ k o o', V.A.contains k = false → viewO V s.heap (keptOf V t) t.next k o' o → blk (V.φ φ) k o = blk φ (V.ρ k) o' := by
    intro k o o' hA hv
    unfold viewO at hv
    split at hv
    · simp only [blk, Turn.φ, hA, hv.1, Bool.false_eq_true, if_false]
    · obtain ⟨_, _, _, _, hv⟩ := hv
      simp only [blk, Turn.φ, hA, Bool.false_eq_true, if_false]
      split at hv
      · rename_i v hτ; obtain ⟨rfl, rfl⟩ := hv; simp only [hτ]
      · rename_i hτ; subst hv; simp only [hτ]
    · simp only [blk, Turn.φ, hA, hv.1, Bool.false_eq_true, if_false]
    · exact hv.elim
  have hblkA : ∀ k o, find k t.heap = some o → V.A.contains k = true → blk (V.φ φ) k o = none := by
    intro k o ho hA
    obtain ⟨_, e, sz, rfl⟩ := hnil k o ho hA
    simp only [blk, Turn.φ, hA, if_true, Option.map_none]
  have hO : ∀ b, Held E (V.φ φ) t.heap b → Held E φ s.heap b := by
    rintro b (hb | ⟨k, o, ho, hb⟩)
    · exact .inl hb
    · cases hA : V.A.contains k with
      | true => rw [hblkA k o ho hA] at hb; cases hb
      | false =>
        obtain ⟨_, o', ho', hv⟩ := hfacts k o ho hA
        exact .inr ⟨_, o', ho', by rw [← hblk k o o' hA hv]; exact hb⟩
  have hfree : ∀ i o b, i ∉ keptOf V t → find i s.heap = some o → blk φ i o = some b → ¬ Held E (V.φ φ) t.heap b := by
    rintro i o b hi ho hb (hx | ⟨k, o2, ho2, hb2⟩)
    · exact hr.notOut ho hb hx
    · cases hA : V.A.contains k with
      | true => rw [hblkA k o2 ho2 hA] at hb2; cases hb2
      | false =>
        obtain ⟨_, o', ho', hv⟩ := hfacts k o2 ho2 hA
        rw [hblk k o2 o' hA hv] at hb2
        have := hr.inj _ _ _ _ b ho ho' hb hb2
        exact hi (by rw [this]; exact List.mem_map.2 ⟨k, List.mem_map.2 ⟨(k, o2), mem_of_find ho2, rfl⟩, rfl⟩)
  refine { os := hr.os, tape := hr.tape, output := hr.output, size := hr.size, old := hr.old, defers := hr.defers, tmps := ?_, objs := ?_, inj := ?_ }
  · intro i p hp
    have he := hr.ev (.tmp i)
    exact viewP_rep hr.objs' hO hfree p _ _ (viewT_get ht hp) he.1 he.2
  · intro k o ho
    cases hA : V.A.contains k with
    | true =>
      obtain ⟨h1, e, sz, rfl⟩ := hnil k o ho hA
      refine ⟨?_, ?_, by simp only [PObj.und], ?_, ?_⟩
      · simp only [Turn.S]; rw [if_pos hA]; exact ⟨h1, rfl⟩
      · intro v hv; simp only [Turn.S, hA, if_true] at hv; simp [PObj.ver, hv.2]
      · intro b hb; rw [hblkA k _ ho hA] at hb; cases hb
      · simp only [ORep, Turn.φ]; rw [if_pos hA]; exact .inl ⟨rfl, trivial, by simp⟩
    | false =>
      obtain ⟨h1, o', ho', hv⟩ := hfacts k o ho hA
      obtain ⟨g1, g2, g3, g4, g5⟩ := hr.objs _ o' ho'
      have hvr := hver k o o' hv
      refine ⟨?_, ?_, ?_, ?_, ?_⟩
      · simp only [Turn.S, h1, hA, Bool.false_eq_true, if_false, true_and]
        split at hvr
        · rename_i v hτ; (try simp only [hτ]); exact ⟨hvr.1, hvr.2 ▸ g1⟩
        · rename_i hτ; (try simp only [hτ]); exact hvr ▸ g1
      · intro v hv2
        simp only [Turn.S, hA, Bool.false_eq_true, if_false] at hv2
        split at hvr
        · rename_i v0 hτ; simp only [hτ] at hv2; omega
        · rename_i hτ; simp only [hτ] at hv2; rw [← hvr]; exact g2 v hv2.2
      · cases o with
        | box ps =>
          cases o' with
          | box qs =>
            simp only [viewO] at hv
            simp only [PObj.und, ORep] at g3 g5 ⊢
            obtain ⟨b, m, cs, ty, q1, q2, q3⟩ := g5
            exact (viewL_rep hr.objs' hO hfree ps qs cs hv.2 g3 q3).1
          | _ => simp [viewO] at hv
        | _ => simp only [PObj.und]
      · intro b hb; rw [hblk k o o' hA hv] at hb; exact g4 b hb
      · cases o with
        | box ps =>
          cases o' with
          | box qs =>
            simp only [viewO] at hv
            simp only [PObj.und, ORep] at g3 g5 ⊢
            obtain ⟨b, m, cs, ty, q1, q2, q3⟩ := g5
            refine ⟨b, m, cs, ty, ?_, q2, (viewL_rep hr.objs' hO hfree ps qs cs hv.2 g3 q3).2⟩
            simp only [Turn.φ, hA, hv.1, Bool.false_eq_true, if_false]; exact q1
          | _ => simp [viewO] at hv
        | arr e sz ver room els =>
          cases o' with
          | arr e' sz' ver' room' els' =>
            simp only [viewO] at hv
            obtain ⟨rfl, rfl, rfl, hroom, hv⟩ := hv
            have hφ : V.φ φ k ver = φ (V.ρ k) ver' := by
              simp only [Turn.φ, hA, Bool.false_eq_true, if_false]
              split at hv
              · rename_i v hτ; obtain ⟨rfl, rfl⟩ := hv; simp only [hτ]
              · rename_i hτ; subst hv; simp only [hτ]
            simp only [ORep] at g5 ⊢
            rw [hφ]
            rcases g5 with ⟨q1, q2, q3⟩ | ⟨b, m, cs, q1, q2, q3, q4, q5, q6, q7⟩
            · refine .inl ⟨q1, q2, fun n hn => ?_⟩
              rcases hroom with hx | hx
              · rw [hx] at hn; cases hn
              · exact q3 n (by rw [hx]; exact hn)
            · refine .inr ⟨b, m, cs, q1, q2, q3, fun n hn => ?_, q5, q6, DRepE.keep (Keeps.same _ w) (fun b _ hb => hO b hb) rfl _ _ q7⟩
              rcases hroom with hx | hx
              · rw [hx] at hn; cases hn
              · exact q4 n (by rw [hx]; exact hn)
          | _ => simp [viewO] at hv
        | map es =>
          cases o' with
          | map es' =>
            simp only [viewO] at hv
            obtain ⟨hτ, rfl⟩ := hv
            simp only [ORep] at g5 ⊢
            obtain ⟨b, m, ar, ck, q1, q2, q3, q4⟩ := g5
            refine ⟨b, m, ar, ck, ?_, q2, DRepL.keep (Keeps.same _ w) (fun b _ hb => hO b hb) _ _ q3, DRepL.keep (Keeps.same _ w) (fun b _ hb => hO b hb) _ _ q4⟩
            simp only [Turn.φ, hA, hτ, Bool.false_eq_true, if_false]; exact q1
          | _ => simp [viewO] at hv
  · intro i j oi oj b hi hj hbi hbj
    cases hAi : V.A.contains i with
    | true => rw [hblkA i oi hi hAi] at hbi; cases hbi
    | false =>
      cases hAj : V.A.contains j with
      | true => rw [hblkA j oj hj hAj] at hbj; cases hbj
      | false =>
        obtain ⟨hi1, oi', hi2, hi3⟩ := hfacts i oi hi hAi
        obtain ⟨hj1, oj', hj2, hj3⟩ := hfacts j oj hj hAj
        rw [hblk i oi oi' hAi hi3] at hbi
        rw [hblk j oj oj' hAj hj3] at hbj
        exact hinj i j (List.mem_map.2 ⟨_, mem_of_find hi, rfl⟩) (List.mem_map.2 ⟨_, mem_of_find hj, rfl⟩) hAi hAj (hr.inj _ _ _ _ b hi2 hj2 hbi hbj)

theorem turnOK_spec {V : Turn} {ks : List Nat} (h : turnOK V ks = true) : (∀ k, k < 8 → V.ρ k = k ∧ V.τ k = none ∧ V.A.contains k = false) ∧ ∀ k k', k ∈ ks → k' ∈ ks → V.A.contains k = false → V.A.contains k' = false → V.ρ k = V.ρ k' → k = k' := by
  simp only [turnOK, Bool.and_eq_true, List.all_eq_true, List.mem_range, Bool.or_eq_true, beq_iff_eq, bne_iff_ne, Bool.not_eq_true'] at h
  refine ⟨fun k hk => ?_, fun k k' hk hk' hA hA' e => ?_⟩
  · obtain ⟨⟨h1, h2⟩, h3⟩ := h.1 k hk
    exact ⟨h1, h2, h3⟩
  · rcases h.2 k hk with h1 | h1
    · rw [hA] at h1; cases h1
    · rcases h1 k' hk' with (h2 | h2) | h2
      · rw [hA'] at h2; cases h2
      · exact h2
      · exact absurd e h2

theorem since_view {S S0 : Nat → Nat → Prop} {φ φ0 : Nat → Nat → Option (Nat × Nat)} {V : Turn} {N : Nat} (h8 : ∀ k, k < 8 → V.ρ k = k ∧ V.τ k = none ∧ V.A.contains k = false) (hN : 8 ≤ N) (h : Since S0 φ0 S φ) : Since S0 φ0 (V.S S N) (V.φ φ) := by
  refine ⟨fun k v hs => ?_, fun k v hs hk => ?_, h.zero⟩
  · have hk := h.zero k v hs
    obtain ⟨e1, e2, e3⟩ := h8 k hk
    obtain ⟨g1, g2⟩ := h.keep k v hs
    simp only [Turn.S, Turn.φ, e1, e2, e3, Bool.false_eq_true, if_false]
    exact ⟨⟨by omega, g1⟩, g2⟩
  · obtain ⟨e1, e2, e3⟩ := h8 k hk
    simp only [Turn.S, e1, e2, e3, Bool.false_eq_true, if_false] at hs
    exact h.low k v hs.2 hk

/-- A state told otherwise. -/
theorem Sub.view {n : Nat} {s t : St} (V : Turn) (hN : 8 ≤ t.next) (hok : turnOK V (t.heap.map (·.1)) = true) (hh : viewH V s (keptOf V t) t.next t.heap) (ht : viewT V s (keptOf V t) t.next t.tmps) : Sub n s t := by
  intro E S0 φ0 a w hs
  obtain ⟨h1, h2, φ, S, h3, h4, h5⟩ := hs
  obtain ⟨q1, q2⟩ := turnOK_spec hok
  exact ⟨h1, hN, V.φ φ, V.S S t.next, view_run V h3 q2 hh ht, fun k v hv => hv.1, since_view q1 hN h5⟩

end Go.Proofs.Ytdodgbhodkcckaa.Pv
