/- Calls: numbers turned, and the state behind a call. No program is in sight here. -/
import Derived.Test.YtdodgbhodkcckaaPvl
set_option linter.unusedVariables false
set_option linter.unusedSectionVars false
set_option linter.unusedSimpArgs false
set_option autoImplicit false
namespace Go.Proofs.Ytdodgbhodkcckaa.Pv
open Go Go.RowKit

/-! ### Numbers turned -/
mutual
theorem shift_id : ∀ p : PVal, p.shift (fun k => k) = p
  | .agg ps | .tup ps => by simp only [PVal.shift, shiftL_id ps]
  | .clo _ a b => by simp only [PVal.shift, shiftL_id a, shiftL_id b]
  | .ifc _ p | .gd _ p => by simp only [PVal.shift, shift_id p]
  | .d _ | .ref _ _ | .refE _ _ _ _ _ | .own _ _ _ _ _ | .mp _ | .dead => by simp only [PVal.shift]
theorem shiftL_id : ∀ ps : List PVal, shiftL (fun k => k) ps = ps
  | [] => by simp only [shiftL]
  | p :: ps => by simp only [shiftL, shift_id p, shiftL_id ps]
end

section
variable {w : World} {O : Nat → Prop} {φ1 φ2 : Nat → Nat → Option (Nat × Nat)} {ρ σ : Nat → Nat} {n : Nat → Nat → Prop}
mutual
theorem PRep.turn (hφ : ∀ k v, n k v → φ2 (σ k) v = φ1 (ρ k) v) : ∀ (p : PVal) (c : Value), p.und n → PRep w O φ1 (p.shift ρ) c → PRep w O φ2 (p.shift σ) c
  | .d x, c, _, h => by simp only [PVal.shift, PRep] at h ⊢; exact h
  | .agg ps, c, hu, h => by
    simp only [PVal.shift, PRep, PVal.und] at h hu ⊢
    obtain ⟨cs, e, h⟩ := h
    exact ⟨cs, e, PRepL.turn hφ ps cs hu h⟩
  | .tup ps, c, hu, h => by
    simp only [PVal.shift, PRep, PVal.und] at h hu ⊢
    obtain ⟨cs, e, h⟩ := h
    exact ⟨cs, e, PRepL.turn hφ ps cs hu h⟩
  | .ref id k, c, hu, h => by simp only [PVal.shift, PRep, PVal.und] at h hu ⊢; rw [hφ _ _ hu]; exact h
  | .refE id ver s i k, c, hu, h => by simp only [PVal.shift, PRep, PVal.und] at h hu ⊢; rw [hφ _ _ hu]; exact h
  | .own id ver s off len, c, hu, h => by simp only [PVal.shift, PRep, PVal.und] at h hu ⊢; rw [hφ _ _ hu]; exact h
  | .mp id, c, hu, h => by simp only [PVal.shift, PRep, PVal.und] at h hu ⊢; rw [hφ _ _ hu]; exact h
  | .clo f a b, c, hu, h => by
    simp only [PVal.shift, PRep, PVal.und] at h hu ⊢
    obtain ⟨x, y, e, h1, h2⟩ := h
    exact ⟨x, y, e, PRepL.turn hφ a x hu.1 h1, PRepL.turn hφ b y hu.2 h2⟩
  | .ifc t p, c, hu, h => by
    simp only [PVal.shift, PRep, PVal.und] at h hu ⊢
    obtain ⟨x, e, h⟩ := h
    exact ⟨x, e, PRep.turn hφ p x hu h⟩
  | .gd b p, c, hu, h => by
    simp only [PVal.shift, PRep, PVal.und] at h hu ⊢
    exact ⟨fun e => PRep.turn hφ p c (hu e) (h.1 e), h.2⟩
  | .dead, _, _, _ => by simp only [PVal.shift, PRep]
theorem PRepL.turn (hφ : ∀ k v, n k v → φ2 (σ k) v = φ1 (ρ k) v) : ∀ (ps : List PVal) (cs : List Value), undL n ps → PRepL w O φ1 (shiftL ρ ps) cs → PRepL w O φ2 (shiftL σ ps) cs
  | [], cs, _, h => by simp only [shiftL, PRepL] at h ⊢; exact h
  | p :: ps, cs, hu, h => by
    simp only [shiftL, PRepL, undL] at h hu ⊢
    obtain ⟨c, cs', e, h1, h2⟩ := h
    exact ⟨c, cs', e, PRep.turn hφ p c hu.1 h1, PRepL.turn hφ ps cs' hu.2 h2⟩
end
end

section
variable {ρ : Nat → Nat} {n m : Nat → Nat → Prop}
mutual
theorem und_shift (h : ∀ k v, n k v → m (ρ k) v) : ∀ p : PVal, p.und n → (p.shift ρ).und m
  | .agg ps, hu | .tup ps, hu => by simp only [PVal.shift, PVal.und] at hu ⊢; exact undL_shift h ps hu
  | .clo _ a b, hu => by simp only [PVal.shift, PVal.und] at hu ⊢; exact ⟨undL_shift h a hu.1, undL_shift h b hu.2⟩
  | .ifc _ p, hu => by simp only [PVal.shift, PVal.und] at hu ⊢; exact und_shift h p hu
  | .gd _ p, hu => by simp only [PVal.shift, PVal.und] at hu ⊢; exact fun e => und_shift h p (hu e)
  | .ref _ _, hu | .refE _ _ _ _ _, hu | .own _ _ _ _ _, hu | .mp _, hu => by simp only [PVal.shift, PVal.und] at hu ⊢; exact h _ _ hu
  | .d _, _ | .dead, _ => by simp only [PVal.shift, PVal.und]
theorem undL_shift (h : ∀ k v, n k v → m (ρ k) v) : ∀ ps : List PVal, undL n ps → undL m (shiftL ρ ps)
  | [], _ => by simp only [shiftL, undL]
  | p :: ps, hu => by simp only [shiftL, undL] at hu ⊢; exact ⟨und_shift h p hu.1, undL_shift h ps hu.2⟩
theorem und_unshift (h : ∀ k v, m (ρ k) v → n k v) : ∀ p : PVal, (p.shift ρ).und m → p.und n
  | .agg ps, hu | .tup ps, hu => by simp only [PVal.shift, PVal.und] at hu ⊢; exact undL_unshift h ps hu
  | .clo _ a b, hu => by simp only [PVal.shift, PVal.und] at hu ⊢; exact ⟨undL_unshift h a hu.1, undL_unshift h b hu.2⟩
  | .ifc _ p, hu => by simp only [PVal.shift, PVal.und] at hu ⊢; exact und_unshift h p hu
  | .gd _ p, hu => by simp only [PVal.shift, PVal.und] at hu ⊢; exact fun e => und_unshift h p (hu e)
  | .ref _ _, hu | .refE _ _ _ _ _, hu | .own _ _ _ _ _, hu | .mp _, hu => by simp only [PVal.shift, PVal.und] at hu ⊢; exact h _ _ hu
  | .d _, _ | .dead, _ => by simp only [PVal.und]
theorem undL_unshift (h : ∀ k v, m (ρ k) v → n k v) : ∀ ps : List PVal, undL m (shiftL ρ ps) → undL n ps
  | [], _ => by simp only [undL]
  | p :: ps, hu => by simp only [shiftL, undL] at hu ⊢; exact ⟨und_unshift h p hu.1, undL_unshift h ps hu.2⟩
end
end

theorem ver_shift (ρ : Nat → Nat) (o : PObj) : (o.shift ρ).ver = o.ver := by cases o <;> rfl
theorem blk_shift (φ : Nat → Nat → Option (Nat × Nat)) (i : Nat) (ρ : Nat → Nat) (o : PObj) : blk φ i (o.shift ρ) = blk φ i o := by cases o <;> rfl
theorem obj_shift_id (o : PObj) : o.shift (fun k => k) = o := by cases o <;> simp only [PObj.shift, shiftL_id]
theorem blk_turn {φ1 φ2 : Nat → Nat → Option (Nat × Nat)} {i j : Nat} {o : PObj} (h : φ2 i o.ver = φ1 j o.ver) : blk φ2 i o = blk φ1 j o := by
  cases o <;> simp only [blk, PObj.ver] at * <;> rw [h]
theorem obj_und_shift {ρ : Nat → Nat} {n m : Nat → Nat → Prop} (h : ∀ k v, n k v → m (ρ k) v) {o : PObj} (hu : o.und n) : (o.shift ρ).und m := by
  cases o <;> simp only [PObj.shift, PObj.und] at hu ⊢; exact undL_shift h _ hu
theorem obj_und_unshift {ρ : Nat → Nat} {n m : Nat → Nat → Prop} (h : ∀ k v, m (ρ k) v → n k v) {o : PObj} (hu : (o.shift ρ).und m) : o.und n := by
  cases o <;> simp only [PObj.shift, PObj.und] at hu ⊢; exact undL_unshift h _ hu

theorem ORep.turn {w : World} {O : Nat → Prop} {φ1 φ2 : Nat → Nat → Option (Nat × Nat)} {ρ σ : Nat → Nat} {n : Nat → Nat → Prop} (hφ : ∀ k v, n k v → φ2 (σ k) v = φ1 (ρ k) v) {k : Nat} {o : PObj} (hk : n k o.ver) (hu : o.und n)
    (h : ORep w O φ1 (ρ k) (o.shift ρ)) : ORep w O φ2 (σ k) (o.shift σ) := by
  cases o with
  | box ps =>
    simp only [PObj.shift, ORep, PObj.und, PObj.ver] at *
    obtain ⟨b, m, cs, ty, h1, h2, h3⟩ := h
    exact ⟨b, m, cs, ty, (hφ _ _ hk).trans h1, h2, PRepL.turn hφ ps cs hu h3⟩
  | arr e s ver room els => simp only [PObj.shift, ORep, PObj.und, PObj.ver] at *; rw [hφ _ _ hk]; exact h
  | map es => simp only [PObj.shift, ORep, PObj.und, PObj.ver] at *; rw [hφ _ _ hk]; exact h

theorem find_shiftH (ρ : Nat → Nat) : ∀ (h : List (Nat × PObj)) (i : Nat) (o : PObj), find i (shiftH ρ h) = some o → ∃ k o', find k h = some o' ∧ i = ρ k ∧ o = o'.shift ρ
  | [], i, o, hf => by simp [shiftH, find] at hf
  | (id, x) :: h, i, o, hf => by
    simp only [shiftH, find] at hf
    split at hf
    · rename_i e; cases hf; exact ⟨id, x, by simp [find], e, rfl⟩
    · rename_i e
      obtain ⟨k, o', h1, h2, h3⟩ := find_shiftH ρ h i o hf
      refine ⟨k, o', ?_, h2, h3⟩
      simp only [find]; rw [if_neg (fun ek => e (by rw [h2, ek]))]; exact h1

theorem shiftH_find {ρ : Nat → Nat} {n : Nat → Prop} (hρ : ∀ k k', n k → n k' → ρ k = ρ k' → k = k') : ∀ (h : List (Nat × PObj)) (k : Nat) (o : PObj), (∀ i x, find i h = some x → n i) → find k h = some o → find (ρ k) (shiftH ρ h) = some (o.shift ρ)
  | [], k, o, hn, hf => by simp [find] at hf
  | (id, x) :: h, k, o, hn, hf => by
    have hid : n id := hn id x (by simp [find])
    have hkn : n k := hn k o hf
    simp only [shiftH, find] at hf ⊢
    split at hf
    · rename_i e; subst e; cases hf; simp
    · rename_i e
      rw [if_neg (fun ek => e (hρ _ _ hkn hid ek))]
      have key : ∀ (l : List (Nat × PObj)), find k l = some o → find (ρ k) (shiftH ρ l) = some (o.shift ρ) ∨ ∃ j y, (j, y) ∈ l ∧ ρ k = ρ j ∧ k ≠ j := by
        intro l
        induction l with
        | nil => intro h; simp [find] at h
        | cons a l ih =>
          obtain ⟨j, y⟩ := a
          intro hf
          simp only [shiftH, find] at hf ⊢
          by_cases ej : ρ k = ρ j
          · by_cases ek : k = j
            · subst ek; simp at hf; subst hf; simp
            · exact .inr ⟨j, y, by simp, ej, ek⟩
          · have ek : ¬ k = j := fun e => ej (by rw [e])
            simp only [ej, ek, if_false] at hf ⊢
            rcases ih hf with h1 | ⟨j', y', h1, h2, h3⟩
            · exact .inl h1
            · exact .inr ⟨j', y', by simp [h1], h2, h3⟩
      rcases key h hf with h1 | ⟨j, y, h1, h2, h3⟩
      · exact h1
      · exfalso
        have hex : ∀ (l : List (Nat × PObj)) , (j, y) ∈ l → ∃ z, find j l = some z := by
          intro l
          induction l with
          | nil => intro h; simp at h
          | cons a l ih =>
            obtain ⟨j', y'⟩ := a
            intro hm
            simp only [find]
            by_cases e : j = j'
            · exact ⟨y', by simp [e]⟩
            · rw [if_neg e]
              rcases List.mem_cons.1 hm with h | h
              · simp only [Prod.mk.injEq] at h; exact absurd h.1 e
              · exact ih h
        obtain ⟨z, hz⟩ := hex ((id, x) :: h) (by simp [h1])
        exact h3 (hρ _ _ hkn (hn j z hz) h2)

theorem find_updAll : ∀ (l h : List (Nat × PObj)) (i : Nat), (l.map (·.1)).Nodup → find i (updAll l h) = match find i l with | some o => some o | none => find i h
  | [], h, i, _ => by simp [updAll, find]
  | (id, o) :: l, h, i, hn => by
    simp only [List.map_cons, List.nodup_cons] at hn
    simp only [updAll]
    rw [find_updAll l _ i hn.2]
    by_cases e : i = id
    · subst e
      have : find i l = none := by
        cases hf : find i l with
        | none => rfl
        | some x =>
          exfalso; apply hn.1
          clear hn
          induction l with
          | nil => simp [find] at hf
          | cons a l ih =>
            obtain ⟨j, y⟩ := a
            simp only [find] at hf
            split at hf
            · rename_i e; simp [e]
            · simp only [List.map_cons, List.mem_cons]; exact .inr (ih hf)
      rw [this]
      simp [find, find_upd_same]
    · simp only [find, e, if_false]
      cases find i l with
      | some x => rfl
      | none => simp [find_upd_other e]

/-- Data that tells less. -/
theorem subV_rep {w : World} {O : Nat → Prop} {x c : Value} {y : D} (h : subV x y) (hr : c = x) : DRep w O y c := by
  subst hr
  unfold subV at h
  split at h
  · subst h; simp only [DRep]; exact ⟨none, 0, by simp, by simp, by simp⟩
  · subst h; simp only [DRep]
mutual
theorem subD_rep {w : World} {O : Nat → Prop} : ∀ (x y : D) (c : Value), subD x y → DRep w O x c → DRep w O y c
  | .agg xs, y, c, h, hr => by
    simp only [subD] at h
    split at h
    · simp only [DRep] at hr ⊢
      obtain ⟨cs, e, hr⟩ := hr
      exact ⟨cs, e, subL_rep xs _ cs h hr⟩
    · exact h.elim
  | .tup xs, y, c, h, hr => by
    simp only [subD] at h
    split at h
    · simp only [DRep] at hr ⊢
      obtain ⟨cs, e, hr⟩ := hr
      exact ⟨cs, e, subL_rep xs _ cs h hr⟩
    · exact h.elim
  | .v x, y, c, h, hr => by simp only [subD] at h; simp only [DRep] at hr; exact subV_rep h hr
  | .slc s es, y, c, h, hr => by simp only [subD] at h; subst h; exact hr
  | .ifc t p, y, c, h, hr => by simp only [subD] at h; subst h; exact hr
  | .fn f a b, y, c, h, hr => by simp only [subD] at h; subst h; exact hr
  | .ptr cs, y, c, h, hr => by simp only [subD] at h; subst h; exact hr
theorem subL_rep {w : World} {O : Nat → Prop} : ∀ (xs ys : List D) (cs : List Value), subL xs ys → DRepL w O xs cs → DRepL w O ys cs
  | [], ys, cs, h, hr => by simp only [subL] at h; subst h; exact hr
  | x :: xs, ys, cs, h, hr => by
    simp only [subL] at h
    split at h
    · exact h.elim
    · simp only [DRepL] at hr ⊢
      obtain ⟨c, cs', e, h1, h2⟩ := hr
      exact ⟨c, cs', e, subD_rep x _ c h.1 h1, subL_rep xs _ cs' h.2 h2⟩
end

end Go.Proofs.Ytdodgbhodkcckaa.Pv
