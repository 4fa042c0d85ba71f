/- Operations that compute, the rest of them, and all in one. No program is in sight here. -/
import Derived.Test.YtdodgbhodkcckaaPvg
set_option linter.unusedVariables false
set_option linter.unusedSimpArgs false
set_option autoImplicit false
namespace Go.Proofs.Ytdodgbhodkcckaa.Pv
open Go Go.RowKit

section
variable {P : Program} {T : Nat → Option TI} {eqt : Nat → Option (List CK)} (hk : Kit P T eqt) {w : World} {O : Nat → Prop} {φ : Nat → Nat → Option (Nat × Nat)}

include hk in
theorem indexAddrP_run {t : Nat} {n : Nat → Nat → Prop} {x ix p : PVal} {pre : Prop} {c ci : Value} (hl : indexAddrP T t x ix = some (p, pre)) (hp : pre) (hx : PRep w O φ x c) (hi : PRep w O φ ix ci) (hu : x.und n) :
    ∃ v, (Instr.indexAt t c ci).run P w = .ok v w ∧ p.und n ∧ PRep w O φ p v := by
  unfold indexAddrP at hl
  split at hl
  · rename_i k i e h1 hkd
    have hun : P.underlying t = some (.slice e) := desc_of hk.tb hkd
    have hci := asInt_rep h1 hi
    subst hci
    split at hl
    · cases hl
    · rename_i te hte
      have hs := run_sizeOf_T (P := P) hk.tb hte w
      split at hl
      · rename_i id ver s off len
        split at hl
        · rename_i e1
          subst e1
          simp only [Option.some.injEq, Prod.mk.injEq] at hl
          obtain ⟨rfl, rfl⟩ := hl
          obtain ⟨h0, hlt⟩ := hp
          simp only [PRep] at hx
          obtain ⟨b, nn, ad, hb, hle, rfl, had⟩ := hx.resolve_left (by intro hh; omega)
          obtain rfl := had.resolve_left (by omega)
          have hlt' : i < (len : Int) := by omega
          refine ⟨.pointer (some ⟨b, off * te.size + i.toNat * te.size, none⟩), ?_, by simpa only [PVal.und] using hu, ?_⟩
          · simp only [Instr.indexAt, asIntOf, Sem.run_bind, Sem.run_pure, Result.andThen_ok, run_underlying hun, h0, hlt', and_self, if_true, hs, addr_add]
          · simp only [PRep]; exact ⟨b, nn, hb, by rw [Nat.add_mul, Nat.add_zero]⟩
        · cases hl
      · split at hl
        · rename_i els hels
          split at hl
          · rename_i el hel
            simp only [Option.some.injEq, Prod.mk.injEq] at hl
            obtain ⟨rfl, rfl⟩ := hl
            obtain ⟨ad, cap, rfl, hlc, hor⟩ := asSlc_rep hels hx
            have hlt : i.toNat < els.length := (List.getElem?_eq_some_iff.1 hel).1
            obtain ⟨b, off, rfl, hb, hbs, hE⟩ := hor.resolve_left (fun e => by rw [e] at hlt; simp at hlt)
            obtain ⟨c', q1, q2, q3⟩ := hE.get hel
            have hlt' : i < (els.length : Int) := by omega
            refine ⟨.pointer (some ⟨b, off + i.toNat * te.size, none⟩), ?_, by simp only [PVal.und], ?_⟩
            · simp only [Instr.indexAt, asIntOf, Sem.run_bind, Sem.run_pure, Result.andThen_ok, run_underlying hun, hp, hlt', and_self, if_true, hs, addr_add]
            · simp only [PRep]; exact ⟨b, _, c'.cells.toList, rfl, hb, hbs, q1.cells, q3⟩
          · cases hl
        · cases hl
  · rename_i k i m e h1 hkd
    have hun : P.underlying t = some (.array m e) := desc_of hk.tb hkd
    have hci := asInt_rep h1 hi
    subst hci
    split at hl
    · cases hl
    · rename_i te hte
      have hs := run_sizeOf_T (P := P) hk.tb hte w
      have run : ∀ b o, 0 ≤ i → i.toNat < m → (Instr.indexAt t (.pointer (some ⟨b, o, none⟩)) (.int k i)).run P w = .ok (.pointer (some ⟨b, o + i.toNat * te.size, none⟩)) w := by
        intro b o h0 hlt
        have hlt' : i < (m : Int) := by omega
        simp only [Instr.indexAt, asIntOf, Sem.run_bind, Sem.run_pure, Result.andThen_ok, run_underlying hun, Instr.sureAddr, h0, hlt', and_self, if_true, hs, addr_add]
      split at hl
      · simp only [Option.some.injEq, Prod.mk.injEq] at hl
        obtain ⟨rfl, rfl⟩ := hl
        simp only [PRep] at hx ⊢
        obtain ⟨b, nn, hb, rfl⟩ := hx
        exact ⟨_, run _ _ hp.1 hp.2, hu, b, nn, hb, rfl⟩
      · simp only [Option.some.injEq, Prod.mk.injEq] at hl
        obtain ⟨rfl, rfl⟩ := hl
        simp only [PRep] at hx ⊢
        obtain ⟨b, nn, hb, rfl⟩ := hx
        exact ⟨_, run _ _ hp.1 hp.2, hu, b, nn, hb, by rw [Nat.add_assoc]⟩
      · simp only [Option.some.injEq, Prod.mk.injEq] at hl
        obtain ⟨rfl, rfl⟩ := hl
        simp only [PRep] at hx ⊢
        obtain ⟨b, off, cs, rfl, g1, g2, g3, g4⟩ := hx
        exact ⟨_, run _ _ hp.1 hp.2, by simp only [PVal.und], b, _, _, rfl, g1, g2, g3.drop _, g4.drop _⟩
      · cases hl
  · cases hl

include hk in
theorem indexP_run {t : Nat} {n : Nat → Nat → Prop} {x ix p : PVal} {pre : Prop} {c ci : Value} (hl : indexP T t x ix = some (p, pre)) (hp : pre) (hx : PRep w O φ x c) (hi : PRep w O φ ix ci) :
    ∃ v, (Instr.index t c ci).run P w = .ok v w ∧ p.und n ∧ PRep w O φ p v := by
  unfold indexP at hl
  split at hl
  · rename_i k i s h1 h2 hkd
    have hun : P.underlying t = some .string := desc_of hk.tb hkd
    have hci := asInt_rep h1 hi
    have hc := asStr_rep h2 hx
    subst hci; subst hc
    split at hl
    · rename_i b hb
      simp only [Option.some.injEq, Prod.mk.injEq] at hl
      obtain ⟨rfl, rfl⟩ := hl
      refine ⟨.int .u8 b.toNat, ?_, by simp only [PVal.und], by simp only [PRep, DRep]⟩
      simp [Instr.index, asIntOf, run_underlying hun, hp, hb]
    · cases hl
  · cases hl

/-- The numbers of a cut, as the machine has them. -/
def BoundV (ρ : Operand → Value) (x : Option Operand) (n : Option Int) : Prop := match n with
  | none => x = none
  | some i => ∃ y k, x = some y ∧ ρ y = .int k i

theorem optInt_rep {E : Env} {S : Nat → Nat → Prop} {st : St} {a : Act} (h : Rst E S φ st a w) {x : Option Operand} {n : Option Int} (hx : optInt st x = some n) : BoundV a.eval x n := by
  cases x with
  | none => simp only [optInt, Option.some.injEq] at hx; subst hx; simp [BoundV]
  | some y =>
    simp only [optInt, Option.map_eq_some_iff] at hx
    obtain ⟨⟨k, i⟩, h1, rfl⟩ := hx
    exact ⟨y, k, rfl, asInt_rep h1 (h.ev y).2⟩

theorem sliceBound_run {k : IntKind} {i : Int} {y : Nat} (h0 : 0 ≤ i) (h1 : i ≤ y) (code : BoundsCode) : (Instr.sliceBound (.int k i) y code).run P w = .ok i.toNat w := by
  simp [Instr.sliceBound, asIntOf, h0, h1]

theorem sliceBounds_run {ρ : Operand → Value} {lo hi mx : Option Operand} {l h m : Option Int} (hl : BoundV ρ lo l) (hh : BoundV ρ hi h) (hm : BoundV ρ mx m) (sl : Bool) (len cap : Nat) (hmh : m = none ∨ h ≠ none) (hlc : len ≤ cap)
    (h1 : 0 ≤ l.getD 0) (h2 : l.getD 0 ≤ h.getD len) (h3 : h.getD len ≤ m.getD cap) (h4 : m.getD cap ≤ cap) :
    (Instr.sliceBounds sl len cap (lo.map ρ) (hi.map ρ) (mx.map ρ)).run P w = .ok ((l.getD 0).toNat, (h.getD len).toNat, (m.getD cap).toNat) w := by
  cases m with
  | none =>
    simp only [BoundV] at hm; subst hm
    cases h with
    | none =>
      simp only [BoundV] at hh; subst hh
      cases l with
      | none => simp only [BoundV] at hl; subst hl; simp [Instr.sliceBounds]
      | some i =>
        obtain ⟨y, k, rfl, e⟩ := hl
        simp only [Option.getD_some, Option.getD_none] at h1 h2
        simp [Instr.sliceBounds, e, sliceBound_run h1 h2]
    | some j =>
      obtain ⟨z, k', rfl, e'⟩ := hh
      simp only [Option.getD_some, Option.getD_none] at h2 h3
      have hj : 0 ≤ j := Int.le_trans h1 h2
      cases l with
      | none => simp only [BoundV] at hl; subst hl; simp [Instr.sliceBounds, e', sliceBound_run hj h3]
      | some i =>
        obtain ⟨y, k, rfl, e⟩ := hl
        simp only [Option.getD_some] at h1 h2
        have h2' : i ≤ ((j.toNat : Nat) : Int) := by omega
        simp [Instr.sliceBounds, e, e', sliceBound_run hj h3, sliceBound_run h1 h2']
  | some q =>
    obtain ⟨u, k'', rfl, e''⟩ := hm
    cases h with
    | none => simp at hmh
    | some j =>
      obtain ⟨z, k', rfl, e'⟩ := hh
      simp only [Option.getD_some] at h2 h3 h4
      have hj : 0 ≤ j := Int.le_trans h1 h2
      have hq : 0 ≤ q := Int.le_trans hj h3
      have h3' : j ≤ ((q.toNat : Nat) : Int) := by omega
      cases l with
      | none => simp only [BoundV] at hl; subst hl; simp [Instr.sliceBounds, e', e'', sliceBound_run hq h4, sliceBound_run hj h3']
      | some i =>
        obtain ⟨y, k, rfl, e⟩ := hl
        simp only [Option.getD_some] at h1 h2
        have h2' : i ≤ ((j.toNat : Nat) : Int) := by omega
        simp [Instr.sliceBounds, e, e', e'', sliceBound_run hq h4, sliceBound_run hj h3', sliceBound_run h1 h2']

include hk in
theorem sliceP_run {ρ : Operand → Value} {lo hi mx : Option Operand} {l h m : Option Int} (hl : BoundV ρ lo l) (hh : BoundV ρ hi h) (hm : BoundV ρ mx m) {t : Nat} {n : Nat → Nat → Prop} {x p : PVal} {pre : Prop} {c : Value}
    {rm : Option Nat} (hrm : ∀ id ver s off len r, x = .own id ver s off len → rm = some r → (∀ b nn, φ id ver = some (b, nn) → nn = r) ∧ (φ id ver = none → r = 0)) (hs : sliceP T t rm x l h m = some (p, pre)) (hp : pre) (hx : PRep w O φ x c) (hu : x.und n) :
    ∃ v, (Instr.sliceAt t c (lo.map ρ) (hi.map ρ) (mx.map ρ)).run P w = .ok v w ∧ p.und n ∧ PRep w O φ p v := by
  unfold sliceP at hs
  split at hs
  · rename_i hkd
    have hun : P.underlying t = some .string := desc_of hk.tb hkd
    split at hs
    · rename_i s h1
      have hc := asStr_rep h1 hx
      subst hc
      simp only [BoundV] at hm
      subst hm
      simp only [Option.some.injEq, Prod.mk.injEq] at hs
      obtain ⟨rfl, rfl⟩ := hs
      have hb := sliceBounds_run (P := P) (w := w) hl hh (m := none) (mx := none) (by simp [BoundV]) false s.size s.size (.inl rfl) (Nat.le_refl _) hp.1 hp.2.1 (by simpa using hp.2.2) (by simp)
      refine ⟨.string (s.extract (l.getD 0).toNat (h.getD s.size).toNat), ?_, by simp only [PVal.und], by simp only [PRep, DRep]⟩
      simp only [Option.map_none] at hb
      simp [Instr.sliceAt, Instr.slice, run_underlying hun, hb]
    · cases hs
  · rename_i e hkd
    have hun : P.underlying t = some (.slice e) := desc_of hk.tb hkd
    split at hs
    · cases hs
    · rename_i te hte
      have hsz := run_sizeOf_T (P := P) hk.tb hte w
      split at hs
      · rename_i id ver s off len
        split at hs
        · rename_i hc
          obtain ⟨rfl, rfl⟩ := hc
          simp only [Option.some.injEq, Prod.mk.injEq] at hs
          obtain ⟨rfl, rfl⟩ := hs
          obtain ⟨g1, g2, g3⟩ := hp
          simp only [PRep] at hx ⊢
          simp only [BoundV] at hm
          subst hm
          rcases hx with ⟨hφ, rfl, rfl, rfl⟩ | ⟨b, nn, ad, hφ, hle, rfl, had⟩
          · have g3 : h.getD ((0 : Nat) : Int) ≤ ((0 : Nat) : Int) := by
              cases rm with
              | none => simpa [upTo] using g3
              | some r => have := (hrm _ _ _ _ _ r rfl rfl).2 hφ; subst this; simpa [upTo] using g3
            have hb := sliceBounds_run (P := P) (w := w) hl hh (m := none) (mx := none) (by simp [BoundV]) true 0 0 (.inl rfl) (Nat.le_refl _) g1 (by simpa using g2) (by simpa using g3) (by simp)
            have e1 : (h.getD ((0 : Nat) : Int)).toNat = 0 := by omega
            have e2 : (l.getD 0).toNat = 0 := by omega
            refine ⟨.slice none 0 0, ?_, by simpa only [PVal.und] using hu, .inl ⟨hφ, by rw [e2], by rw [e1, Nat.zero_sub], rfl⟩⟩
            simp only [Option.map_none] at hb
            simp only [Instr.sliceAt, Instr.slice, Sem.run_bind, run_underlying hun, Result.andThen_ok, Option.map_none, hb, hsz, Sem.run_pure, e1, e2]
            simp
          · have g3 : h.getD (len : Int) ≤ ((nn - off : Nat) : Int) := by
              cases rm with
              | none => simp only [upTo] at g3; omega
              | some r => have := (hrm _ _ _ _ _ r rfl rfl).1 b nn hφ; subst this; simpa [upTo] using g3
            have hb := sliceBounds_run (P := P) (w := w) hl hh (m := none) (mx := none) (by simp [BoundV]) true len (nn - off) (.inl rfl) (by omega) g1 g2 (by simp; omega) (by simp)
            simp only [Option.getD_none] at hb
            refine ⟨.slice (if nn - off = (l.getD 0).toNat then ad else ad.map (·.add ((l.getD 0).toNat * te.size))) ((h.getD len).toNat - (l.getD 0).toNat) (nn - off - (l.getD 0).toNat), ?_, by simpa only [PVal.und] using hu, .inr ⟨b, nn, _, hφ, by omega, by rw [Nat.sub_sub], ?_⟩⟩
            · have e1 : (((nn - off : Nat) : Int)).toNat = nn - off := by simp
              simp only [Option.map_none] at hb
              simp only [Instr.sliceAt, Instr.slice, Sem.run_bind, run_underlying hun, Result.andThen_ok, Option.map_none, hb, hsz, Sem.run_pure, e1]
            · by_cases hz : nn - (off + (l.getD 0).toNat) = 0
              · exact .inl hz
              · right
                obtain rfl := had.resolve_left (by omega)
                have : ¬ (nn - off = (l.getD 0).toNat) := by omega
                simp only [this, if_false, Option.map_some, addr_add]
                rw [Nat.add_mul]
        · split at hs
          · rename_i hsz'
            split at hs
            · rename_i hj mq _
              simp only [Option.some.injEq, Prod.mk.injEq] at hs
              obtain ⟨rfl, rfl⟩ := hs
              obtain ⟨g1, g2, g3, g4⟩ := hp
              have hcv : ∃ ad cap, c = .slice ad len cap ∧ len ≤ cap ∧ mq ≤ ((cap : Nat) : Int) := by
                simp only [PRep] at hx
                rcases hx with ⟨hφ, rfl, rfl, rfl⟩ | ⟨b, nn, ad, hφ, hle, rfl, had⟩
                · refine ⟨none, 0, rfl, Nat.le_refl _, ?_⟩
                  cases rm with
                  | none => simpa [upTo] using g4
                  | some r => have := (hrm _ _ _ _ _ r rfl rfl).2 hφ; subst this; simpa [upTo] using g4
                · refine ⟨ad, nn - off, rfl, by omega, ?_⟩
                  cases rm with
                  | none => simp only [upTo] at g4; omega
                  | some r => have := (hrm _ _ _ _ _ r rfl rfl).1 b nn hφ; subst this; simpa [upTo] using g4
              obtain ⟨ad, cap, rfl, hlc, hmc⟩ := hcv
              have hb := sliceBounds_run (P := P) (w := w) hl hh hm true len cap (.inr (by simp)) hlc g1 g2 g3 hmc
              refine ⟨_, by simp only [Instr.sliceAt, Instr.slice, Sem.run_bind, run_underlying hun, Result.andThen_ok, hb, hsz, Sem.run_pure]; rfl, by simp only [PVal.und], by simp only [PRep]⟩
            · cases hs
          · cases hs
      · split at hs
        · rename_i els hels
          split at hs
          · rename_i hmh
            simp only [Option.some.injEq, Prod.mk.injEq] at hs
            obtain ⟨rfl, rfl⟩ := hs
            obtain ⟨ad, cap, rfl, hlc, hor⟩ := asSlc_rep hels hx
            obtain ⟨g1, g2, g3, g4⟩ := hp
            have hmd : m.getD els.length ≤ m.getD cap ∧ m.getD cap ≤ cap := by
              cases m with
              | none => simp; omega
              | some q => simp only [Option.getD_some] at g4 ⊢; omega
            have hb := sliceBounds_run (P := P) (w := w) hl hh hm true els.length cap hmh hlc g1 g2 (by omega) hmd.2
            refine ⟨.slice (if (m.getD cap).toNat = (l.getD 0).toNat then ad else ad.map (·.add ((l.getD 0).toNat * te.size))) ((h.getD els.length).toNat - (l.getD 0).toNat) ((m.getD cap).toNat - (l.getD 0).toNat),
              by simp only [Instr.sliceAt, Instr.slice, Sem.run_bind, run_underlying hun, Result.andThen_ok, hb, hsz, Sem.run_pure], by simp only [PVal.und], ?_⟩
            simp only [PRep, DRep]
            have hln : ((els.take (h.getD els.length).toNat).drop (l.getD 0).toNat).length = (h.getD els.length).toNat - (l.getD 0).toNat := by
              simp only [List.length_drop, List.length_take]; omega
            simp only [hln]
            refine ⟨_, _, rfl, by omega, ?_⟩
            by_cases hz : (els.take (h.getD els.length).toNat).drop (l.getD 0).toNat = []
            · exact .inl hz
            · right
              have hpos : 0 < (h.getD els.length).toNat - (l.getD 0).toNat := by
                rw [← hln]; exact List.length_pos_iff.2 hz
              obtain ⟨b, o, rfl, hb1, hb2, hE⟩ := hor.resolve_left (fun e => by subst e; simp at hz)
              have : ¬ ((m.getD cap).toNat = (l.getD 0).toNat) := by omega
              simp only [this, if_false, Option.map_some, addr_add]
              exact ⟨b, _, rfl, hb1, hb2, (hE.take _).drop _⟩
          · cases hs
        · cases hs
  · cases hs

include hk in
theorem lenP_run {t : Nat} {x : PVal} {n : Int} {c : Value} (hl : lenP T t x = some n) (hx : PRep w O φ x c) (ty : Nat) : (Builtin.len_ #[t] ty #[c]).run P w = .ok (.int .i64 n) w := by
  unfold lenP at hl
  split at hl
  · rename_i hkd
    have hun : P.underlying t = some .string := desc_of hk.tb hkd
    obtain ⟨s, h1, rfl⟩ := Option.map_eq_some_iff.1 hl
    have hc := asStr_rep h1 hx
    subst hc
    simp [Builtin.len_, run_underlying hun, goInt]
  · rename_i e hkd
    have hun : P.underlying t = some (.slice e) := desc_of hk.tb hkd
    split at hl
    · cases hl
      simp only [PRep, DRep] at hx
      obtain ⟨a, cap, rfl, _⟩ := hx
      simp [Builtin.len_, run_underlying hun, goInt]
    · cases hl
      simp only [PRep, DRep] at hx
      subst hx
      simp [Builtin.len_, run_underlying hun, goInt]
    · cases hl
      simp only [PRep] at hx
      rcases hx with ⟨_, _, rfl, rfl⟩ | ⟨b, nn, ad, _, _, rfl, _⟩ <;> simp [Builtin.len_, run_underlying hun, goInt]
    · cases hl
  · rename_i m e hkd
    have hun : P.underlying t = some (.array m e) := desc_of hk.tb hkd
    cases hl
    simp [Builtin.len_, run_underlying hun, goInt]
  · cases hl

theorem PVal.one_told {p : PVal} (h : p.one = true) : p.told = true := by cases p <;> simp_all [PVal.one, PVal.told]

theorem cells_told {p : PVal} (h : p.cells.all PVal.one = true) (hn : p ≠ .dead) : (∀ b q, p ≠ .gd b q) := by
  intro b q e
  subst e
  simp [PVal.cells, PVal.one] at h

theorem und_cells {n : Nat → Nat → Prop} {p : PVal} (h : p.und n) : undL n p.cells := by
  cases p <;> simp only [PVal.cells, undL, PVal.und] at * <;> first
    | exact ⟨h, trivial⟩
    | exact h
    | exact undL_ds _ _
    | trivial

theorem splice_rep {ps qs : List PVal} {cs xs : List Value} (h : PRepL w O φ ps cs) (h' : PRepL w O φ qs xs) (o : Nat) : PRepL w O φ (splice ps o qs) (splice cs o xs) := by
  unfold splice
  rw [← h'.length]
  exact ((h.take o).append h').append (h.drop _)

theorem und_splice {n : Nat → Nat → Prop} {ps qs : List PVal} (h : undL n ps) (h' : undL n qs) (o : Nat) : undL n (splice ps o qs) := by
  unfold splice
  exact undL_append (undL_append (undL_take h o) h') (undL_drop h _)

theorem foldl_get {α : Type} : ∀ (cs : List α) (A : Array α) (off k i : Nat), off + k + cs.length ≤ A.size →
    ((cs.zipIdx k).foldl (fun A (x : α × Nat) => A.setIfInBounds (off + x.2) x.1) A)[i]? = if off + k ≤ i ∧ i < off + k + cs.length then cs[i - (off + k)]? else A[i]?
  | [], A, off, k, i, h => by
    have : ¬ (off + k ≤ i ∧ i < off + k + ([] : List α).length) := by intro hh; simp at hh; omega
    simp only [List.zipIdx_nil, List.foldl_nil, this, if_false]
  | c :: cs, A, off, k, i, h => by
    simp only [List.zipIdx_cons, List.foldl_cons]
    simp only [List.length_cons] at h
    rw [foldl_get cs _ off (k + 1) i (by simp; omega)]
    by_cases h1 : i = off + k
    · subst h1
      have e1 : ¬ (off + (k + 1) ≤ off + k ∧ off + k < off + (k + 1) + cs.length) := by omega
      have e2 : off + k ≤ off + k ∧ off + k < off + k + (c :: cs).length := by simp
      simp only [e1, e2, if_false, if_true, Nat.sub_self]
      rw [Array.getElem?_setIfInBounds_self_of_lt (by omega)]
      simp
    · by_cases h2 : off + (k + 1) ≤ i ∧ i < off + (k + 1) + cs.length
      · have e2 : off + k ≤ i ∧ i < off + k + (c :: cs).length := by simp; omega
        simp only [h2, e2, and_self, if_true]
        have e3 : i - (off + k) = (i - (off + (k + 1))) + 1 := by omega
        rw [e3, List.getElem?_cons_succ]
      · have e2 : ¬ (off + k ≤ i ∧ i < off + k + (c :: cs).length) := by simp; omega
        simp only [h2, e2, if_false]
        rw [Array.getElem?_setIfInBounds_ne (by omega)]

theorem splice_get {α : Type} (cs ps : List α) (o i : Nat) (h : o + ps.length ≤ cs.length) : (splice cs o ps)[i]? = if o ≤ i ∧ i < o + ps.length then ps[i - o]? else cs[i]? := by
  unfold splice
  have hl : (cs.take o).length = o := by simp; omega
  by_cases h1 : i < o
  · have e : ¬ (o ≤ i ∧ i < o + ps.length) := by omega
    rw [if_neg e, List.append_assoc, List.getElem?_append_left (by omega), List.getElem?_take, if_pos h1]
  · by_cases h2 : i < o + ps.length
    · have e : o ≤ i ∧ i < o + ps.length := by omega
      rw [if_pos e, List.append_assoc, List.getElem?_append_right (by omega), hl, List.getElem?_append_left (by omega)]
    · have e : ¬ (o ≤ i ∧ i < o + ps.length) := by omega
      rw [if_neg e, List.append_assoc, List.getElem?_append_right (by omega), hl, List.getElem?_append_right (by omega), List.getElem?_drop]
      congr 1; omega

theorem foldl_splice {α : Type} (A : Array α) (cs : List α) (off : Nat) (h : off + cs.length ≤ A.size) : (cs.zipIdx.foldl (fun A (x : α × Nat) => A.setIfInBounds (off + x.2) x.1) A) = (splice A.toList off cs).toArray := by
  apply Array.ext'
  apply List.ext_getElem?
  intro i
  have := foldl_get cs A off 0 i (by omega)
  simp only [Nat.add_zero] at this
  rw [Array.getElem?_toList, this, splice_get _ _ _ _ (by simpa using h)]
  simp

theorem length_splice' {α : Type} (cs ps : List α) (o : Nat) (h : o + ps.length ≤ cs.length) : (splice cs o ps).length = cs.length := by
  unfold splice; simp; omega

/-- Parts laid over cells, as the machine does it. -/
theorem fillP_run {place : Nat → Option (Nat × Nat)} : ∀ {parts : List (Nat × PVal)} {vals : List (Nat × Value)} {cells out : List PVal} {cs : List Value},
    fillP place cells parts = some out → parts.map (·.1) = vals.map (·.1) → PRepL w O φ (parts.map (·.2)) (vals.map (·.2)) → PRepL w O φ cells cs →
    ∃ cs', Instr.fill place cs.toArray vals = some cs'.toArray ∧ PRepL w O φ out cs'
  | [], vals, cells, out, cs, hf, hm, hr, hc => by
    cases vals with
    | nil => simp only [fillP, Option.some.injEq] at hf; subst hf; exact ⟨cs, rfl, hc⟩
    | cons v vals => simp at hm
  | (i, p) :: parts, vals, cells, out, cs, hf, hm, hr, hc => by
    cases vals with
    | nil => simp at hm
    | cons v vals =>
      obtain ⟨i', v⟩ := v
      simp only [List.map_cons, List.cons.injEq] at hm
      obtain ⟨rfl, hm⟩ := hm
      simp only [List.map_cons, PRepL] at hr
      obtain ⟨c, cs', e, hr1, hr2⟩ := hr
      simp only [List.cons.injEq] at e
      obtain ⟨rfl, rfl⟩ := e
      simp only [fillP] at hf
      split at hf
      · cases hf
      · rename_i o sz hpl
        split at hf
        · rename_i hcd
          obtain ⟨hc1, hc2, hc3⟩ := hcd
          have hne : p ≠ .dead := by intro e; subst e; simp [PVal.cells, PVal.one] at hc3
          have hcells := PRep.cells (cells_told hc3 hne) hne hr1
          have hvl : v.cells.toList.length = sz := by rw [hcells.length]; exact hc1
          have hlen := hc.length
          obtain ⟨cs', g1, g2⟩ := fillP_run hf hm hr2 (splice_rep hc hcells o)
          refine ⟨cs', ?_, g2⟩
          have hvs : v.cells.size = sz := by simpa using hvl
          have hfl := foldl_splice (A := cs.toArray) v.cells.toList o (by simp; omega)
          simp only [List.toList_toArray] at hfl
          simp only [Instr.fill, hpl, hvs]
          have hno : ¬ (sz ≠ sz ∨ o + sz > cs.toArray.size) := by simp; omega
          have hno' : (decide (sz ≠ sz) || decide (o + sz > cs.toArray.size)) = false := by simp; omega
          rw [if_neg (by simpa using hno)]
          rw [← g1, ← hfl]
          congr 1
          rw [← Array.foldl_toList]
          simp [Array.toList_zipIdx]
        · cases hf

end
end Go.Proofs.Ytdodgbhodkcckaa.Pv
