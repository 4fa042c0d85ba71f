/- Operations behind guards, and regions in the text's order. No program is in sight here. -/
import Derived.Test.YtdodgbhodkcckaaPvp
set_option linter.unusedVariables false
set_option linter.unusedSectionVars false
set_option linter.unusedSimpArgs false
set_option autoImplicit false
namespace Go.Proofs.Ytdodgbhodkcckaa.Pv
open Go Go.RowKit

section
variable {E : Env} {S S' : Nat → Nat → Prop} {φ : Nat → Nat → Option (Nat × Nat)} {st s t : St} {a : Act} {w : World}

/-- The same told in other words. -/
structure Eqv (s t : St) : Prop where
  tmps : ∀ i, find i s.tmps = find i t.tmps
  heap : ∀ i, find i s.heap = find i t.heap

theorem Eqv.refl (s : St) : Eqv s s := ⟨fun _ => rfl, fun _ => rfl⟩
theorem Eqv.symm (h : Eqv s t) : Eqv t s := ⟨fun i => (h.tmps i).symm, fun i => (h.heap i).symm⟩
theorem Eqv.trans {u : St} (h : Eqv s t) (k : Eqv t u) : Eqv s u := ⟨fun i => (h.tmps i).trans (k.tmps i), fun i => (h.heap i).trans (k.heap i)⟩

theorem Eqv.held (h : Eqv s t) : Held E φ s.heap = Held E φ t.heap := by
  funext b; simp only [Held, Owned, h.heap]

theorem Rst.congr (h : Rst E S φ s a w) (he : Eqv s t) : Rst E S φ t a w :=
  { os := h.os, tape := h.tape, output := h.output, size := h.size, old := h.old, defers := h.defers,
    tmps := fun i p hp => by rw [← he.held]; exact h.tmps i p (by rw [he.tmps]; exact hp),
    objs := fun i o ho => by rw [← he.held]; exact h.objs i o (by rw [he.heap]; exact ho),
    inj := fun i j oi oj b hi hj => h.inj i j oi oj b (by rw [he.heap]; exact hi) (by rw [he.heap]; exact hj) }

theorem Rst.names (h : Rst E S φ st a w) {S' : Nat → Nat → Prop} (h1 : ∀ i v, S i v ↔ S' i v) : Rst E S' φ st a w := by
  have : S = S' := by funext i v; exact propext (h1 i v)
  rw [← this]; exact h

theorem Rst.drew (h : Rst E S φ st a w) : Rst E S φ st a { w with drawn := w.drawn + 1 } := by
  have : Below w.heap.size w w.drew := (Below.refl _ _).drew
  exact h.grow this
end

section
variable {P : Program} {T : Nat → Option TI} {eqt : Nat → Option (List CK)} (hk : Kit P T eqt) {E : Env} {S : Nat → Nat → Prop} {φ : Nat → Nat → Option (Nat × Nat)} {st : St} {a : Act} {w : World} {o : Oper} {nid : Nat → Nat} {e : Eff} {Q : Exit → Act → World → Prop} {ops : Array Oper}

theorem wanted_of (h : Rst E S φ st a w) {g t : Nat} {want b : Bool} (hg : o.guard = some (g, want)) (ht : dstOf ops.toList g = some t) (hb : guardP (st.ev (.tmp t)) want = some b) : Region.wanted o (yielded ops a.tmps) = b := by
  have hd : (ops[g]?).bind (·.dst) = some t := by
    unfold dstOf at ht
    rw [Array.getElem?_toList] at ht
    cases ho : ops[g]? with
    | none => simp [ho] at ht
    | some o' => simpa [ho] using ht
  have he := (h.ev (.tmp t)).2
  simp only [Act.eval] at he
  have plain : ∀ v, a.tmps.getD t undef = .bool v → yielded ops a.tmps g = some v := by
    intro v hv
    unfold yielded
    rw [hd]
    simp only [Option.bind_some]
    rw [Array.getD_eq_getD_getElem?] at hv
    cases hx : a.tmps[t]? with
    | none => rw [hx] at hv; cases hv
    | some x => rw [hx] at hv; simp at hv; subst hv; rfl
  have none' : a.tmps.getD t undef = undef → yielded ops a.tmps g = none := by
    intro hv
    unfold yielded
    rw [hd]
    simp only [Option.bind_some]
    rw [Array.getD_eq_getD_getElem?] at hv
    cases hx : a.tmps[t]? with
    | none => rfl
    | some x => rw [hx] at hv; simp at hv; subst hv; rfl
  unfold Region.wanted
  simp only [hg]
  have plainCase : ∀ q, (asBool q).map (fun v => v == want) = some b → PRep w (Held E φ st.heap) φ q (a.tmps.getD t undef) → (yielded ops a.tmps g == some want) = b := by
    intro q hq hr
    obtain ⟨v, h1, rfl⟩ := Option.map_eq_some_iff.1 hq
    rw [plain v (asBool_rep h1 hr)]
    cases v <;> cases want <;> rfl
  generalize st.ev (.tmp t) = p at hb he
  cases p with
  | gd c q =>
    simp only [guardP] at hb
    simp only [PRep] at he
    split at hb
    · rename_i v h1
      obtain rfl := Option.some.inj hb
      cases c with
      | true =>
        rw [plain v (asBool_rep h1 (he.1 rfl))]
        cases v <;> cases want <;> rfl
      | false =>
        rw [none' (he.2 rfl)]
        rfl
    · split at hb
      · cases hb
      · rename_i hc
        obtain rfl := Option.some.inj hb
        rw [none' (he.2 (by simpa using hc))]
        rfl
  | d x => exact plainCase (.d x) hb he
  | _ => simp [guardP, asBool] at hb

/-- What is put, told otherwise. -/
theorem After.retell {n : Nat} {dst : Option Nat} {p q : PVal} {dels : List Nat} {upds : List (Nat × PObj)} {a' : Act} {w' : World} (h : After E S φ st n nid dst ⟨p, dels, upds⟩ a' w') (hq : ∀ S O φ c, p.und S → PRep w' O φ p c → q.und S ∧ PRep w' O φ q c) : After E S φ st n nid dst ⟨q, dels, upds⟩ a' w' := by
  obtain ⟨h1, φ', S', h2, h3, h4⟩ := h
  refine ⟨h1, φ', S', ?_, h3, h4⟩
  cases dst with
  | none => exact h2
  | some d =>
    refine { h2 with tmps := ?_ }
    intro t r hr
    have h5 := h2.tmps
    simp only [St.app, St.put, find] at hr h5 ⊢
    split at hr
    · rename_i e
      cases hr
      have := h5 t p (by simp [e])
      exact hq _ _ _ _ this.1 this.2
    · rename_i e
      exact h5 t r (by simp [e]; exact hr)

theorem gd_true {w : World} {p : PVal} : ∀ S O φ c, p.und S → PRep w O φ p c → (match (generalizing := false) p with | .gd g' q => PVal.gd (true && g') q | p => .gd true p).und S ∧ PRep w O φ (match (generalizing := false) p with | .gd g' q => PVal.gd (true && g') q | p => .gd true p) c := by
  intro S O φ c hu hr
  cases p <;> first
    | exact ⟨hu, hr⟩
    | (simp only [PVal.und, PRep] at hu hr ⊢; simp; exact ⟨hu, hr⟩)
    | (refine ⟨fun _ => hu, ?_⟩; simp only [PRep] at hr ⊢; exact ⟨fun _ => hr, fun e => by cases e⟩)

include hk in
theorem op_run (h : Rst E S φ st a w) (hd : ∀ d, o.dst = some d → d < a.tmps.size) (hfr : Fresh S nid) {i : Nat} (ho : ops[i]? = some o) (hs : opP P T eqt nid ops.toList o st (· = e)) : wpOp P ops Q i (After E S φ st a.tmps.size nid o.dst e) a w := by
  unfold wpOp
  simp only [ho]
  unfold opP at hs
  split at hs
  · rename_i hg
    have hw : Region.wanted o (yielded ops a.tmps) = true := by simp [Region.wanted, hg]
    simp only [hw, if_true]
    exact .inl (step_run hk h hd hfr hs)
  · rename_i g want hg
    split at hs
    · rename_i t ht
      split at hs
      · rename_i b hb
        have hw := wanted_of h hg ht hb
        have skip : ∀ {q : PVal}, (∀ S, q.und S) → (∀ w O φ, PRep w O φ q undef) → e = ⟨q, [], []⟩ → After E S φ st a.tmps.size nid o.dst e (a.put o.dst undef) w := by
          intro q q1 q2 he
          subst he
          exact Rst.after (by simpa [updAll, delAll] using h) hd (q1 S) (q2 _ _ _) (fun _ _ h => ⟨h, rfl⟩) (fun i v hv => .inl ⟨v, hv⟩)
        cases b with
        | true =>
          simp only [hw, if_true]
          refine .inl ?_
          have compute : ∀ p pre, computeP T eqt st o.op = some (p, pre) → pre → (⟨(match (generalizing := false) p with | .gd g' q => .gd (true && g') q | p => .gd true p), [], []⟩ : Eff) = e → o.wp P a w (After E S φ st a.tmps.size nid o.dst e) Q := by
            intro p pre hc hp he
            subst he
            obtain ⟨c, g1, g2, g3⟩ := compute_run hk h hc hp
            have := gd_true S _ _ c g2 g3
            exact wp_value g1 (Rst.after (by simpa [updAll, delAll] using h) hd this.1 this.2 (fun _ _ h => ⟨h, rfl⟩) (fun i v hv => .inl ⟨v, hv⟩))
          have fallback : (match computeP T eqt st o.op with
              | some (p, pre) => (true = true → pre) ∧ (⟨(match (generalizing := false) p with | .gd g' q => .gd (true && g') q | p => .gd true p), [], []⟩ : Eff) = e
              | none => true = false ∧ (⟨.gd false .dead, [], []⟩ : Eff) = e) → o.wp P a w (After E S φ st a.tmps.size nid o.dst e) Q := by
            intro hs
            split at hs
            · rename_i p pre hc
              exact compute p pre hc (hs.1 rfl) hs.2
            · cases hs.1
          cases hop : o.op with
          | buildSlice t len parts =>
            rw [hop] at hs
            exact step_run hk h hd hfr (by rw [hop]; exact hs)
          | call cl =>
            obtain ⟨cal, args, ts⟩ := cl
            cases cal with
            | value f =>
              rw [hop] at hs
              simp only [stepG] at hs
              split at hs
              · rename_i fid x y hcal
                obtain ⟨ps, z, c1, c2, c3⟩ := hs
                obtain ⟨c4, c5, c6, c7⟩ := c1 rfl
                have hargs : ∀ (qs ps : List PVal), (∀ p ∈ ps, ∃ y, p = .d y) → argsP st.heap (fun k => k) qs ps → argsP st.heap (rename [] nid) qs ps := by
                  intro qs
                  induction qs with
                  | nil => intro ps _ ha; cases ps <;> simp_all [argsP]
                  | cons q qs ih =>
                    intro ps hps ha
                    cases ps with
                    | nil => simp [argsP] at ha
                    | cons p ps =>
                      simp only [argsP] at ha ⊢
                      obtain ⟨yy, rfl⟩ := hps p (by simp)
                      exact ⟨ha.1, ih ps (fun p hp => hps p (by simp [hp])) ha.2⟩
                have := call_run (e := ⟨.d z, [], []⟩) (Q := Q) h hd hfr hop hcal c7 (L := []) (hp := []) (r := .d z) (h' := []) (give := false) (ps := ps)
                  ⟨hargs _ _ c5 c4, c6, ⟨by simp, by simp, rfl, rfl⟩, ⟨by simp, by simp⟩, by rcases c2 with c2 | c2; exact .inr (.inl c2); exact .inr (.inr ⟨c2, rfl⟩), by simp [PVal.shift, shiftH]⟩
                subst c3
                refine Oper.wp_mono (fun a' w' ha => ?_) this
                refine ha.retell fun S O φ c hu hr => ?_
                simp only [PVal.und, PRep] at hr ⊢
                exact ⟨fun _ => trivial, fun _ => hr, fun e => by cases e⟩
              · exact hs.elim
            | invoke r m => rw [hop] at hs fallback; exact fallback hs
            | builtin b => rw [hop] at hs fallback; exact fallback hs
          | _ => rw [hop] at hs fallback; exact fallback hs
        | false =>
          simp only [hw, Bool.false_eq_true, if_false]
          have fallback : (match computeP T eqt st o.op with
              | some (p, pre) => (false = true → pre) ∧ (⟨(match (generalizing := false) p with | .gd g' q => .gd (false && g') q | p => .gd false p), [], []⟩ : Eff) = e
              | none => false = false ∧ (⟨.gd false .dead, [], []⟩ : Eff) = e) → After E S φ st a.tmps.size nid o.dst e (a.put o.dst undef) w := by
            intro hs
            split at hs
            · rename_i p pre hc
              refine skip (q := (match (generalizing := false) p with | .gd g' q => .gd (false && g') q | p => .gd false p)) ?_ ?_ hs.2.symm
              · intro S; cases p <;> simp [PVal.und]
              · intro w O φ; cases p <;> simp [PRep]
            · exact skip (q := .gd false .dead) (by intro S; simp [PVal.und]) (by intro w O φ; simp [PRep]) hs.2.symm
          cases hop : o.op with
          | buildSlice t len parts =>
            rw [hop] at hs
            exact skip (q := .dead) (by intro S; simp [PVal.und]) (by intro w O φ; simp [PRep]) hs.symm
          | call cl =>
            obtain ⟨cal, args, ts⟩ := cl
            cases cal with
            | value f =>
              rw [hop] at hs
              simp only [stepG] at hs
              split at hs
              · rename_i fid x y hcal
                obtain ⟨ps, z, c1, c2, c3⟩ := hs
                exact skip (q := .gd false (.d z)) (by intro S; simp [PVal.und]) (by intro w O φ; simp [PRep]) c3.symm
              · exact hs.elim
            | invoke r m => rw [hop] at hs fallback; exact fallback hs
            | builtin b => rw [hop] at hs fallback; exact fallback hs
          | _ => rw [hop] at hs fallback; exact fallback hs
      · exact hs.elim
    · exact hs.elim
end

end Go.Proofs.Ytdodgbhodkcckaa.Pv
