/- All operations that compute: the machine gives what is told of them. No program is in sight here. -/
import Derived.Test.YtdodgbhodkcckaaPvh
set_option linter.unusedVariables false
set_option linter.unusedSimpArgs false
set_option autoImplicit false
namespace Go.Proofs.Ytdodgbhodkcckaa.Pv
open Go Go.RowKit

section
variable {P : Program} {T : Nat → Option TI} {eqt : Nat → Option (List CK)} (hk : Kit P T eqt) {w : World} {O : Nat → Prop} {φ : Nat → Nat → Option (Nat × Nat)}

theorem zero_rep (v : Value) : PRepL w O φ (zeroCells v) v.cells.toList := by
  have h := PRepL.ds (φ := φ) (DRepL.vs (w := w) (O := O) v.cells.toList)
  simpa [zeroCells, Function.comp_def] using h
theorem zero_und (v : Value) (n : Nat → Nat → Prop) : undL n (zeroCells v) := by
  have h := undL_ds n (v.cells.toList.map D.v)
  simpa [zeroCells, Function.comp_def] using h

theorem places_run : ∀ {fs : List (Nat × Nat × Bool)} {gs : List Field}, FieldsOK P fs gs → ∃ pl : List (Nat × Nat),
    (gs.mapM fun f => (do pure (f.offset, ← sizeOf f.type) : Sem (Nat × Nat))).run P w = .ok pl w ∧ ∀ i : Nat, pl[i]? = fs[i]?.map fun f => (f.1, f.2.1)
  | [], [], _ => ⟨[], by simp, by simp⟩
  | [], g :: gs, h => by simp [FieldsOK] at h
  | f :: fs, [], h => by obtain ⟨o, s, g⟩ := f; simp [FieldsOK] at h
  | (o, s, g) :: fs, f :: gs, h => by
    simp only [FieldsOK] at h
    obtain ⟨h1, h2, _, _, h5⟩ := h
    obtain ⟨pl, e1, e2⟩ := places_run h5
    obtain ⟨inf, hi1, hi2⟩ := Option.map_eq_some_iff.1 h2
    refine ⟨(o, s) :: pl, ?_, ?_⟩
    · have e0 : (sizeOf f.type).run P w = .ok s w := by simp [sizeOf, typeInfo, hi1, hi2]
      simp only [List.mapM_cons, Sem.run_bind, e0, Result.andThen_ok, Sem.run_pure, e1, h1]
    · intro i
      cases i with
      | zero => simp
      | succ i => simpa using e2 i

include hk in
theorem buildP_run {t : Nat} {n : Nat → Nat → Prop} {parts : List (Nat × PVal)} {vals : List (Nat × Value)} {p : PVal} (hb : buildP T t parts = some p) (hm : parts.map (·.1) = vals.map (·.1)) (hr : PRepL w O φ (parts.map (·.2)) (vals.map (·.2))) (hu : undL n (parts.map (·.2))) :
    ∃ v, (Instr.build t vals.toArray).run P w = .ok v w ∧ p.und n ∧ PRep w O φ p v := by
  have fu : ∀ (place : Nat → Option (Nat × Nat)) (ps : List (Nat × PVal)) (cells out : List PVal), fillP place cells ps = some out → undL n (ps.map (·.2)) → undL n cells → undL n out := by
    intro place ps
    induction ps with
    | nil => intro cells out h _ hc; simp only [fillP, Option.some.injEq] at h; subst h; exact hc
    | cons q ps ih =>
      obtain ⟨i, q⟩ := q
      intro cells out h hq hc
      simp only [fillP] at h
      simp only [List.map_cons, undL] at hq
      split at h
      · cases h
      · split at h
        · exact ih _ _ h hq.2 (und_splice hc (und_cells hq.1) _)
        · cases h
  unfold buildP at hb
  split at hb
  · rename_i fs sz by_ z ht
    have hz := run_zeroValue_T (P := P) hk.tb ht w
    obtain ⟨fields, hun, hfs⟩ := (hk.tb t _ ht).desc
    obtain ⟨out, ho, rfl⟩ := Option.map_eq_some_iff.1 hb
    obtain ⟨pl, e1, e2⟩ := places_run (w := w) hfs
    obtain ⟨cs', g1, g2⟩ := fillP_run ho hm hr (zero_rep (φ := φ) z)
    refine ⟨.agg cs'.toArray, ?_, ?_, ?_⟩
    · have e3 : (fields.mapM fun f => (do pure (f.offset, ← sizeOf f.type) : Sem (Nat × Nat))).run P w = .ok pl.toArray w := by
        rw [Array.mapM_eq_mapM_toList]
        simp only [Sem.run_map, e1, Result.andThen_ok]
      have e4 : (fun i : Nat => pl.toArray[i]?) = fun i : Nat => fs[i]?.map fun (f : Nat × Nat × Bool) => (f.1, f.2.1) := by funext i; simpa using e2 i
      simp only [Instr.build, Sem.run_bind, hz, Result.andThen_ok, run_underlying hun, e3, e4]
      simp only [Array.toArray_toList] at g1
      rw [g1]; rfl
    · simp only [PVal.und]; exact fu _ _ _ _ ho hu (zero_und z n)
    · simp only [PRep]; exact ⟨cs', rfl, g2⟩
  · rename_i m e sz by_ z ht
    have hz := run_zeroValue_T (P := P) hk.tb ht w
    have hun : P.underlying t = some (.array m e) := (hk.tb t _ ht).desc
    split at hb
    · rename_i te hte
      have hs := run_sizeOf_T (P := P) hk.tb hte w
      obtain ⟨out, ho, rfl⟩ := Option.map_eq_some_iff.1 hb
      obtain ⟨cs', g1, g2⟩ := fillP_run ho hm hr (zero_rep (φ := φ) z)
      refine ⟨.agg cs'.toArray, ?_, ?_, ?_⟩
      · simp only [Instr.build, Sem.run_bind, hz, Result.andThen_ok, run_underlying hun, hs]
        simp only [Array.toArray_toList] at g1
        rw [g1]; rfl
      · simp only [PVal.und]; exact fu _ _ _ _ ho hu (zero_und z n)
      · simp only [PRep]; exact ⟨cs', rfl, g2⟩
    · cases hb
  · cases hb

theorem pickP_rep {b : Bool} {x y p : PVal} {pre : Prop} {cx cy : Value} {n : Nat → Nat → Prop} (h : pickP b x y = some (p, pre)) (hp : pre) (hx : PRep w O φ x cx) (hy : PRep w O φ y cy) : p.und n ∧ PRep w O φ p (if b then cx else cy) := by
  unfold pickP at h
  have sx : ∀ q : PVal, (match q with | .gd g p => (p, g = true) | p => (p, True) : PVal × Prop) = q.strip := by intro q; cases q <;> rfl
  simp only [sx] at h
  split at h
  · rename_i u v h1 h2
    simp only [Option.some.injEq, Prod.mk.injEq] at h
    obtain ⟨rfl, rfl⟩ := h
    refine ⟨by simp only [PVal.und], ?_⟩
    cases b with
    | true => have := asBool_rep h1 (PRep.strip hx (hp.1 rfl)); simp [PRep, DRep, this]
    | false => have := asBool_rep h2 (PRep.strip hy (hp.2 rfl)); simp [PRep, DRep, this]
  · split at h
    · rename_i k u k' v h1 h2
      split at h
      · rename_i e; subst e
        simp only [Option.some.injEq, Prod.mk.injEq] at h
        obtain ⟨rfl, rfl⟩ := h
        refine ⟨by simp only [PVal.und], ?_⟩
        cases b with
        | true => have := asInt_rep h1 (PRep.strip hx (hp.1 rfl)); simp [PRep, DRep, this]
        | false => have := asInt_rep h2 (PRep.strip hy (hp.2 rfl)); simp [PRep, DRep, this]
      · cases h
    · split at h
      · rename_i q e1 e2
        simp only [Option.some.injEq, Prod.mk.injEq] at h
        obtain ⟨rfl, rfl⟩ := h
        obtain ⟨rfl, hp2⟩ := hp
        have := PRep.strip hx hp2
        rw [show x.strip.1 = .d q by rw [← sx x]; exact e1] at this
        exact ⟨by simp only [PVal.und], by simpa using this⟩
      · rename_i q e1 e2
        simp only [Option.some.injEq, Prod.mk.injEq] at h
        obtain ⟨rfl, rfl⟩ := h
        obtain ⟨rfl, hp2⟩ := hp
        have := PRep.strip hy hp2
        rw [show y.strip.1 = .d q by rw [← sx y]; exact e2] at this
        exact ⟨by simp only [PVal.und], by simpa using this⟩
      · cases h

theorem unP_rep {op : UnOp} {x p : PVal} {c : Value} {n : Nat → Nat → Prop} (h : unP op x = some p) (hx : PRep w O φ x c) : ∃ v, (Op.unary op c).run P w = .ok v w ∧ p.und n ∧ PRep w O φ p v := by
  unfold unP at h
  split at h
  · rename_i k i h1
    cases h
    rw [asInt_rep h1 hx]
    exact ⟨.int k (k.wrap (0 - i)), by simp [Op.unary, Op.intArith], by simp only [PVal.und], by simp only [PRep, DRep]⟩
  · rename_i b h1
    cases h
    rw [asBool_rep h1 hx]
    exact ⟨.bool (!b), by simp [Op.unary], by simp only [PVal.und], by simp only [PRep, DRep]⟩
  · cases h

include hk in
theorem convP_rep {src dst : Nat} {n : Nat → Nat → Prop} {x p : PVal} {c : Value} (hsrc : ∃ d, P.underlying src = some d) (h : convP T dst x = some p) (hx : PRep w O φ x c) : ∃ v, (convert src dst c).run P w = .ok v w ∧ p.und n ∧ PRep w O φ p v := by
  obtain ⟨ds, hs⟩ := hsrc
  unfold convP at h
  split at h
  · rename_i k k' i hkd h1
    have hun : P.underlying dst = some (.int k) := desc_of hk.tb hkd
    cases h
    rw [asInt_rep h1 hx]
    exact ⟨.int k (k.wrap i), by simp [convert, run_underlying hs, run_underlying hun, Conv.intToInt], by simp only [PVal.und], by simp only [PRep, DRep]⟩
  · rename_i hkd h1
    have hun : P.underlying dst = some .string := desc_of hk.tb hkd
    obtain ⟨s, h2, rfl⟩ := Option.map_eq_some_iff.1 h
    rw [asStr_rep h2 hx]
    exact ⟨.string s, by simp [convert, run_underlying hs, run_underlying hun], by simp only [PVal.und], by simp only [PRep, DRep]⟩
  · cases h

end

theorem rep_map_evs {E : Env} {S : Nat → Nat → Prop} {φ : Nat → Nat → Option (Nat × Nat)} {st : St} {a : Act} {w : World} (h : Rst E S φ st a w) {parts : List (Nat × Operand)} (hg : st.gds (parts.map (·.2))) :
    undL S ((parts.map fun q => (q.1, st.evs q.2)).map (·.2)) ∧ PRepL w (Held E φ st.heap) φ ((parts.map fun q => (q.1, st.evs q.2)).map (·.2)) ((parts.map fun q => (q.1, a.eval q.2)).map (·.2)) := by
  have := h.evL (l := parts.map (·.2)) (gds_mem hg)
  simpa [List.map_map, Function.comp_def] using this

theorem underlying_of {P : Program} {T : Nat → Option TI} (hT : TbOK P T) {t : Nat} (h : ((T t).any fun i => i.kind.known) = true) : ∃ d, P.underlying t = some d := by
  cases ht : T t with
  | none => simp [ht] at h
  | some ti =>
    simp only [ht, Option.any_some] at h
    have hd := (hT t ti ht).desc
    cases hkd : ti.kind with
    | other => rw [hkd] at h; cases h
    | struct fs => rw [hkd] at hd; obtain ⟨fields, hu, _⟩ := hd; exact ⟨_, hu⟩
    | func => rw [hkd] at hd; obtain ⟨_, _, _, hu⟩ := hd; exact ⟨_, hu⟩
    | iface => rw [hkd] at hd; obtain ⟨_, hu⟩ := hd; exact ⟨_, hu⟩
    | _ => rw [hkd] at hd; exact ⟨_, hd⟩

theorem roomOf_rep {E : Env} {S : Nat → Nat → Prop} {φ : Nat → Nat → Option (Nat × Nat)} {st : St} {a : Act} {w : World} (h : Rst E S φ st a w) {x : PVal} : ∀ id ver s off len r, x = .own id ver s off len → roomOf st.heap x = some r → (∀ b nn, φ id ver = some (b, nn) → nn = r) ∧ (φ id ver = none → r = 0) := by
  rintro id ver s off len r rfl hr
  simp only [roomOf] at hr
  split at hr
  · rename_i e s' ver' room els hf
    split at hr
    · rename_i hv
      subst hv; subst hr
      have ho := (h.objs id _ hf).2.2.2.2
      simp only [ORep] at ho
      rcases ho with ⟨h1, _, h3⟩ | ⟨b', n', cs, h1, _, _, h4, _⟩
      · exact ⟨fun b nn hb => (by rw [h1] at hb; cases hb), fun _ => h3 r rfl⟩
      · exact ⟨fun b nn hb => (by rw [h1] at hb; cases hb; exact (h4 r rfl).symm), fun hn => (by rw [h1] at hn; cases hn)⟩
    · cases hr
  · cases hr

theorem compute_run {P : Program} {T : Nat → Option TI} {eqt : Nat → Option (List CK)} (hk : Kit P T eqt) {E : Env} {S : Nat → Nat → Prop} {φ : Nat → Nat → Option (Nat × Nat)} {st : St} {a : Act} {w : World} (h : Rst E S φ st a w) {o : Oper} {p : PVal} {pre : Prop}
    (hc : computeP T eqt st o.op = some (p, pre)) (hp : pre) : ∃ c, (execOp a.eval o).run P w = .ok (.value c) w ∧ p.und S ∧ PRep w (Held E φ st.heap) φ p c := by
  have hobj := h.objsOK
  have hobj' : ∀ id o, find id st.heap = some o → ORep w (Held E φ st.heap) φ id o ∧ ∀ b, blk φ id o = some b → b < w.heap.size := fun id o ho => ⟨(hobj id o ho).1, (hobj id o ho).2.2⟩
  obtain ⟨dst, op, type, pos, after, guard⟩ := o
  cases op
  case call cl =>
    obtain ⟨cal, args, ts⟩ := cl
    cases cal with
    | value f => simp only [computeP] at hc; cases hc
    | invoke r m => simp only [computeP] at hc; cases hc
    | builtin b =>
      cases b <;> simp only [computeP] at hc <;> (try (cases hc; done))
      case cap =>
        split at hc
        · rename_i x t e1 e2
          split at hc
          · rename_i e id ver s off len hkd e3
            split at hc
            · rename_i e' s' ver' n els hf
              split at hc
              · rename_i hv
                subst hv
                cases hc
                have hun : P.underlying t = some (.slice e) := desc_of hk.tb hkd
                have ha : args = #[x] := by apply Array.ext'; simpa using e1
                have ht : ts = #[t] := by apply Array.ext'; simpa using e2
                subst ha; subst ht
                have g := (h.evs x (gds_mem hp x (by simp))).2
                rw [e3] at g
                have ho := (hobj id _ hf).1
                simp only [PRep, ORep] at g ho
                have hcv : ∃ ad, a.eval x = .slice ad len (n - off) := by
                  rcases g with ⟨q1, q2, q3, q4⟩ | ⟨b, nn, ad, q1, _, q4, _⟩
                  · rcases ho with ⟨_, _, u3⟩ | ⟨b, n', cs, u1, _⟩
                    · have := u3 n rfl; subst this; subst q2; subst q3; exact ⟨none, q4⟩
                    · rw [q1] at u1; cases u1
                  · rcases ho with ⟨u1, _⟩ | ⟨b', n', cs, u1, _, _, u4, _⟩
                    · rw [q1] at u1; cases u1
                    · rw [q1] at u1
                      simp only [Option.some.injEq, Prod.mk.injEq] at u1
                      obtain ⟨rfl, rfl⟩ := u1
                      have := u4 n rfl; subst this; exact ⟨ad, q4⟩
                obtain ⟨ad, g⟩ := hcv
                refine ⟨.int .i64 ((n - off : Nat) : Int), ?_, by simp only [PVal.und], by simp only [PRep, DRep]⟩
                simp only [execOp, resolve, invoke, builtin, Sem.run_bind, Sem.run_pure, Result.andThen_ok, List.map_toArray, List.map_cons, List.map_nil, g]
                simp [Builtin.cap_, run_underlying hun, goInt]
              · cases hc
            · cases hc
          · cases hc
        · cases hc
      case len =>
        split at hc
        · rename_i x t e1 e2
          obtain ⟨q, h1, h2⟩ := Option.map_eq_some_iff.1 hc
          simp only [Prod.mk.injEq] at h2
          obtain ⟨rfl, rfl⟩ := h2
          have ha : args = #[x] := by apply Array.ext'; simpa using e1
          have ht : ts = #[t] := by apply Array.ext'; simpa using e2
          subst ha; subst ht
          refine ⟨.int .i64 q, ?_, by simp only [PVal.und], by simp only [PRep, DRep]⟩
          have := lenP_run hk h1 (h.evs x (gds_mem hp x (by simp))).2 type
          simp only [execOp, resolve, invoke, builtin, Sem.run_bind, Sem.run_pure, Result.andThen_ok, List.map_toArray, List.map_cons, List.map_nil, this]
        · cases hc
      case max =>
        split at hc
        · rename_i x y e1
          split at hc
          · rename_i k i k' j h1 h2
            cases hc
            have ha : args = #[x, y] := by apply Array.ext'; simpa using e1
            subst ha
            have g1 := asInt_rep h1 (h.evs x (gds_mem hp x (by simp))).2
            have g2 := asInt_rep h2 (h.evs y (gds_mem hp y (by simp))).2
            refine ⟨.int k (maxI i j), ?_, by simp only [PVal.und], by simp only [PRep, DRep]⟩
            simp only [execOp, resolve, invoke, builtin, Sem.run_bind, Sem.run_pure, Result.andThen_ok, List.map_toArray, List.map_cons, List.map_nil, g1, g2]
            simp [Builtin.max_, Builtin.max2, maxI]
          · cases hc
        · cases hc
      case min =>
        split at hc
        · rename_i x y e1
          split at hc
          · rename_i k i k' j h1 h2
            cases hc
            have ha : args = #[x, y] := by apply Array.ext'; simpa using e1
            subst ha
            have g1 := asInt_rep h1 (h.evs x (gds_mem hp x (by simp))).2
            have g2 := asInt_rep h2 (h.evs y (gds_mem hp y (by simp))).2
            refine ⟨.int k (minI i j), ?_, by simp only [PVal.und], by simp only [PRep, DRep]⟩
            simp only [execOp, resolve, invoke, builtin, Sem.run_bind, Sem.run_pure, Result.andThen_ok, List.map_toArray, List.map_cons, List.map_nil, g1, g2]
            simp [Builtin.min_, Builtin.min2, minI]
          · cases hc
        · cases hc
  all_goals simp only [computeP] at hc
  all_goals (try (cases hc; done))
  case move x =>
    cases hc
    exact ⟨_, by simp [execOp], (h.ev x).1, (h.ev x).2⟩
  case assign x =>
    cases hc
    exact ⟨_, by simp [execOp], (h.ev x).1, (h.ev x).2⟩
  case pick c x y =>
    split at hc
    · rename_i t ht
      obtain ⟨⟨q, pr⟩, h1, h2⟩ := Option.map_eq_some_iff.1 hc
      simp only [Prod.mk.injEq] at h2
      obtain ⟨rfl, rfl⟩ := h2
      have hcv := asBool_rep ht (h.evs c (gds_mem hp.1 c (by simp))).2
      obtain ⟨g1, g2⟩ := pickP_rep (n := S) h1 hp.2 (h.ev x).2 (h.ev y).2
      refine ⟨_, ?_, g1, g2⟩
      cases t <;> simp [execOp, hcv, Go.asBool]
    · cases hc
  case unOp op t x =>
    obtain ⟨q, h1, h2⟩ := Option.map_eq_some_iff.1 hc
    simp only [Prod.mk.injEq] at h2
    obtain ⟨rfl, rfl⟩ := h2
    obtain ⟨v, g1, g2, g3⟩ := unP_rep (P := P) (n := S) h1 (h.evs x (gds_mem hp x (by simp))).2
    exact ⟨v, by simp only [execOp]; exact run_v g1, g2, g3⟩
  case binOp op t x y t' =>
    obtain ⟨⟨q, pr⟩, h1, h2⟩ := Option.map_eq_some_iff.1 hc
    simp only [Prod.mk.injEq] at h2
    obtain ⟨rfl, rfl⟩ := h2
    obtain ⟨c, g1, rfl⟩ := binP_run hk hobj' h1 hp.2 (h.evs x (gds_mem hp.1 x (by simp))).2 (h.evs y (gds_mem hp.1 y (by simp))).2 x y
    exact ⟨c, by simp only [execOp]; exact run_v g1, by simp only [PVal.und], by simp only [PRep, DRep]⟩
  case convert src dst x =>
    split at hc
    case isFalse => cases hc
    rename_i hsrc
    obtain ⟨q, h1, h2⟩ := Option.map_eq_some_iff.1 hc
    simp only [Prod.mk.injEq] at h2
    obtain ⟨rfl, rfl⟩ := h2
    obtain ⟨v, g1, g2, g3⟩ := convP_rep hk (n := S) (underlying_of hk.tb hsrc) h1 (h.evs x (gds_mem hp x (by simp))).2
    exact ⟨v, by simp only [execOp]; exact run_v g1, g2, g3⟩
  case build t parts =>
    obtain ⟨q, h1, h2⟩ := Option.map_eq_some_iff.1 hc
    simp only [Prod.mk.injEq] at h2
    obtain ⟨rfl, rfl⟩ := h2
    obtain ⟨r1, r2⟩ := rep_map_evs h hp
    obtain ⟨v, g1, g2, g3⟩ := buildP_run hk h1 (vals := parts.toList.map fun q => (q.1, a.eval q.2)) (by simp [List.map_map, Function.comp_def]) r2 r1
    refine ⟨v, ?_, g2, g3⟩
    simp only [execOp]
    refine run_v ?_
    have e : (parts.map fun (i, x) => (i, a.eval x)) = (parts.toList.map fun q => (q.1, a.eval q.2)).toArray := by
      apply Array.ext'; simp
    rw [e]; exact g1
  case load t x =>
    obtain ⟨q, h1, h2⟩ := Option.map_eq_some_iff.1 hc
    simp only [Prod.mk.injEq] at h2
    obtain ⟨rfl, rfl⟩ := h2
    obtain ⟨v, g1, g2, g3⟩ := loadP_run hk hobj h1 (h.evs x (gds_mem hp x (by simp))).2
    exact ⟨v, by simp only [execOp]; exact run_v g1, g2, g3⟩
  case nilCheck x =>
    have key : ∀ q : PVal, st.evs x = q → (∀ c, PRep w (Held E φ st.heap) φ q c → ∃ ad, c = .pointer (some ad)) → st.gds [x] →
        ∃ c, (execOp a.eval { dst := dst, op := .nilCheck x, type := type, pos := pos, after := after, guard := guard }).run P w = .ok (.value c) w ∧ q.und S ∧ PRep w (Held E φ st.heap) φ q c := by
      rintro q rfl hq hg
      obtain ⟨g1, g2⟩ := h.evs x (gds_mem hg x (by simp))
      obtain ⟨ad, e⟩ := hq _ g2
      refine ⟨_, ?_, g1, g2⟩
      simp only [execOp, e]; rfl
    split at hc
    · rename_i id k e
      cases hc
      refine key _ e (fun c hc => ?_) hp
      simp only [PRep] at hc; obtain ⟨b, _, _, rfl⟩ := hc; exact ⟨_, rfl⟩
    · rename_i cs e
      cases hc
      refine key _ e (fun c hc => ?_) hp
      simp only [PRep] at hc; obtain ⟨b, _, _, rfl, _⟩ := hc; exact ⟨_, rfl⟩
    · rename_i e
      cases hc
      refine key _ e (fun c hc => ?_) hp
      simp only [PRep] at hc; obtain ⟨b, _, _, rfl⟩ := hc; exact ⟨_, rfl⟩
    · cases hc
  case fieldAddr t x f =>
    obtain ⟨q, h1, h2⟩ := Option.map_eq_some_iff.1 hc
    simp only [Prod.mk.injEq] at h2
    obtain ⟨rfl, rfl⟩ := h2
    have he := h.evs x (gds_mem hp x (by simp))
    obtain ⟨v, g1, g2, g3⟩ := fieldAddrP_run hk h1 he.2 he.1
    exact ⟨v, by simp only [execOp]; exact run_v g1, g2, g3⟩
  case field t x f =>
    obtain ⟨q, h1, h2⟩ := Option.map_eq_some_iff.1 hc
    simp only [Prod.mk.injEq] at h2
    obtain ⟨rfl, rfl⟩ := h2
    have he := h.evs x (gds_mem hp x (by simp))
    obtain ⟨v, g1, g2, g3⟩ := fieldP_run hk h1 he.2 he.1
    exact ⟨v, by simp only [execOp]; exact run_v g1, g2, g3⟩
  case indexAddr t x i =>
    obtain ⟨⟨q, pr⟩, h1, h2⟩ := Option.map_eq_some_iff.1 hc
    simp only [Prod.mk.injEq] at h2
    obtain ⟨rfl, rfl⟩ := h2
    have he := h.evs x (gds_mem hp.1 x (by simp))
    obtain ⟨v, g1, g2, g3⟩ := indexAddrP_run hk h1 hp.2 he.2 (h.evs i (gds_mem hp.1 i (by simp))).2 he.1
    exact ⟨v, by simp only [execOp]; exact run_v g1, g2, g3⟩
  case index t x i =>
    obtain ⟨⟨q, pr⟩, h1, h2⟩ := Option.map_eq_some_iff.1 hc
    simp only [Prod.mk.injEq] at h2
    obtain ⟨rfl, rfl⟩ := h2
    have he := h.evs x (gds_mem hp.1 x (by simp))
    obtain ⟨v, g1, g2, g3⟩ := indexP_run hk (n := S) h1 hp.2 he.2 (h.evs i (gds_mem hp.1 i (by simp))).2
    exact ⟨v, by simp only [execOp]; exact run_v g1, g2, g3⟩
  case slice t x lo hi mx =>
    split at hc
    · rename_i l hh m e1 e2 e3
      obtain ⟨⟨q, pr⟩, h1, h2⟩ := Option.map_eq_some_iff.1 hc
      simp only [Prod.mk.injEq] at h2
      obtain ⟨rfl, rfl⟩ := h2
      have he := h.evs x (gds_mem hp.1 x (by simp))
      obtain ⟨v, g1, g2, g3⟩ := sliceP_run hk (optInt_rep h e1) (optInt_rep h e2) (optInt_rep h e3) (rm := roomOf st.heap (st.evs x)) (roomOf_rep h) h1 hp.2 he.2 he.1
      exact ⟨v, by simp only [execOp]; exact run_v g1, g2, g3⟩
    · cases hc
  case extract x i =>
    split at hc
    · rename_i vs e
      obtain ⟨q, h1, h2⟩ := Option.map_eq_some_iff.1 hc
      simp only [Prod.mk.injEq] at h2
      obtain ⟨rfl, rfl⟩ := h2
      obtain ⟨g1, g2⟩ := h.ev x
      rw [e] at g1 g2
      simp only [PRep, PVal.und] at g1 g2
      obtain ⟨cs, e2, g2⟩ := g2
      obtain ⟨c, e3, g3⟩ := g2.get h1
      refine ⟨c, ?_, undL_get g1 h1, g3⟩
      simp only [execOp]
      refine run_v ?_
      rw [e2]
      simp [Instr.extract, e3]
    · rename_i ds e
      obtain ⟨q, h1, h2⟩ := Option.map_eq_some_iff.1 hc
      simp only [Prod.mk.injEq] at h2
      obtain ⟨rfl, rfl⟩ := h2
      obtain ⟨g1, g2⟩ := h.ev x
      rw [e] at g1 g2
      simp only [PRep, DRep, PVal.und] at g1 g2
      obtain ⟨cs, e2, g2⟩ := g2
      obtain ⟨c, e3, g3⟩ := g2.get h1
      refine ⟨c, ?_, by simp only [PVal.und], by simpa only [PRep] using g3⟩
      simp only [execOp]
      refine run_v ?_
      rw [e2]
      simp [Instr.extract, e3]
    · cases hc
  case makeFunc fn first cap =>
    cases hc
    have hall := gds_mem hp
    obtain ⟨u1, r1⟩ := h.evL (l := first.toList) fun x hx => hall x (by simp [hx])
    obtain ⟨u2, r2⟩ := h.evL (l := cap.toList) fun x hx => hall x (by simp [hx])
    refine ⟨.func fn (first.map a.eval) (cap.map a.eval), ?_, by simp only [PVal.und]; exact ⟨u1, u2⟩, ?_⟩
    · simp only [execOp, Instr.makeFunc]; rfl
    · simp only [PRep]
      refine ⟨first.toList.map a.eval, cap.toList.map a.eval, ?_, r1, r2⟩
      congr 1 <;> (apply Array.ext'; simp)
  case makeInterface t x =>
    split at hc
    · rename_i hi
      cases hc
      obtain ⟨g1, g2⟩ := h.evs x (gds_mem hp x (by simp))
      refine ⟨.iface t (a.eval x), ?_, by simpa only [PVal.und] using g1, by simp only [PRep]; exact ⟨_, rfl, g2⟩⟩
      simp only [execOp]
      refine run_v ?_
      cases hT : T t with
      | none => simp [hT] at hi
      | some ti =>
        simp only [hT, Option.any_some, Bool.and_eq_true] at hi
        have hd := (hk.tb t ti hT).desc
        cases hkd : ti.kind with
        | other => rw [hkd] at hi; simp [TK.known] at hi
        | iface => rw [hkd] at hi; simp at hi
        | struct fs => rw [hkd] at hd; obtain ⟨fields, hu, _⟩ := hd; simp [Instr.makeInterface, run_underlying hu]
        | func => rw [hkd] at hd; obtain ⟨_, _, _, hu⟩ := hd; simp [Instr.makeInterface, run_underlying hu]
        | _ => rw [hkd] at hd; have hu : P.underlying t = _ := hd; simp [Instr.makeInterface, run_underlying hu]
    · cases hc

end Go.Proofs.Ytdodgbhodkcckaa.Pv
