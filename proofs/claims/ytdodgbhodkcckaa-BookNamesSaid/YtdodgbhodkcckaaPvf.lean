/- Operations that compute: the machine gives what is told of them. No program is in sight here. -/
import Derived.Test.YtdodgbhodkcckaaPve
set_option linter.unusedVariables false
set_option linter.unusedSimpArgs false
set_option autoImplicit false
namespace Go.Proofs.Ytdodgbhodkcckaa.Pv
open Go Go.RowKit

/-- Struct types whose values are compared cell by cell. -/
def EqOK (P : Program) (t : Nat) (ks : List CK) : Prop := ∀ (xs ys : List Value) (r : Bool), cellsEq ks (xs.map .v) (ys.map .v) = some r → ∀ (w : World) (op : BinOp) (x y : Operand),
  (eqGuard op t x y (.agg xs.toArray) (.agg ys.toArray)).run P w = .ok () w ∧ (Op.equalIn 10000 t (.agg xs.toArray) (.agg ys.toArray)).run P w = .ok r w

/-- What is known of a program's types. -/
structure Kit (P : Program) (T : Nat → Option TI) (eqt : Nat → Option (List CK)) : Prop where
  tb : TbOK P T
  eq : ∀ t ks, eqt t = some ks → EqOK P t ks

section
variable {w : World} {O : Nat → Prop} {φ : Nat → Nat → Option (Nat × Nat)} {p : PVal} {c : Value}

theorem asInt_rep {k : IntKind} {n : Int} (h : asInt p = some (k, n)) (hr : PRep w O φ p c) : c = .int k n := by
  unfold asInt at h; split at h
  · simp only [PRep, DRep] at hr; cases h; exact hr
  · cases h
theorem asBool_rep {b : Bool} (h : asBool p = some b) (hr : PRep w O φ p c) : c = .bool b := by
  unfold asBool at h; split at h
  · simp only [PRep, DRep] at hr; cases h; exact hr
  · cases h
theorem asStr_rep {s : ByteArray} (h : asStr p = some s) (hr : PRep w O φ p c) : c = .string s := by
  unfold asStr at h; split at h
  · simp only [PRep, DRep] at hr; cases h; exact hr
  · cases h

/-- A slice that stays, as the machine has it. -/
theorem asSlc_rep {s : Nat} {els : List D} (h : asSlc s p = some els) (hr : PRep w O φ p c) : ∃ a cap, c = .slice a els.length cap ∧ els.length ≤ cap ∧
    (els = [] ∨ ∃ b off, a = some ⟨b, off, none⟩ ∧ ¬ O b ∧ b < w.heap.size ∧ DRepE w O b s els off) := by
  unfold asSlc at h; split at h
  · split at h
    · rename_i e; subst e; cases h
      simpa only [PRep, DRep] using hr
    · cases h
  · cases h
    simp only [PRep, DRep] at hr
    exact ⟨_, _, by rw [hr]; rfl, by simp, .inl rfl⟩
  · cases h
end

theorem intOp_run {P : Program} {op : BinOp} {k k' : IntKind} {a b : Int} {v : Value} {pre : Prop} (h : intOp op k k' a b = some (v, pre)) (hp : pre) (t : Nat) (w : World) :
    (binOp op t (.int k a) (.int k' b)).run P w = .ok v w := by
  cases op <;> simp only [intOp] at h <;>
    first
    | (cases h
       simp only [binOp, Op.shift]
       have : ¬ b < 0 := by omega
       simp [this]; done)
    | (split at h
       · rename_i e; subst e
         first
         | (cases h; done)
         | (simp only [Option.some.injEq, Prod.mk.injEq] at h
            obtain ⟨rfl, rfl⟩ := h
            first
            | (simp [binOp, Op.intArith]; done)
            | (simp [binOp, Op.intCmp]; done)
            | (simp [binOp, Op.intBits]; done)
            | (simp [binOp, Op.intDiv, hp]; done))
       · cases h)

theorem strOp_run {P : Program} {op : BinOp} {a b : ByteArray} {v : Value} {pre : Prop} (h : strOp op a b = some (v, pre)) (hp : pre) (t : Nat) (w : World) :
    (binOp op t (.string a) (.string b)).run P w = .ok v w := by
  cases op <;> simp only [strOp] at h <;> first
    | (cases h; done)
    | (simp only [Option.some.injEq, Prod.mk.injEq] at h
       obtain ⟨rfl, rfl⟩ := h
       first
       | (simp [binOp, Op.stringOp]; done)
       | (simp only [binOp, Op.stringOp]
          have : ¬ (((a.size + b.size : Nat) : Int) > IntKind.i64.max) := by simp [IntKind.max, IntKind.bits, IntKind.signed]; omega
          simp only [this, if_false]; rfl))

theorem eqGuard_int {P : Program} (op : BinOp) (t : Nat) (x y : Operand) (k k' : IntKind) (a b : Int) (w : World) : (eqGuard op t x y (.int k a) (.int k' b)).run P w = .ok () w := by
  cases op <;> simp [eqGuard]
theorem eqGuard_str {P : Program} (op : BinOp) (t : Nat) (x y : Operand) (a b : ByteArray) (w : World) : (eqGuard op t x y (.string a) (.string b)).run P w = .ok () w := by
  cases op <;> simp [eqGuard]
theorem eqGuard_bool {P : Program} (op : BinOp) (t : Nat) (x y : Operand) (a b : Bool) (w : World) : (eqGuard op t x y (.bool a) (.bool b)).run P w = .ok () w := by
  cases op <;> simp [eqGuard]

theorem bool_run {P : Program} {t : Nat} (hu : P.underlying t = some .bool) (a b : Bool) (w : World) :
    (binOp .eql t (.bool a) (.bool b)).run P w = .ok (.bool (a == b)) w ∧ (binOp .neq t (.bool a) (.bool b)).run P w = .ok (.bool (!(a == b))) w := by
  constructor <;> simp [binOp, Op.equal, Op.maxDepth, run_equalIn_bool w 9999 t a b hu]

/-- Cells that are compared are the values that are told. -/
theorem cellsEq_vals {w : World} {O : Nat → Prop} : ∀ {ks : List CK} {ds es : List D} {xs ys : List Value} {r : Bool}, cellsEq ks ds es = some r → DRepL w O ds xs → DRepL w O es ys → ds = xs.map .v ∧ es = ys.map .v
  | [], [], [], xs, ys, r, h, h1, h2 => by simp only [DRepL] at h1 h2; simp [h1, h2]
  | [], [], e :: es, xs, ys, r, h, h1, h2 => by simp [cellsEq] at h
  | [], d :: ds, es, xs, ys, r, h, h1, h2 => by simp [cellsEq] at h
  | k :: ks, [], es, xs, ys, r, h, h1, h2 => by simp [cellsEq] at h
  | k :: ks, d :: ds, [], xs, ys, r, h, h1, h2 => by simp [cellsEq] at h
  | k :: ks, d :: ds, e :: es, xs, ys, r, h, h1, h2 => by
    simp only [DRepL] at h1 h2
    obtain ⟨c, cs, rfl, g1, g2⟩ := h1
    obtain ⟨c', cs', rfl, g3, g4⟩ := h2
    have key : (∃ q, cellEq k d e = some q) ∧ ((ks = [] ∧ ds = [] ∧ es = []) ∨ ∃ q, cellsEq ks ds es = some q) := by
      unfold cellsEq at h
      split at h
      · rename_i h1 h2 h3; cases h1
      · rename_i h1 h2 h3
        simp only [List.cons.injEq] at h1 h2 h3
        obtain ⟨rfl, rfl⟩ := h1
        obtain ⟨rfl, rfl⟩ := h2
        obtain ⟨rfl, rfl⟩ := h3
        exact ⟨⟨r, h⟩, .inl ⟨rfl, rfl, rfl⟩⟩
      · rename_i h1 h2 h3
        simp only [List.cons.injEq] at h1 h2 h3
        obtain ⟨rfl, rfl⟩ := h1
        obtain ⟨rfl, rfl⟩ := h2
        obtain ⟨rfl, rfl⟩ := h3
        split at h
        · rename_i x y hx hy; exact ⟨⟨x, hx⟩, .inr ⟨y, hy⟩⟩
        · cases h
      · cases h
    obtain ⟨⟨q, hq⟩, hrest⟩ := key
    have hv : d = .v c ∧ e = .v c' := by
      unfold cellEq at hq
      split at hq <;> first
        | (simp only [DRep] at g1 g3; subst g1; subst g3; exact ⟨rfl, rfl⟩)
        | cases hq
    obtain ⟨rfl, rfl⟩ := hv
    rcases hrest with ⟨rfl, rfl, rfl⟩ | ⟨q2, hq2⟩
    · simp only [DRepL] at g2 g4; subst g2; subst g4; simp
    · have := cellsEq_vals hq2 g2 g4
      simp [this.1, this.2]

theorem Keeps.same (O : Nat → Prop) (w : World) : Keeps O w w := ⟨Nat.le_refl _, fun _ _ _ => rfl⟩

section
variable {w w' : World} {O O' : Nat → Prop}
mutual
/-- No address in it: it is data in whatever world. -/
theorem DRep.flat : ∀ (d : D) (c : Value), d.flat = true → DRep w O d c → DRep w' O' d c
  | .v x, c, _, h => by simpa only [DRep] using h
  | .agg ds, c, hf, h => by
    simp only [DRep, D.flat] at h hf ⊢
    obtain ⟨cs, e, h⟩ := h
    exact ⟨cs, e, DRepL.flat ds cs hf h⟩
  | .tup ds, c, hf, h => by
    simp only [DRep, D.flat] at h hf ⊢
    obtain ⟨cs, e, h⟩ := h
    exact ⟨cs, e, DRepL.flat ds cs hf h⟩
  | .slc s es, c, hf, h => by simp [D.flat] at hf
  | .ifc t p, c, hf, h => by simp [D.flat] at hf
  | .fn f a b, c, hf, h => by simp [D.flat] at hf
  | .ptr _, c, hf, h => by simp [D.flat] at hf
theorem DRepL.flat : ∀ (ds : List D) (cs : List Value), flatL ds = true → DRepL w O ds cs → DRepL w' O' ds cs
  | [], cs, _, h => by simpa only [DRepL] using h
  | d :: ds, cs, hf, h => by
    simp only [DRepL, flatL, Bool.and_eq_true] at h hf ⊢
    obtain ⟨c, cs', e, h1, h2⟩ := h
    exact ⟨c, cs', e, DRep.flat d c hf.1 h1, DRepL.flat ds cs' hf.2 h2⟩
end
end

theorem dataL_rep {w : World} {O : Nat → Prop} {φ : Nat → Nat → Option (Nat × Nat)} : ∀ {ps : List PVal} {ds : List D} {cs : List Value}, dataL ps = some ds → PRepL w O φ ps cs → DRepL w O ds cs
  | [], ds, cs, h, hr => by simp only [dataL, Option.some.injEq] at h; subst h; simpa only [PRepL, DRepL] using hr
  | p :: ps, ds, cs, h, hr => by
    simp only [dataL] at h
    split at h
    · rename_i x xs hx
      simp only [Option.some.injEq] at h; subst h
      simp only [PRepL, PRep] at hr
      obtain ⟨c, cs', rfl, h1, h2⟩ := hr
      simp only [DRepL]
      exact ⟨c, cs', rfl, h1, dataL_rep hx h2⟩
    · cases h

section
variable {w : World} {O O' : Nat → Prop} {φ : Nat → Nat → Option (Nat × Nat)} {h : List (Nat × PObj)}
mutual
/-- What a frame holds, as data: for whoever owns none of the rows that it names. -/
theorem toD_rep (hobj : ∀ id o, find id h = some o → ORep w O φ id o ∧ ∀ b, blk φ id o = some b → b < w.heap.size) (hO : ∀ b, O' b → O b) : ∀ (p : PVal) (d : D) (c : Value), p.toD h = some d →
    (∀ id o b, id ∈ p.ids → find id h = some o → blk φ id o = some b → ¬ O' b) → PRep w O φ p c → DRep w O' d c
  | .d x, d, c, hd, _, hr => by
    simp only [PVal.toD, Option.some.injEq] at hd; subst hd
    simp only [PRep] at hr
    exact DRep.keep (Keeps.same _ _) (fun b _ => hO b) x c hr
  | .agg ps, d, c, hd, hx, hr => by
    simp only [PVal.toD, Option.map_eq_some_iff] at hd
    obtain ⟨ds, hds, rfl⟩ := hd
    simp only [PRep] at hr
    obtain ⟨cs, rfl, hr⟩ := hr
    simp only [DRep]
    exact ⟨cs, rfl, toDL_rep hobj hO ps ds cs hds (fun id o b hm => hx id o b (by simpa only [PVal.ids] using hm)) hr⟩
  | .tup ps, d, c, hd, hx, hr => by
    simp only [PVal.toD, Option.map_eq_some_iff] at hd
    obtain ⟨ds, hds, rfl⟩ := hd
    simp only [PRep] at hr
    obtain ⟨cs, rfl, hr⟩ := hr
    simp only [DRep]
    exact ⟨cs, rfl, toDL_rep hobj hO ps ds cs hds (fun id o b hm => hx id o b (by simpa only [PVal.ids] using hm)) hr⟩
  | .own id ver s off len, d, c, hd, hx, hr => by
    simp only [PVal.toD] at hd
    split at hd
    · rename_i e' s' ver' room els hf
      split at hd
      · rename_i hc
        obtain ⟨rfl, rfl, hlen⟩ := hc
        simp only [Option.some.injEq] at hd; subst hd
        simp only [PRep] at hr
        have hln : ((els.drop off).take len).length = len := by simp; omega
        simp only [DRep, hln]
        rcases hr with ⟨_, _, rfl, rfl⟩ | ⟨b, n, ad, hφ, hle, rfl, had⟩
        · exact ⟨none, 0, rfl, Nat.le_refl _, .inl (by simp)⟩
        · refine ⟨ad, n - off, rfl, by omega, ?_⟩
          by_cases h0 : len = 0
          · left; subst h0; simp
          · right
            obtain rfl := had.resolve_left (by omega)
            have ho := hobj id _ hf
            simp only [ORep, blk] at ho
            obtain ⟨h1, h4⟩ := ho
            obtain ⟨b', n', cs, g1, g2, g3, g3', g4, g5, g6⟩ := h1.resolve_left (by intro hh; rw [hh.1] at hφ; cases hφ)
            rw [hφ] at g1
            simp only [Option.some.injEq, Prod.mk.injEq] at g1
            obtain ⟨rfl, rfl⟩ := g1
            refine ⟨b, off * s, rfl, hx id _ b (by simp [PVal.ids]) hf (by simp [blk, hφ]), h4 b (by rw [hφ]; rfl), ?_⟩
            have := (g6.drop off).take len
            rw [Nat.zero_add] at this
            exact DRepE.keep (Keeps.same _ _) (fun b _ => hO b) rfl _ _ this
      · cases hd
    · cases hd
  | .clo f a b, d, c, hd, hx, hr => by
    simp only [PVal.toD] at hd
    split at hd
    · rename_i x y hx1 hy1
      simp only [Option.some.injEq] at hd; subst hd
      simp only [PRep] at hr
      obtain ⟨u, v, rfl, h1, h2⟩ := hr
      simp only [DRep]
      exact ⟨u, v, rfl, toDL_rep hobj hO a x u hx1 (fun id o b hm => hx id o b (by simp only [PVal.ids, List.mem_append]; exact .inl hm)) h1,
        toDL_rep hobj hO b y v hy1 (fun id o b hm => hx id o b (by simp only [PVal.ids, List.mem_append]; exact .inr hm)) h2⟩
    · cases hd
  | .ifc t p, d, c, hd, hx, hr => by
    simp only [PVal.toD, Option.map_eq_some_iff] at hd
    obtain ⟨x, hxd, rfl⟩ := hd
    simp only [PRep] at hr
    obtain ⟨u, rfl, hr⟩ := hr
    simp only [DRep]
    exact ⟨u, rfl, toD_rep hobj hO p x u hxd (fun id o b hm => hx id o b (by simpa only [PVal.ids] using hm)) hr⟩
  | .ref id k, d, c, hd, hx, hr => by
    simp only [PVal.toD] at hd
    split at hd
    · rename_i cells hf
      obtain ⟨ds, hds, rfl⟩ := Option.map_eq_some_iff.1 hd
      simp only [PRep] at hr
      obtain ⟨b, n, hb, rfl⟩ := hr
      have ho := hobj id _ hf
      simp only [ORep, blk] at ho
      obtain ⟨⟨b', n', cs, ty, g1, g2, g3⟩, h4⟩ := ho
      rw [hb] at g1
      simp only [Option.some.injEq, Prod.mk.injEq] at g1
      obtain ⟨rfl, rfl⟩ := g1
      simp only [DRep]
      refine ⟨b, k, cs.drop k, rfl, hx id _ b (by simp [PVal.ids]) hf (by simp [blk, hb]), h4 b (by rw [hb]; rfl), ?_, ?_⟩
      · exact DRepL.drop (DRepL.keep (Keeps.same _ _) (fun b _ => hO b) _ _ (dataL_rep hds g3)) k
      · have := (CellsAt.row g2).drop k
        rwa [Nat.zero_add] at this
    · cases hd
  | .refE _ _ _ _ _, d, c, hd, _, _ => by simp [PVal.toD] at hd
  | .mp _, d, c, hd, _, _ => by simp [PVal.toD] at hd
  | .gd _ _, d, c, hd, _, _ => by simp [PVal.toD] at hd
  | .dead, d, c, hd, _, _ => by simp [PVal.toD] at hd
theorem toDL_rep (hobj : ∀ id o, find id h = some o → ORep w O φ id o ∧ ∀ b, blk φ id o = some b → b < w.heap.size) (hO : ∀ b, O' b → O b) : ∀ (ps : List PVal) (ds : List D) (cs : List Value), toDL h ps = some ds →
    (∀ id o b, id ∈ idsL ps → find id h = some o → blk φ id o = some b → ¬ O' b) → PRepL w O φ ps cs → DRepL w O' ds cs
  | [], ds, cs, hd, _, hr => by
    simp only [toDL, Option.some.injEq] at hd; subst hd
    simpa only [PRepL, DRepL] using hr
  | p :: ps, ds, cs, hd, hx, hr => by
    simp only [toDL] at hd
    split at hd
    · rename_i x xs hx1 hx2
      simp only [Option.some.injEq] at hd; subst hd
      simp only [PRepL] at hr
      obtain ⟨c, cs', rfl, h1, h2⟩ := hr
      simp only [DRepL]
      exact ⟨c, cs', rfl, toD_rep hobj hO p x c hx1 (fun id o b hm => hx id o b (by simp only [idsL, List.mem_append]; exact .inl hm)) h1,
        toDL_rep hobj hO ps xs cs' hx2 (fun id o b hm => hx id o b (by simp only [idsL, List.mem_append]; exact .inr hm)) h2⟩
    · cases hd
end
end


section
variable {P : Program} {T : Nat → Option TI} {eqt : Nat → Option (List CK)} (hk : Kit P T eqt) {w : World} {O : Nat → Prop} {φ : Nat → Nat → Option (Nat × Nat)} {h : List (Nat × PObj)}

theorem eql_of {t : Nat} {x y : Value} {r : Bool} (hop : ∀ op, binOp op t x y = match op with | .eql => (do pure (.bool (← Op.equal t x y))) | .neq => (do pure (.bool (!(← Op.equal t x y)))) | _ => binOp op t x y)
    (hg : ∀ op ox oy, (eqGuard op t ox oy x y).run P w = .ok () w) (he : (Op.equalIn (9999 + 1) t x y).run P w = .ok r w) (ox oy : Operand) :
    (do eqGuard .eql t ox oy x y; binOp .eql t x y : Sem Value).run P w = .ok (.bool r) w ∧ (do eqGuard .neq t ox oy x y; binOp .neq t x y : Sem Value).run P w = .ok (.bool (!r)) w := by
  have he' : (Op.equal t x y).run P w = .ok r w := he
  constructor
  · rw [Sem.run_bind, hg, Result.andThen_ok, hop .eql]; simp [he']
  · rw [Sem.run_bind, hg, Result.andThen_ok, hop .neq]; simp [he']

/-- A value of a kind that can be nil, and whether it is. -/
inductive NilV (P : Program) (t : Nat) : Bool → Value → Prop where
  | f0 {a b c} : P.underlying t = some (.func a b c) → NilV P t true .nilFunc
  | f1 {a b c} (f : Fn) (u v : Array Value) : P.underlying t = some (.func a b c) → NilV P t false (.func f u v)
  | p0 {e} : P.underlying t = some (.pointer e) → NilV P t true (.pointer none)
  | p1 {e} (a : Addr) : P.underlying t = some (.pointer e) → NilV P t false (.pointer (some a))
  | s0 {e} (n m : Nat) : P.underlying t = some (.slice e) → NilV P t true (.slice none n m)
  | s1 {e} (a : Addr) (n m : Nat) : P.underlying t = some (.slice e) → NilV P t false (.slice (some a) n m)
  | m0 {e u} : P.underlying t = some (.map e u) → NilV P t true (.map none)
  | m1 {e u} (r : Nat) : P.underlying t = some (.map e u) → NilV P t false (.map (some r))

theorem isNil_rep {k : TK} {t : Nat} (hd : DescOK P t k) {p : PVal} {b : Bool} {c : Value} (hn : isNil k p = some b) (hr : PRep w O φ p c) : NilV P t b c := by
  unfold isNil at hn
  split at hn <;> first
    | (cases hn; done)
    | (cases hn
       simp only [PRep, DRep, DescOK] at hr hd
       first
       | (obtain ⟨_, _, _, hu⟩ := hd; subst hr; exact .f0 hu)
       | (obtain ⟨_, _, _, hu⟩ := hd; subst hr; exact .f1 _ _ _ hu)
       | (obtain ⟨_, _, _, hu⟩ := hd; obtain ⟨u, v, rfl, _⟩ := hr; exact .f1 _ _ _ hu)
       | (subst hr; exact .p0 hd)
       | (obtain ⟨b', _, _, rfl⟩ := hr; exact .p1 _ hd)
       | (obtain ⟨b', off, cs, rfl, _⟩ := hr; exact .p1 _ hd)
       | (subst hr; exact .s0 _ _ hd)
       | (subst hr; exact .s1 _ _ _ hd)
       | (obtain ⟨a, cap, rfl, _, hE⟩ := hr; obtain ⟨b', off, rfl, _⟩ := hE.resolve_left (by simp); exact .s1 _ _ _ hd)
       | (subst hr; exact .m0 hd)
       | (obtain ⟨b', _, _, rfl⟩ := hr; exact .m1 _ hd))

theorem NilV.eq {t : Nat} {a b : Bool} {x y : Value} (hx : NilV P t a x) (hy : NilV P t b y) (h : a = true ∨ b = true) (d : Nat) : (Op.equalIn (d + 1) t x y).run P w = .ok (a && b) w := by
  cases hx with
  | f0 hu =>
    cases hy with
    | f0 _ => simp only [Op.equalIn, Sem.run_bind, run_underlying hu, Result.andThen_ok]; rfl
    | f1 f u v _ => simp only [Op.equalIn, Sem.run_bind, run_underlying hu, Result.andThen_ok]; rfl
    | _ => exfalso; first | (rename_i hv; rw [hu] at hv; cases hv; done) | (rename_i hv _; rw [hu] at hv; cases hv; done)
  | f1 f u v hu =>
    cases hy with
    | f0 _ => simp only [Op.equalIn, Sem.run_bind, run_underlying hu, Result.andThen_ok]; rfl
    | f1 f u v _ => simp at h
    | _ => exfalso; first | (rename_i hv; rw [hu] at hv; cases hv; done) | (rename_i hv _; rw [hu] at hv; cases hv; done)
  | p0 hu =>
    cases hy with
    | p0 _ => simp only [Op.equalIn, Sem.run_bind, run_underlying hu, Result.andThen_ok]; rfl
    | p1 a _ => simp only [Op.equalIn, Sem.run_bind, run_underlying hu, Result.andThen_ok]; rfl
    | _ => exfalso; first | (rename_i hv; rw [hu] at hv; cases hv; done) | (rename_i hv _; rw [hu] at hv; cases hv; done)
  | p1 ad hu =>
    cases hy with
    | p0 _ => simp only [Op.equalIn, Sem.run_bind, run_underlying hu, Result.andThen_ok]; rfl
    | p1 a _ => simp at h
    | _ => exfalso; first | (rename_i hv; rw [hu] at hv; cases hv; done) | (rename_i hv _; rw [hu] at hv; cases hv; done)
  | s0 n m hu =>
    cases hy with
    | s0 n m _ => simp only [Op.equalIn, Sem.run_bind, run_underlying hu, Result.andThen_ok]; rfl
    | s1 a n m _ => simp only [Op.equalIn, Sem.run_bind, run_underlying hu, Result.andThen_ok]; rfl
    | _ => exfalso; first | (rename_i hv; rw [hu] at hv; cases hv; done) | (rename_i hv _; rw [hu] at hv; cases hv; done)
  | s1 ad n m hu =>
    cases hy with
    | s0 n m _ => simp only [Op.equalIn, Sem.run_bind, run_underlying hu, Result.andThen_ok]; rfl
    | s1 a n m _ => simp at h
    | _ => exfalso; first | (rename_i hv; rw [hu] at hv; cases hv; done) | (rename_i hv _; rw [hu] at hv; cases hv; done)
  | m0 hu =>
    cases hy with
    | m0 _ => simp only [Op.equalIn, Sem.run_bind, run_underlying hu, Result.andThen_ok]; rfl
    | m1 r _ => simp only [Op.equalIn, Sem.run_bind, run_underlying hu, Result.andThen_ok]; rfl
    | _ => exfalso; first | (rename_i hv; rw [hu] at hv; cases hv; done) | (rename_i hv _; rw [hu] at hv; cases hv; done)
  | m1 r hu =>
    cases hy with
    | m0 _ => simp only [Op.equalIn, Sem.run_bind, run_underlying hu, Result.andThen_ok]; rfl
    | m1 r _ => simp at h
    | _ => exfalso; first | (rename_i hv; rw [hu] at hv; cases hv; done) | (rename_i hv _; rw [hu] at hv; cases hv; done)

theorem NilV.run {t : Nat} {a b : Bool} {x y : Value} (hx : NilV P t a x) (hy : NilV P t b y) (h : a = true ∨ b = true) (ox oy : Operand) :
    (do eqGuard .eql t ox oy x y; binOp .eql t x y : Sem Value).run P w = .ok (.bool (a && b)) w ∧ (do eqGuard .neq t ox oy x y; binOp .neq t x y : Sem Value).run P w = .ok (.bool (!(a && b))) w := by
  refine eql_of ?_ ?_ (NilV.eq hx hy h 9999) ox oy
  · intro op; cases hx <;> cases op <;> rfl
  · intro op ox oy; cases hx <;> cases op <;> simp [eqGuard]

theorem nilP_run {k : TK} {t : Nat} (hd : DescOK P t k) {op : BinOp} {x y q : PVal} {pre : Prop} {cx cy : Value} (hb : nilP k op x y = some (q, pre)) (hx : PRep w O φ x cx) (hy : PRep w O φ y cy) (ox oy : Operand) :
    ∃ c, (do eqGuard op t ox oy cx cy; binOp op t cx cy : Sem Value).run P w = .ok c w ∧ q = .d (.v c) := by
  unfold nilP at hb
  split at hb <;> first
    | (cases hb; done)
    | (rename_i b h1 h2
       have g := NilV.run (w := w) (isNil_rep hd h1 hx) (isNil_rep hd h2 hy) (by first | exact .inl rfl | exact .inr rfl) ox oy
       simp only [Option.some.injEq, Prod.mk.injEq] at hb
       obtain ⟨rfl, _⟩ := hb
       simp only [Bool.and_true, Bool.true_and] at g
       first | exact ⟨_, g.1, rfl⟩ | exact ⟨_, g.2, rfl⟩)

include hk in
theorem binP_run (hobj : ∀ id o, find id h = some o → ORep w O φ id o ∧ ∀ b, blk φ id o = some b → b < w.heap.size) {op : BinOp} {t : Nat} {x y q : PVal} {pre : Prop} {cx cy : Value}
    (hb : binP T eqt h op t x y = some (q, pre)) (hp : pre) (hx : PRep w O φ x cx) (hy : PRep w O φ y cy) (ox oy : Operand) :
    ∃ c, (do eqGuard op t ox oy cx cy; binOp op t cx cy : Sem Value).run P w = .ok c w ∧ q = .d (.v c) := by
  unfold binP at hb
  split at hb
  · rename_i k a k' b h1 h2
    rw [asInt_rep h1 hx, asInt_rep h2 hy]
    cases hi : intOp op k k' a b with
    | none => simp [hi] at hb
    | some r =>
      obtain ⟨v, pr⟩ := r
      simp only [hi, Option.map_some, Option.some.injEq, Prod.mk.injEq] at hb
      obtain ⟨rfl, rfl⟩ := hb
      refine ⟨v, ?_, rfl⟩
      rw [Sem.run_bind, eqGuard_int, Result.andThen_ok, intOp_run hi hp]
  · split at hb
    · rename_i a b h1 h2
      rw [asStr_rep h1 hx, asStr_rep h2 hy]
      cases hi : strOp op a b with
      | none => simp [hi] at hb
      | some r =>
        obtain ⟨v, pr⟩ := r
        simp only [hi, Option.map_some, Option.some.injEq, Prod.mk.injEq] at hb
        obtain ⟨rfl, rfl⟩ := hb
        refine ⟨v, ?_, rfl⟩
        rw [Sem.run_bind, eqGuard_str, Result.andThen_ok, strOp_run hi hp]
    · split at hb
      · rename_i hk'
        have hu : P.underlying t = some .bool := desc_of hk.tb hk'
        split at hb
        · rename_i a b h1 h2
          rw [asBool_rep h1 hx, asBool_rep h2 hy]
          simp only [Option.some.injEq, Prod.mk.injEq] at hb
          obtain ⟨rfl, _⟩ := hb
          exact ⟨_, by rw [Sem.run_bind, eqGuard_bool, Result.andThen_ok]; exact (bool_run hu a b w).1, rfl⟩
        · rename_i a b h1 h2
          rw [asBool_rep h1 hx, asBool_rep h2 hy]
          simp only [Option.some.injEq, Prod.mk.injEq] at hb
          obtain ⟨rfl, _⟩ := hb
          exact ⟨_, by rw [Sem.run_bind, eqGuard_bool, Result.andThen_ok]; exact (bool_run hu a b w).2, rfl⟩
        · cases hb
      · split at hb
        · rename_i he
          unfold recP at hb
          split at hb
          · rename_i xs ys h1 h2
            have g1 := toD_rep (O' := fun _ => False) hobj (fun _ h => h.elim) x _ cx h1 (fun _ _ _ _ _ _ h => h) hx
            have g2 := toD_rep (O' := fun _ => False) hobj (fun _ h => h.elim) y _ cy h2 (fun _ _ _ _ _ _ h => h) hy
            simp only [DRep] at g1 g2
            obtain ⟨us, rfl, g1⟩ := g1
            obtain ⟨vs, rfl, g2⟩ := g2
            split at hb
            · rename_i r hr
              simp only [Option.some.injEq, Prod.mk.injEq] at hb
              obtain ⟨rfl, _⟩ := hb
              obtain ⟨rfl, rfl⟩ := cellsEq_vals hr g1 g2
              obtain ⟨e1, e2⟩ := hk.eq t _ he us vs r hr w .eql ox oy
              refine ⟨.bool r, ?_, rfl⟩
              rw [Sem.run_bind, e1, Result.andThen_ok, run_eql_struct, e2]; rfl
            · rename_i r hr
              simp only [Option.some.injEq, Prod.mk.injEq] at hb
              obtain ⟨rfl, _⟩ := hb
              obtain ⟨rfl, rfl⟩ := cellsEq_vals hr g1 g2
              obtain ⟨e1, e2⟩ := hk.eq t _ he us vs r hr w .neq ox oy
              refine ⟨.bool (!r), ?_, rfl⟩
              rw [Sem.run_bind, e1, Result.andThen_ok, run_neq_struct, e2]; rfl
            · cases hb
          · cases hb
        · cases hb
      · rename_i k hk'
        exact nilP_run (desc_of hk.tb hk') hb hx hy ox oy
      · cases hb
end

end Go.Proofs.Ytdodgbhodkcckaa.Pv
