/- Regions whose order is drawn: what comes out is the same in every order. No program is in sight here. -/
import Derived.Test.YtdodgbhodkcckaaPvr
set_option linter.unusedVariables false
set_option linter.unusedSectionVars false
set_option linter.unusedSimpArgs false
set_option autoImplicit false
namespace Go.Proofs.Ytdodgbhodkcckaa.Pv
open Go Go.RowKit

/-! ### What is ahead of what -/
/-- Those that an operation must come behind. -/
def direct (o : Oper) : List Nat := (o.after.toList.filter fun e => Region.binds .any e).map (·.on)
def maskL (cl : List Nat) : List Nat → Nat
  | [] => 0
  | j :: l => (2 ^ j ||| cl.getD j 0) ||| maskL cl l
/-- For each operation: those that come ahead of it, as a mask. -/
def closs : List Oper → List Nat → List Nat
  | [], acc => acc
  | o :: rest, acc => closs rest (acc ++ [maskL acc (direct o)])

theorem maskL_bit {cl : List Nat} {k : Nat} : ∀ {l : List Nat}, (maskL cl l).testBit k = true → ∃ j ∈ l, k = j ∨ (cl.getD j 0).testBit k = true
  | [], h => by simp [maskL] at h
  | j :: l, h => by
    simp only [maskL, Nat.testBit_or, Bool.or_eq_true] at h
    rcases h with (h | h) | h
    · rw [Nat.testBit_two_pow] at h
      exact ⟨j, by simp, .inl (Eq.symm (by simpa using h))⟩
    · exact ⟨j, by simp, .inr h⟩
    · obtain ⟨j', h1, h2⟩ := maskL_bit h
      exact ⟨j', by simp [h1], h2⟩

theorem closs_acc : ∀ (l : List Oper) (acc : List Nat), ∃ t, closs l acc = acc ++ t
  | [], acc => ⟨[], by simp [closs]⟩
  | o :: l, acc => by
    obtain ⟨t, h⟩ := closs_acc l (acc ++ [maskL acc (direct o)])
    exact ⟨maskL acc (direct o) :: t, by rw [closs, h]; simp⟩

theorem closs_get : ∀ (l : List Oper) (acc : List Nat) (i : Nat) (o : Oper), l[i]? = some o → (closs l acc)[acc.length + i]? = some (maskL ((closs l acc).take (acc.length + i)) (direct o))
  | [], acc, i, o, h => by simp at h
  | o' :: l, acc, i, o, h => by
    cases i with
    | zero =>
      simp at h; subst h
      obtain ⟨t, ht⟩ := closs_acc l (acc ++ [maskL acc (direct o')])
      simp only [closs, ht, Nat.add_zero]
      rw [List.append_assoc, List.take_left, List.getElem?_append_right (Nat.le_refl _)]
      simp
    | succ i =>
      have := closs_get l (acc ++ [maskL acc (direct o')]) i o (by simpa using h)
      simp only [closs]
      simp only [List.length_append, List.length_cons, List.length_nil] at this
      rw [show acc.length + (i + 1) = acc.length + (0 + 1) + i by omega]
      exact this

def disj (a b : List Nat) : Bool := a.all fun x => !b.contains x

/-- Two operations that no order binds get not in each other's way. -/
def apartB (ops : Array Oper) (feet : List Foot) (i j : Nat) : Bool := match ops[i]?, ops[j]?, feet[i]?, feet[j]? with
  | some oi, some oj, some fi, some fj => oi.apart ops oj && disj fi.wr fj.rd && disj fi.wr fj.wr && disj fi.rd fj.wr
  | _, _, _, _ => false

def orderOK (ops : Array Oper) (feet : List Foot) : Bool :=
  let cl := closs ops.toList []
  (List.range ops.size).all fun j => ((ops[j]?).map fun o => (direct o).all fun i => decide (i < j)).getD false && (List.range j).all fun i => (cl.getD j 0).testBit i || apartB ops feet i j

/-! ### States behind some of the operations -/
def lastOf (id : Nat) : List (Nat × PObj) → Option PObj
  | [] => none
  | (i, o) :: l => match lastOf id l with
    | some x => some x
    | none => if id = i then some o else none

theorem find_updAll' : ∀ (l h : List (Nat × PObj)) (id : Nat), find id (updAll l h) = match lastOf id l with | some o => some o | none => find id h
  | [], h, id => by simp [updAll, lastOf]
  | (i, o) :: l, h, id => by
    simp only [updAll, lastOf]
    rw [find_updAll' l _ id]
    cases lastOf id l with
    | some x => rfl
    | none =>
      by_cases e : id = i
      · subst e; simp [find_upd_same]
      · simp [e, find_upd_other e]

theorem lastOf_mem {id : Nat} {o : PObj} : ∀ {l : List (Nat × PObj)}, lastOf id l = some o → id ∈ l.map (·.1)
  | [], h => by simp [lastOf] at h
  | (i, x) :: l, h => by
    simp only [lastOf] at h
    split at h
    · rename_i y hy; simp only [List.map_cons, List.mem_cons]; exact .inr (lastOf_mem hy)
    · split at h
      · rename_i e; simp [e]
      · cases h

/-- An object behind an effect. -/
def effAt (e : Eff) (id : Nat) (x : Option PObj) : Option PObj := match lastOf id e.upds with
  | some o => some o
  | none => if id ∈ e.dels then none else x

theorem find_app (st : St) (dst : Option Nat) (e : Eff) (id : Nat) : find id (st.app dst e).heap = effAt e id (find id st.heap) := by
  have : (st.app dst e).heap = updAll e.upds (delAll e.dels st.heap) := by cases dst <;> rfl
  rw [this, find_updAll', find_delAll]; rfl

theorem effAt_out {e : Eff} {id : Nat} (h : id ∉ e.dels ++ e.upds.map (·.1)) (x : Option PObj) : effAt e id x = x := by
  simp only [List.mem_append, not_or] at h
  unfold effAt
  cases hl : lastOf id e.upds with
  | some o => exact absurd (lastOf_mem hl) h.2
  | none => simp [h.1]

theorem tmps_app (st : St) (dst : Option Nat) (e : Eff) (t : Nat) : find t (st.app dst e).tmps = if dst = some t then some e.val else find t st.tmps := by
  cases dst with
  | none => simp [St.app, St.put]
  | some d =>
    simp only [St.app, St.put, find]
    by_cases h : t = d
    · subst h; simp
    · have : ¬ (some d = some t) := fun e => h (Option.some.inj e).symm
      simp [h, this]

theorem Eqv.app {s t : St} (h : Eqv s t) (dst : Option Nat) (e : Eff) : Eqv (s.app dst e) (t.app dst e) :=
  ⟨fun i => by rw [tmps_app, tmps_app, h.tmps], fun i => by rw [find_app, find_app, h.heap]⟩

/-- The first k operations, those of them that X has. -/
def applyX (ops : Array Oper) (effs : List Eff) (st : St) (X : Nat → Bool) : Nat → St
  | 0 => st
  | k + 1 => if X k = true then (match ops[k]?, effs[k]? with
    | some o, some e => (applyX ops effs st X k).app o.dst e
    | _, _ => applyX ops effs st X k) else applyX ops effs st X k

section
variable {ops : Array Oper} {effs : List Eff} {st : St}

theorem applyX_congr {X Y : Nat → Bool} : ∀ k, (∀ i, i < k → X i = Y i) → applyX ops effs st X k = applyX ops effs st Y k
  | 0, _ => rfl
  | k + 1, h => by
    simp only [applyX, h k (by omega), applyX_congr k fun i hi => h i (by omega)]

/-- Does an operation write a temporary, an object? -/
def Wt (ops : Array Oper) (k t : Nat) : Prop := ∃ o, ops[k]? = some o ∧ o.dst = some t
def Wo (effs : List Eff) (k id : Nat) : Prop := ∃ e, effs[k]? = some e ∧ id ∈ e.dels ++ e.upds.map (·.1)

theorem applyX_tmp {t : Nat} {X : Nat → Bool} {k : Nat} (h : X k = true → ¬ Wt ops k t) : find t (applyX ops effs st X (k + 1)).tmps = find t (applyX ops effs st X k).tmps := by
  simp only [applyX]
  split
  · rename_i hx
    split
    · rename_i o e ho he
      rw [tmps_app, if_neg fun hd => h hx ⟨o, ho, hd⟩]
    · rfl
  · rfl

theorem applyX_obj {id : Nat} {X : Nat → Bool} {k : Nat} (h : X k = true → ¬ Wo effs k id) : find id (applyX ops effs st X (k + 1)).heap = find id (applyX ops effs st X k).heap := by
  simp only [applyX]
  split
  · rename_i hx
    split
    · rename_i o e ho he
      rw [find_app, effAt_out fun hm => h hx ⟨e, he, hm⟩]
    · rfl
  · rfl

/-- Where all that write it are the same, it is the same. -/
theorem same_tmp {t : Nat} {X Y : Nat → Bool} : ∀ k, (∀ i, i < k → Wt ops i t → X i = Y i) → find t (applyX ops effs st X k).tmps = find t (applyX ops effs st Y k).tmps
  | 0, _ => rfl
  | k + 1, h => by
    have ih := same_tmp k fun i hi => h i (by omega)
    by_cases hw : Wt ops k t
    · have e := h k (by omega) hw
      simp only [applyX, e]
      split
      · split
        · rw [tmps_app, tmps_app, ih]
        · exact ih
      · exact ih
    · rw [applyX_tmp fun _ => hw, applyX_tmp fun _ => hw, ih]

theorem same_obj {id : Nat} {X Y : Nat → Bool} : ∀ k, (∀ i, i < k → Wo effs i id → X i = Y i) → find id (applyX ops effs st X k).heap = find id (applyX ops effs st Y k).heap
  | 0, _ => rfl
  | k + 1, h => by
    have ih := same_obj k fun i hi => h i (by omega)
    by_cases hw : Wo effs k id
    · have e := h k (by omega) hw
      simp only [applyX, e]
      split
      · split
        · rw [find_app, find_app, ih]
        · exact ih
      · exact ih
    · rw [applyX_obj fun _ => hw, applyX_obj fun _ => hw, ih]

theorem none_tmp {t : Nat} {X : Nat → Bool} {k : Nat} : ∀ m, k ≤ m → (∀ i, k ≤ i → i < m → X i = true → ¬ Wt ops i t) → find t (applyX ops effs st X m).tmps = find t (applyX ops effs st X k).tmps
  | 0, h, _ => by have : k = 0 := by omega
                  subst this; rfl
  | m + 1, h, hw => by
    by_cases e : k = m + 1
    · subst e; rfl
    · rw [applyX_tmp fun hx => hw m (by omega) (by omega) hx, none_tmp m (by omega) fun i h1 h2 => hw i h1 (by omega)]

theorem none_obj {id : Nat} {X : Nat → Bool} {k : Nat} : ∀ m, k ≤ m → (∀ i, k ≤ i → i < m → X i = true → ¬ Wo effs i id) → find id (applyX ops effs st X m).heap = find id (applyX ops effs st X k).heap
  | 0, h, _ => by have : k = 0 := by omega
                  subst this; rfl
  | m + 1, h, hw => by
    by_cases e : k = m + 1
    · subst e; rfl
    · rw [applyX_obj fun hx => hw m (by omega) (by omega) hx, none_obj m (by omega) fun i h1 h2 => hw i h1 (by omega)]

/-- One more, behind all that are done. -/
theorem applyX_more {X Y : Nat → Bool} {i : Nat} {o : Oper} {e : Eff} (ho : ops[i]? = some o) (he : effs[i]? = some e) (hX : X i = false) (hY : Y i = true) (hXY : ∀ j, j ≠ i → Y j = X j)
    (hind : ∀ j, i < j → X j = true → ∀ oj ej, ops[j]? = some oj → effs[j]? = some ej → (∀ t, o.dst = some t → oj.dst ≠ some t) ∧ (∀ id, id ∈ e.dels ++ e.upds.map (·.1) → id ∉ ej.dels ++ ej.upds.map (·.1))) :
    ∀ m, i < m → Eqv (applyX ops effs st Y m) ((applyX ops effs st X m).app o.dst e)
  | 0, h => by omega
  | m + 1, h => by
    by_cases em : i = m
    · subst em
      have e1 : applyX ops effs st Y i = applyX ops effs st X i := applyX_congr i fun j hj => hXY j (by omega)
      simp only [applyX, hY, hX, if_true, ho, he, e1, Bool.false_eq_true, if_false]
      exact Eqv.refl _
    · have ih := applyX_more ho he hX hY hXY hind m (by omega)
      simp only [applyX, hXY m (fun h => em h.symm)]
      split
      · rename_i hx
        split
        · rename_i oj ej hoj hej
          obtain ⟨h1, h2⟩ := hind m (by omega) hx oj ej hoj hej
          refine (ih.app oj.dst ej).trans ⟨fun t => ?_, fun id => ?_⟩
          · rw [tmps_app, tmps_app, tmps_app, tmps_app]
            by_cases ht : o.dst = some t
            · simp [ht, h1 t ht]
            · simp [ht]
          · rw [find_app, find_app, find_app, find_app]
            by_cases hid : id ∈ e.dels ++ e.upds.map (·.1)
            · rw [effAt_out (h2 id hid), effAt_out (h2 id hid)]
            · rw [effAt_out hid, effAt_out hid]
        · exact ih
      · exact ih
end


/-! ### Every order -/
/-- What is known when a region has been gone through in the text's order. -/
def Traced (P : Program) (T : Nat → Option TI) (eqt : Nat → Option (List CK)) (ops : Array Oper) (base : Nat) (st0 : St) (effs : List Eff) (feet : List Foot) (i : Nat) : Prop := ∀ o, ops[i]? = some o →
  ∃ e, effs[i]? = some e ∧ opP P T eqt (nidOf base ops.size i) ops.toList o (applyX ops effs st0 (fun _ => true) i) (· = e) ∧ feet[i]? = some (footOf o (applyX ops effs st0 (fun _ => true) i) e)

theorem applyX_effs {ops : Array Oper} {effs effs' : List Eff} {st : St} {X : Nat → Bool} : ∀ k, (∀ i, i < k → effs[i]? = effs'[i]?) → applyX ops effs st X k = applyX ops effs' st X k
  | 0, _ => rfl
  | k + 1, h => by simp only [applyX, h k (by omega), applyX_effs k fun i hi => h i (by omega)]

section
variable {P : Program} {T : Nat → Option TI} {eqt : Nat → Option (List CK)} {ops : Array Oper} {base : Nat} {st0 : St}

theorem Traced.more {effs effs' : List Eff} {feet feet' : List Foot} {i : Nat} (h : Traced P T eqt ops base st0 effs feet i) (h1 : ∀ j, j ≤ i → effs[j]? = effs'[j]?) (h2 : feet[i]? = feet'[i]?) : Traced P T eqt ops base st0 effs' feet' i := by
  intro o ho
  obtain ⟨e, g1, g2, g3⟩ := h o ho
  have := applyX_effs (ops := ops) (st := st0) (X := fun _ => true) i fun j hj => h1 j (by omega)
  rw [this] at g2 g3
  exact ⟨e, by rw [← h1 i (by omega)]; exact g1, g2, by rw [← h2]; exact g3⟩

theorem opsD_pull {K : St → List Foot → Prop} : ∀ (rest : List Oper) (i : Nat) (es : List Eff) (tr : List Foot), ops.toList.drop i = rest → i ≤ ops.size → es.length = i → tr.length = i → (∀ j, j < i → Traced P T eqt ops base st0 es tr j) →
    opsD P T eqt ops.toList ops.size base i rest (applyX ops es st0 (fun _ => true) i) tr K →
    ∃ effs feet, (∀ j, j < ops.size → Traced P T eqt ops base st0 effs feet j) ∧ K { applyX ops effs st0 (fun _ => true) ops.size with next := base + 4 * ops.size } feet
  | [], i, es, tr, hd, hi, h1, h2, h3, h => by
    have : i = ops.size := by
      have := congrArg List.length hd
      simp at this; omega
    subst this
    exact ⟨es, tr, h3, h⟩
  | o :: rest, i, es, tr, hd, hi, h1, h2, h3, h => by
    have hlt : i < ops.size := by
      have := congrArg List.length hd
      simp at this; omega
    have ho : ops[i]? = some o := by
      have : (ops.toList.drop i)[0]? = some o := by rw [hd]; rfl
      simpa using this
    have hd' : ops.toList.drop (i + 1) = rest := by
      have : (ops.toList.drop i).drop 1 = rest := by rw [hd]; rfl
      rwa [List.drop_drop] at this
    simp only [opsD] at h
    obtain ⟨e, g1, g2⟩ := op_pull h
    have hes : ∀ j, j < i → (es ++ [e])[j]? = es[j]? := fun j hj => List.getElem?_append_left (by omega)
    have hei : (es ++ [e])[i]? = some e := by rw [List.getElem?_append_right (by omega)]; simp [h1]
    have htri : ∀ f, (tr ++ [f])[i]? = some f := fun f => by rw [List.getElem?_append_right (by omega)]; simp [h2]
    have hap : applyX ops (es ++ [e]) st0 (fun _ => true) i = applyX ops es st0 (fun _ => true) i := applyX_effs i fun j hj => hes j hj
    have hap1 : applyX ops (es ++ [e]) st0 (fun _ => true) (i + 1) = (applyX ops es st0 (fun _ => true) i).app o.dst e := by
      simp only [applyX, if_true, ho, hei, hap]
    refine opsD_pull rest (i + 1) (es ++ [e]) (tr ++ [footOf o (applyX ops es st0 (fun _ => true) i) e]) hd' (by omega) (by simp [h1]) (by simp [h2]) ?_ (by rw [hap1]; exact g2)
    intro j hj
    by_cases e2 : j = i
    · subst e2
      intro o' ho'
      rw [ho] at ho'; cases ho'
      exact ⟨e, hei, by rw [hap]; exact g1, by rw [hap]; exact htri _⟩
    · refine (h3 j (by omega)).more (fun k hk => (hes k (by omega)).symm) ?_
      rw [List.getElem?_append_left (by omega)]
end

theorem disj_spec {a b : List Nat} (h : disj a b = true) {x : Nat} (ha : x ∈ a) : x ∉ b := by
  have := List.all_eq_true.1 h x ha
  simpa using this

/-- How many are left. -/
def left (listed : Array Bool) : Nat → Nat
  | 0 => 0
  | k + 1 => left listed k + (if listed.getD k false = true then 0 else 1)

theorem left_zero {listed : Array Bool} : ∀ {k : Nat}, left listed k = 0 → ∀ i, i < k → listed.getD i false = true
  | 0, _, i, hi => by omega
  | k + 1, h, i, hi => by
    simp only [left] at h
    split at h
    · rename_i hk
      by_cases e : i = k
      · subst e; exact hk
      · exact left_zero (by omega) i (by omega)
    · omega

theorem left_set {listed : Array Bool} {i : Nat} (hi : i < listed.size) (hf : listed.getD i false = false) : ∀ k, (i < k → left (listed.setIfInBounds i true) k + 1 = left listed k) ∧ (k ≤ i → left (listed.setIfInBounds i true) k = left listed k)
  | 0 => ⟨by omega, fun _ => rfl⟩
  | k + 1 => by
    obtain ⟨h1, h2⟩ := left_set hi hf k
    have hne : k ≠ i → (listed.setIfInBounds i true).getD k false = listed.getD k false := fun e => getD_set_ne false (fun e' => e e'.symm)
    refine ⟨fun h => ?_, fun h => ?_⟩
    · simp only [left]
      by_cases e : k = i
      · subst e
        have hs : (listed.setIfInBounds k true).getD k false = true := by simp [hi]
        rw [hs, hf, h2 (Nat.le_refl _)]; simp
      · rw [hne e]
        have := h1 (by omega)
        omega
    · simp only [left]
      rw [hne (by omega), h2 (by omega)]

section
variable {P : Program} {T : Nat → Option TI} {eqt : Nat → Option (List CK)} (hk : Kit P T eqt) {E : Env} {Q : Exit → Act → World → Prop} {ops : Array Oper} {base n : Nat} {st0 : St} {effs : List Eff} {feet : List Foot}

theorem orderOK_spec (h : orderOK ops feet = true) {j : Nat} {o : Oper} (ho : ops[j]? = some o) : (∀ i ∈ direct o, i < j) ∧ ∀ i, i < j → ((closs ops.toList []).getD j 0).testBit i = true ∨ apartB ops feet i j = true := by
  have hj := (Array.getElem?_eq_some_iff.1 ho).1
  simp only [orderOK, List.all_eq_true, List.mem_range, Bool.and_eq_true, Bool.or_eq_true] at h
  obtain ⟨h1, h2⟩ := h j hj
  rw [ho] at h1
  simp at h1
  exact ⟨h1, h2⟩

theorem clos_in {X : Nat → Bool} (hok : orderOK ops feet = true) (hdc : ∀ i o, ops[i]? = some o → X i = true → ∀ j ∈ direct o, X j = true) : ∀ (i : Nat) (o : Oper), ops[i]? = some o → (∀ j ∈ direct o, X j = true) → ∀ k, ((closs ops.toList []).getD i 0).testBit k = true → X k = true := by
  intro i
  induction i using Nat.strongRecOn with
  | _ i ih =>
    intro o ho hd k hk
    have hg := closs_get ops.toList [] i o (by rw [Array.getElem?_toList]; exact ho)
    simp only [List.length_nil, Nat.zero_add] at hg
    rw [List.getD_eq_getElem?_getD, hg] at hk
    obtain ⟨j, hj, h1⟩ := maskL_bit (by simpa using hk)
    rcases h1 with rfl | h1
    · exact hd k hj
    · have hlt := (orderOK_spec hok ho).1 j hj
      have hi := (Array.getElem?_eq_some_iff.1 ho).1
      rw [List.getD_eq_getElem?_getD, List.getElem?_take, if_pos hlt, ← List.getD_eq_getElem?_getD] at h1
      have hoj : ops[j]? = some ops[j] := Array.getElem?_eq_getElem (by omega)
      exact ih j hlt _ hoj (hdc j _ hoj (hd j hj)) k h1

include hk in
theorem any_run (hb : ∀ o ∈ ops.toList, ∀ d, o.dst = some d → d < n) (htr : ∀ j, j < ops.size → Traced P T eqt ops base st0 effs feet j) (hok : orderOK ops feet = true) {S0 : Nat → Nat → Prop} {φ0 : Nat → Nat → Option (Nat × Nat)} (hb8 : 8 ≤ base)
    (hQ : ∀ a w S φ, Rst E S φ (applyX ops effs st0 (fun _ => true) ops.size) a w → (∀ k v, S k v → k < base + 4 * ops.size) → Since S0 φ0 S φ → a.tmps.size = n → Q .normal a w) :
    ∀ (fuel : Nat) (listed : Array Bool) (a : Act) (w : World) (S : Nat → Nat → Prop) (φ : Nat → Nat → Option (Nat × Nat)), listed.size = ops.size → left listed ops.size ≤ fuel →
      (∀ i o, ops[i]? = some o → listed.getD i false = true → ∀ j ∈ direct o, listed.getD j false = true) → Rst E S φ (applyX ops effs st0 (fun i => listed.getD i false) ops.size) a w →
      (∀ k v, S k v → k < base ∨ ∃ i' j, i' < ops.size ∧ listed.getD i' false = true ∧ j < 4 ∧ k = base + i' + j * ops.size) → Since S0 φ0 S φ → a.tmps.size = n → wpAny P .any ops Q fuel listed a w := by
  have done : ∀ (listed : Array Bool) (a : Act) (w : World) (S : Nat → Nat → Prop) (φ : Nat → Nat → Option (Nat × Nat)), (∀ i, i < ops.size → listed.getD i false = true) → Rst E S φ (applyX ops effs st0 (fun i => listed.getD i false) ops.size) a w →
      (∀ k v, S k v → k < base ∨ ∃ i' j, i' < ops.size ∧ listed.getD i' false = true ∧ j < 4 ∧ k = base + i' + j * ops.size) → Since S0 φ0 S φ → a.tmps.size = n → Q .normal a w := by
    intro listed a w S φ hall hr hS h0 hn
    rw [applyX_congr (Y := fun _ => true) ops.size fun i hi => hall i hi] at hr
    refine hQ a w S φ hr (fun k v hs => ?_) h0 hn
    rcases hS k v hs with h | ⟨i', j, h1, _, h2, h3⟩
    · omega
    · rw [h3]; exact range_bound h1 h2
  have noready : ∀ (listed : Array Bool), listed.size = ops.size → (∀ i, i < ops.size → listed.getD i false = true) → Region.ready .any ops listed = [] := by
    intro listed hsz hall
    cases h : Region.ready .any ops listed with
    | nil => rfl
    | cons j l =>
      have hj : j ∈ Region.ready .any ops listed := by rw [h]; simp
      obtain ⟨h1, o, h2, _⟩ := mem_ready.1 hj
      have hlt := (Array.getElem?_eq_some_iff.1 h2).1
      have := hall j hlt
      simp only [Array.getD_eq_getD_getElem?, Array.getElem?_eq_getElem (show j < listed.size by omega), Option.getD_some] at h1 this
      rw [h1] at this; cases this
  have isdirect : ∀ (o : Oper) (listed : Array Bool), (∀ e ∈ o.after, Region.binds .any e = true → listed.getD e.on false = true) → ∀ j ∈ direct o, listed.getD j false = true := by
    intro o listed h j hj
    simp only [direct, List.mem_map, List.mem_filter] at hj
    obtain ⟨e, ⟨h1, h2⟩, rfl⟩ := hj
    exact h e (by simpa using h1) h2
  have directis : ∀ (o : Oper) (listed : Array Bool), (∀ j ∈ direct o, listed.getD j false = true) → ∀ e ∈ o.after, Region.binds .any e = true → listed.getD e.on false = true := by
    intro o listed h e he hb
    exact h e.on (by simp only [direct, List.mem_map, List.mem_filter]; exact ⟨e, ⟨by simpa using he, hb⟩, rfl⟩)
  intro fuel
  induction fuel with
  | zero =>
    intro listed a w S φ hsz hl hdc hr hS h0 hn
    have hall := left_zero (by omega : left listed ops.size = 0)
    exact ⟨noready listed hsz hall, done listed a w S φ hall hr hS h0 hn⟩
  | succ fuel ih =>
    intro listed a w S φ hsz hl hdc hr hS h0 hn
    refine ⟨fun hno => done listed a w S φ ?_ hr hS h0 hn, fun i hi => ?_⟩
    · intro i
      induction i using Nat.strongRecOn with
      | _ i ihi =>
        intro hlt
        have ho : ops[i]? = some ops[i] := Array.getElem?_eq_getElem hlt
        cases hx : listed.getD i false with
        | true => rfl
        | false =>
          exfalso
          have : i ∈ Region.ready .any ops listed := mem_ready.2 ⟨by
            simp only [Array.getD_eq_getD_getElem?, Array.getElem?_eq_getElem (show i < listed.size by omega), Option.getD_some] at hx ⊢
            exact hx, _, ho, directis _ _ fun j hj => ihi j ((orderOK_spec hok ho).1 j hj) (by have := (orderOK_spec hok ho).1 j hj; omega)⟩
          rw [hno] at this; simp at this
    · obtain ⟨hi1, o, ho, hi2⟩ := mem_ready.1 hi
      have hlt := (Array.getElem?_eq_some_iff.1 ho).1
      have hXi : listed.getD i false = false := by
        simp only [Array.getD_eq_getD_getElem?, Array.getElem?_eq_getElem (show i < listed.size by omega), Option.getD_some] at hi1 ⊢
        exact hi1
      have hdir := isdirect o listed hi2
      obtain ⟨e, he, hop, hft⟩ := htr i hlt o ho
      -- those ahead of i are done; those behind it are not
      have ahead : ∀ k, k < i → listed.getD k false = true ∨ apartB ops feet k i = true := by
        intro k hk
        rcases (orderOK_spec hok ho).2 k hk with h | h
        · exact .inl (clos_in (X := fun i => listed.getD i false) hok hdc i o ho hdir k h)
        · exact .inr h
      have behind : ∀ k, i < k → k < ops.size → listed.getD k false = true → apartB ops feet i k = true := by
        intro k hk hks hx
        have hok' : ops[k]? = some ops[k] := Array.getElem?_eq_getElem hks
        rcases (orderOK_spec hok hok').2 i hk with h | h
        · have := clos_in (X := fun i => listed.getD i false) hok hdc k _ hok' (hdc k _ hok' hx) i h
          simp only [hXi] at this; cases this
        · exact h
      have apart_get : ∀ {p q : Nat} {op oq : Oper} {fp fq : Foot}, ops[p]? = some op → ops[q]? = some oq → feet[p]? = some fp → feet[q]? = some fq → apartB ops feet p q = true →
          op.apart ops oq = true ∧ disj fp.wr fq.rd = true ∧ disj fp.wr fq.wr = true ∧ disj fp.rd fq.wr = true := by
        intro p q op oq fp fq h1 h2 h3 h4 h
        simp only [apartB, h1, h2, h3, h4, Bool.and_eq_true] at h
        exact ⟨h.1.1.1, h.1.1.2, h.1.2, h.2⟩
      have info : ∀ k, k < ops.size → ∃ ok ek fk, ops[k]? = some ok ∧ effs[k]? = some ek ∧ feet[k]? = some fk ∧ fk.wr = ek.dels ++ ek.upds.map (·.1) := by
        intro k hk
        have h1 : ops[k]? = some ops[k] := Array.getElem?_eq_getElem hk
        obtain ⟨ek, h2, _, h3⟩ := htr k hk _ h1
        exact ⟨_, ek, _, h1, h2, h3, rfl⟩
      have tmpAlike : ∀ t, t ∈ o.looksAt ops → find t (applyX ops effs st0 (fun i => listed.getD i false) ops.size).tmps = find t (applyX ops effs st0 (fun _ => true) i).tmps := by
        intro t ht
        rw [none_tmp (k := i) ops.size (by omega) ?_]
        · refine same_tmp i fun k hk hw => ?_
          obtain ⟨ok, hok1, hok2⟩ := hw
          rcases ahead k hk with h | h
          · exact h
          · obtain ⟨ok', ek, fk, g1, _, g3, _⟩ := info k (by omega)
            rw [hok1] at g1; cases g1
            exact absurd ht ((Oper.apart_spec (apart_get hok1 ho g3 hft h).1).1 t hok2)
        · rintro k h1 h2 hx ⟨ok, hok1, hok2⟩
          by_cases e : i = k
          · subst e; rw [hXi] at hx; cases hx
          · obtain ⟨ok', ek, fk, g1, _, g3, _⟩ := info k h2
            rw [hok1] at g1; cases g1
            exact (Oper.apart_spec (apart_get ho hok1 hft g3 (behind k (by omega) h2 hx)).1).2.2 t hok2 ht
      have objAlike : ∀ id, id ∈ (footOf o (applyX ops effs st0 (fun _ => true) i) e).rd ++ (footOf o (applyX ops effs st0 (fun _ => true) i) e).wr → find id (applyX ops effs st0 (fun i => listed.getD i false) ops.size).heap = find id (applyX ops effs st0 (fun _ => true) i).heap := by
        intro id hid
        rw [none_obj (k := i) ops.size (by omega) ?_]
        · refine same_obj i fun k hk hw => ?_
          obtain ⟨ek, hek1, hek2⟩ := hw
          rcases ahead k hk with h | h
          · exact h
          · obtain ⟨ok', ek', fk, g1, g2, g3, g4⟩ := info k (by omega)
            rw [hek1] at g2; cases g2
            obtain ⟨_, d1, d2, d3⟩ := apart_get g1 ho g3 hft h
            rw [← g4] at hek2
            rcases List.mem_append.1 hid with h | h
            · exact absurd h (disj_spec d1 hek2)
            · exact absurd h (disj_spec d2 hek2)
        · rintro k h1 h2 hx ⟨ek, hek1, hek2⟩
          by_cases e2 : i = k
          · subst e2; rw [hXi] at hx; cases hx
          · obtain ⟨ok', ek', fk, g1, g2, g3, g4⟩ := info k h2
            rw [hek1] at g2; cases g2
            obtain ⟨_, d1, d2, d3⟩ := apart_get ho g1 hft g3 (behind k (by omega) h2 hx)
            rw [← g4] at hek2
            rcases List.mem_append.1 hid with h | h
            · exact disj_spec d3 h hek2
            · exact disj_spec d2 h hek2
      have evAlike : ∀ x : Operand, (∀ t, x = .tmp t → t ∈ o.looksAt ops) → (applyX ops effs st0 (fun i => listed.getD i false) ops.size).ev x = (applyX ops effs st0 (fun _ => true) i).ev x := by
        intro x hx
        cases x with
        | tmp t => simp only [St.ev]; rw [tmpAlike t (hx t rfl)]
        | _ => rfl
      have hal : Alike o.op.operands.toList (e.dels ++ e.upds.map (·.1)) (applyX ops effs st0 (fun _ => true) i) (applyX ops effs st0 (fun i => listed.getD i false) ops.size) := by
        refine ⟨fun x hx => evAlike x fun t ht => ?_, objAlike⟩
        subst ht
        exact List.mem_append_left _ (List.mem_filterMap.2 ⟨.tmp t, hx, rfl⟩)
      have hop' := op_local (all := ops.toList) (o := o) hal (fun g want t hg ht => evAlike _ fun t' ht' => by
        cases ht'
        unfold Oper.looksAt
        refine List.mem_append_right _ ?_
        rw [hg]
        unfold dstOf at ht
        rw [Array.getElem?_toList] at ht
        cases hog : ops[g]? with
        | none => rw [hog] at ht; cases ht
        | some og => rw [hog] at ht; simp [hog, ht]) hop
      have hdst : ∀ d, o.dst = some d → d < a.tmps.size := by
        intro d hd2; rw [hn]; exact hb o (by rw [← Array.getElem?_toList] at ho; exact List.mem_of_getElem? ho) d hd2
      have hfr : Fresh S (nidOf base ops.size i) := fresh_of hlt fun k v hs => by
        rcases hS k v hs with h | ⟨i', j, h3, h5, _, h4⟩
        · exact .inl h
        · refine .inr ⟨i', j, h3, fun e => ?_, h4⟩
          subst e; rw [hXi] at h5; cases h5
      refine wpOp_mono (fun a' w' ha => ?_) (op_run hk (Q := Q) hr hdst hfr ho hop')
      obtain ⟨g1, φ', S', g2, g3, g4⟩ := ha
      have hset : (listed.setIfInBounds i true).getD i false = true := by simp [show i < listed.size by omega]
      have hoth : ∀ j, j ≠ i → (listed.setIfInBounds i true).getD j false = listed.getD j false := fun j hj => getD_set_ne false (fun e => hj e.symm)
      have hmono : ∀ j, listed.getD j false = true → (listed.setIfInBounds i true).getD j false = true := fun j hj => getD_set_true hj
      refine ih (listed.setIfInBounds i true) a' w' S' φ' (by simpa using hsz) ?_ ?_ (g2.congr (Eqv.symm (applyX_more (Y := fun j => (listed.setIfInBounds i true).getD j false) ho he hXi hset hoth ?_ ops.size hlt))) ?_ (h0.step g3 g4 fun j => by simp only [nidOf]; omega) (g1.trans hn)
      · have := (left_set (show i < listed.size by omega) hXi ops.size).1 hlt
        omega
      · intro k ok hok1 hx j hj
        by_cases e2 : k = i
        · subst e2; rw [ho] at hok1; cases hok1; exact hmono j (hdir j hj)
        · rw [hoth k e2] at hx; exact hmono j (hdc k ok hok1 hx j hj)
      · intro k hk hx ok ek hok1 hek1
        have hks := (Array.getElem?_eq_some_iff.1 hok1).1
        obtain ⟨ok', ek', fk, q1, q2, q3, q4⟩ := info k hks
        rw [hek1] at q2; cases q2
        obtain ⟨d0, d1, d2, d3⟩ := apart_get ho hok1 hft q3 (behind k hk hks hx)
        refine ⟨fun t ht => (Oper.apart_spec d0).2.1 t ht, fun id hid => ?_⟩
        rw [← q4]; exact disj_spec d2 hid
      · intro k v hs
        rcases g4 k v hs with ⟨v', h5⟩ | ⟨j, hj, h5⟩
        · rcases hS k v' h5 with h6 | ⟨i', j, h6, h7, h8, h9⟩
          · exact .inl h6
          · exact .inr ⟨i', j, h6, hmono i' h7, h8, h9⟩
        · exact .inr ⟨i, j, hlt, hset, hj, h5⟩
end

end Go.Proofs.Ytdodgbhodkcckaa.Pv
