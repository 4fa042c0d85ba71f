/- Calls: the state that a callee begins with, and the state behind a call. No program is in sight here. -/
import Derived.Test.YtdodgbhodkcckaaPvm
set_option linter.unusedVariables false
set_option linter.unusedSectionVars false
set_option linter.unusedSimpArgs false
set_option autoImplicit false
namespace Go.Proofs.Ytdodgbhodkcckaa.Pv
open Go Go.RowKit

/-- Numbers for new objects: none is in use, and no two are the same. -/
structure Fresh (S : Nat → Nat → Prop) (nid : Nat → Nat) : Prop where
  new : ∀ j v, ¬ S (nid j) v
  inj : ∀ j j', nid j = nid j' → j = j'

/-- The objects handed in. -/
structure Passed (st : St) (L : List Nat) (ρ : Nat → Nat) (h : List (Nat × PObj)) : Prop where
  nodup : L.Nodup
  len : L.length ≤ 8
  ids : h.map (·.1) = List.range L.length
  objs : (h.map fun q => some (q.2.shift ρ)) = L.map fun i => find i st.heap

theorem mem_of_find {i : Nat} {o : PObj} : ∀ {l : List (Nat × PObj)}, find i l = some o → (i, o) ∈ l
  | [], h => by simp [find] at h
  | (j, x) :: l, h => by
    simp only [find] at h
    split at h
    · rename_i e; cases h; simp [e]
    · simp [mem_of_find h]

theorem find_of_mem {j : Nat} {y : PObj} : ∀ {l : List (Nat × PObj)}, (j, y) ∈ l → ∃ z, find j l = some z
  | [], h => by simp at h
  | (j', y') :: l, h => by
    simp only [find]
    by_cases e : j = j'
    · exact ⟨y', by simp [e]⟩
    · rw [if_neg e]
      rcases List.mem_cons.1 h with h | h
      · simp only [Prod.mk.injEq] at h; exact absurd h.1 e
      · exact find_of_mem h

theorem map_fst_shiftH (ρ : Nat → Nat) : ∀ h : List (Nat × PObj), (shiftH ρ h).map (·.1) = (h.map (·.1)).map ρ
  | [] => rfl
  | (i, o) :: h => by simp only [shiftH, List.map_cons, map_fst_shiftH ρ h]

theorem nodup_map {ρ : Nat → Nat} {n : Nat → Prop} (hρ : ∀ k k', n k → n k' → ρ k = ρ k' → k = k') : ∀ {l : List Nat}, l.Nodup → (∀ x ∈ l, n x) → (l.map ρ).Nodup
  | [], _, _ => by simp
  | x :: l, hn, hl => by
    simp only [List.nodup_cons, List.map_cons] at hn ⊢
    refine ⟨fun hm => ?_, nodup_map hρ hn.2 fun y hy => hl y (by simp [hy])⟩
    obtain ⟨y, hy, e⟩ := List.mem_map.1 hm
    exact hn.1 (hρ y x (hl y (by simp [hy])) (hl x (by simp)) e ▸ hy)

section
variable {E : Env} {S : Nat → Nat → Prop} {φ : Nat → Nat → Option (Nat × Nat)} {st : St} {a : Act} {w : World} {L : List Nat} {nid : Nat → Nat} {h : List (Nat × PObj)}

theorem rename_lt {k : Nat} (hk : k < L.length) (hl : L.length ≤ 8) : L[k]? = some (rename L nid k) := by
  have : k < 8 := by omega
  simp only [rename, this, if_true, List.getD_eq_getElem?_getD, List.getElem?_eq_getElem hk, Option.getD_some]

theorem rename_ge {k : Nat} (hk : L.length ≤ k) : ∃ j, rename L nid k = nid j := by
  by_cases h8 : k < 8
  · refine ⟨k + 4, ?_⟩
    simp only [rename, h8, if_true, List.getD_eq_getElem?_getD, List.getElem?_eq_none hk, Option.getD_none]
  · exact ⟨k - 8, by simp only [rename, h8, if_false]⟩

theorem Passed.get (hp : Passed st L (rename L nid) h) {k : Nat} {o : PObj} (hf : find k h = some o) : k < L.length ∧ find (rename L nid k) st.heap = some (o.shift (rename L nid)) := by
  obtain ⟨i, hi⟩ := List.getElem?_of_mem (mem_of_find hf)
  have h1 : (h.map (·.1))[i]? = some k := by simp [hi]
  rw [hp.ids] at h1
  obtain ⟨hlt, h2⟩ := List.getElem?_eq_some_iff.1 h1
  simp at hlt h2
  subst h2
  have h3 : (h.map fun q => some (q.2.shift (rename L nid)))[i]? = some (some (o.shift (rename L nid))) := by simp [hi]
  rw [hp.objs, List.getElem?_map, rename_lt hlt hp.len] at h3
  simp at h3
  exact ⟨hlt, h3⟩

theorem Passed.mem (hp : Passed st L (rename L nid) h) {k : Nat} (hk : k < L.length) : ∃ o, find k h = some o := by
  have hm : k ∈ h.map (·.1) := by rw [hp.ids]; simp [hk]
  obtain ⟨⟨j, x⟩, h1, h2⟩ := List.mem_map.1 hm
  simp at h2; subst h2
  clear hm hp
  induction h with
  | nil => simp at h1
  | cons a l ih =>
    obtain ⟨j', y⟩ := a
    simp only [find]
    by_cases e : j = j'
    · exact ⟨y, by simp [e]⟩
    · rw [if_neg e]
      refine ih ?_
      rcases List.mem_cons.1 h1 with h | h
      · simp only [Prod.mk.injEq] at h; exact absurd h.1 e
      · exact h

theorem Passed.inS (hp : Passed st L (rename L nid) h) (hr : Rst E S φ st a w) {i : Nat} (hi : i ∈ L) : ∃ o, find i st.heap = some o ∧ S i o.ver := by
  obtain ⟨k, hk⟩ := List.getElem?_of_mem hi
  have hlt := (List.getElem?_eq_some_iff.1 hk).1
  obtain ⟨o, ho⟩ := hp.mem hlt
  have h1 := (hp.get ho).2
  have h2 := rename_lt (nid := nid) hlt hp.len
  rw [hk] at h2; cases h2
  exact ⟨_, h1, (hr.objs _ _ h1).1⟩

theorem rename_inj (hp : Passed st L (rename L nid) h) (hr : Rst E S φ st a w) (hf : Fresh S nid) {k k' : Nat} (hk : k < 12) (hk' : k' < 12) (e : rename L nid k = rename L nid k') : k = k' := by
  have notin : ∀ j, nid j ∉ L := fun j hj => by
    obtain ⟨o, _, h2⟩ := hp.inS hr hj
    exact hf.new j _ h2
  have hlen := hp.len
  by_cases h1 : k < L.length
  · have e1 := rename_lt (nid := nid) h1 hlen
    by_cases h2 : k' < L.length
    · have e2 := rename_lt (nid := nid) h2 hlen
      rw [← e, ← e1] at e2
      exact ((List.getElem?_inj h2 hp.nodup).1 e2).symm
    · obtain ⟨j, hj⟩ := rename_ge (nid := nid) (L := L) (k := k') (by omega)
      rw [e, hj] at e1
      exact absurd (List.mem_of_getElem? e1) (notin j)
  · by_cases h2 : k' < L.length
    · have e2 := rename_lt (nid := nid) h2 hlen
      obtain ⟨j, hj⟩ := rename_ge (nid := nid) (L := L) (k := k) (by omega)
      rw [← e, hj] at e2
      exact absurd (List.mem_of_getElem? e2) (notin j)
    · have val : ∀ m, L.length ≤ m → rename L nid m = nid (if m < 8 then m + 4 else m - 8) := by
        intro m hm
        by_cases h8 : m < 8
        · simp only [rename, h8, if_true, List.getD_eq_getElem?_getD, List.getElem?_eq_none hm, Option.getD_none]
        · simp only [rename, h8, if_false]
      rw [val k (by omega), val k' (by omega)] at e
      have := hf.inj _ _ e
      split at this <;> split at this <;> omega

/-- The names of a callee's, as the caller has them. -/
def callS (L : List Nat) (S : Nat → Nat → Prop) (ρ : Nat → Nat) : Nat → Nat → Prop := fun k v => k < L.length ∧ S (ρ k) v

theorem callS_of (hf : Fresh S nid) {k v : Nat} (hs : S (rename L nid k) v) : callS L S (rename L nid) k v := by
  by_cases h1 : k < L.length
  · exact ⟨h1, hs⟩
  · obtain ⟨j, hj⟩ := rename_ge (nid := nid) (L := L) (k := k) (by omega)
    rw [hj] at hs
    exact absurd hs (hf.new j v)

/-- What a callee begins with: the blocks handed in may change; all others of the caller's, but those that are read as data, are another's. -/
def callEnv (hr : Rst E S φ st a w) (L F : List Nat) (hFL : ∀ i ∈ F, i ∉ L) : Env where
  w0 := w
  pass b := ∃ i o, i ∈ L ∧ find i st.heap = some o ∧ blk φ i o = some b
  out b := E.out b ∨ ∃ i o, i ∉ L ∧ i ∉ F ∧ find i st.heap = some o ∧ blk φ i o = some b
  apart := by
    rintro b ⟨i, o, hi, ho, hb⟩ (hx | ⟨i', o', hi', _, ho', hb'⟩)
    · exact hr.notOut ho hb hx
    · exact hi' (hr.inj i i' o o' b ho ho' hb hb' ▸ hi)
  under := by
    rintro b (hx | ⟨i, o, _, _, ho, hb⟩)
    · exact Nat.lt_of_lt_of_le (E.under b hx) hr.size
    · exact ((hr.objs i o ho).2.2.2.1 b hb).1

theorem blk_call (hp : Passed st L (rename L nid) h) {k : Nat} {o : PObj} : blk (fun k v => φ (rename L nid k) v) k o = blk φ (rename L nid k) (o.shift (rename L nid)) := by
  rw [blk_shift]; exact blk_turn rfl

/-- The callee's blocks are the caller's. -/
theorem held_call (hp : Passed st L (rename L nid) h) (hr : Rst E S φ st a w) {F : List Nat} (hFL : ∀ i ∈ F, i ∉ L) {b : Nat} (hb : Held (callEnv hr L F hFL) (fun k v => φ (rename L nid k) v) h b) : Held E φ st.heap b := by
  rcases hb with (hx | ⟨i, o, _, _, ho, hb⟩) | ⟨k, o, ho, hb⟩
  · exact .inl hx
  · exact .inr ⟨i, o, ho, hb⟩
  · exact .inr ⟨_, _, (hp.get ho).2, by rw [← blk_call hp]; exact hb⟩

theorem Rst.enter (hr : Rst E S φ st a w) (hp : Passed st L (rename L nid) h) (hf : Fresh S nid) {F : List Nat} (hFL : ∀ i ∈ F, i ∉ L) :
    Rst (callEnv hr L F hFL) (callS L S (rename L nid)) (fun k v => φ (rename L nid k) v) (.only h) Act.none w := by
  refine { os := rfl, tape := rfl, output := rfl, size := Nat.le_refl _, old := fun _ _ _ => rfl, defers := rfl, tmps := ?_, objs := ?_, inj := ?_ }
  · intro t p ht; simp [St.only, find] at ht
  · intro k o ho
    obtain ⟨hk, hf'⟩ := hp.get ho
    obtain ⟨h1, h1', h2, h3, h4⟩ := hr.objs _ _ hf'
    rw [ver_shift] at h1 h1'
    have hun : o.und (callS L S (rename L nid)) := obj_und_unshift (n := callS L S (rename L nid)) (m := S) (fun k v hs => callS_of hf hs) h2
    refine ⟨⟨hk, h1⟩, fun v hv => h1' v hv.2, hun, fun b hb => ?_, ?_⟩
    · rw [blk_call hp] at hb
      exact ⟨(h3 b hb).1, .inr ⟨_, _, List.mem_of_getElem? (rename_lt hk hp.len), hf', hb⟩⟩
    · have := ORep.turn (φ2 := fun k v => φ (rename L nid k) v) (σ := fun k => k) (n := callS L S (rename L nid)) (fun _ _ _ => rfl) ⟨hk, h1⟩ hun h4
      rw [obj_shift_id] at this
      exact ORep.keep (φ' := fun k v => φ (rename L nid k) v) (Keeps.same _ _) (fun b _ hb => held_call hp hr hFL hb) (n := callS L S (rename L nid)) (fun _ _ _ => rfl) ⟨hk, h1⟩ hun (fun _ _ => rfl) this
  · intro i j oi oj b hi hj hbi hbj
    obtain ⟨k1, f1⟩ := hp.get hi
    obtain ⟨k2, f2⟩ := hp.get hj
    rw [blk_call hp] at hbi hbj
    have hl := hp.len
    exact rename_inj hp hr hf (by omega) (by omega) (hr.inj _ _ _ _ b f1 f2 hbi hbj)

/-- What is handed in. -/
theorem Rst.args (hr : Rst E S φ st a w) (hp : Passed st L (rename L nid) h) (hf : Fresh S nid) {F : List Nat} (hFL : ∀ i ∈ F, i ∉ L) : ∀ {qs ps : List PVal} {cs : List Value}, argsP st.heap (rename L nid) qs ps → (∀ i ∈ frozen qs ps, i ∈ F) → undL S qs → PRepL w (Held E φ st.heap) φ qs cs →
    undL (callS L S (rename L nid)) ps ∧ PRepL w (Held (callEnv hr L F hFL) (fun k v => φ (rename L nid k) v) h) (fun k v => φ (rename L nid k) v) ps cs
  | [], [], cs, _, _, _, hx => by simp only [PRepL, undL] at *; exact ⟨trivial, hx⟩
  | [], p :: ps, cs, ha, _, _, _ => by simp [argsP] at ha
  | q :: qs, [], cs, ha, _, _, _ => by simp [argsP] at ha
  | q :: qs, p :: ps, cs, ha, hF, hu, hx => by
    simp only [argsP, PRepL, undL] at ha hx hu ⊢
    obtain ⟨c, cs', rfl, h1, h2⟩ := hx
    have hFr : ∀ i ∈ frozen qs ps, i ∈ F := by
      intro i hi; apply hF
      cases p <;> simp only [frozen] <;> first | exact hi | exact List.mem_append_right _ hi
    obtain ⟨g1, g2⟩ := Rst.args hr hp hf hFL ha.2 hFr hu.2 h2
    have key : p.und (callS L S (rename L nid)) ∧ PRep w (Held (callEnv hr L F hFL) (fun k v => φ (rename L nid k) v) h) (fun k v => φ (rename L nid k) v) p c := by
      have other : q = p.shift (rename L nid) → p.und (callS L S (rename L nid)) ∧ PRep w (Held (callEnv hr L F hFL) (fun k v => φ (rename L nid k) v) h) (fun k v => φ (rename L nid k) v) p c := by
        intro e
        rw [e] at h1 hu
        have hun : p.und (callS L S (rename L nid)) := und_unshift (n := callS L S (rename L nid)) (m := S) (fun k v hs => callS_of hf hs) p hu.1
        refine ⟨hun, ?_⟩
        have := PRep.turn (φ2 := fun k v => φ (rename L nid k) v) (σ := fun k => k) (n := callS L S (rename L nid)) (fun _ _ _ => rfl) p c hun h1
        rw [shift_id] at this
        exact PRep.keep (φ' := fun k v => φ (rename L nid k) v) (Keeps.same _ _) (fun b _ hb => held_call hp hr hFL hb) (n := callS L S (rename L nid)) (fun _ _ _ => rfl) p c hun this
      cases p with
      | d y =>
        have ha1 := ha.1
        simp only [argP] at ha1
        split at ha1
        · rename_i x hx
          refine ⟨by simp only [PVal.und], ?_⟩
          simp only [PRep]
          refine subD_rep x y c ha1 (toD_rep hr.objs' (fun b hb => held_call hp hr hFL hb) q x c hx (fun i o b hi ho hb hh => ?_) h1)
          have hiF : i ∈ F := hF i (by simp only [frozen]; exact List.mem_append_left _ hi)
          rcases hh with (hx | ⟨i', o', hi', hiF', ho', hb'⟩) | ⟨k, o', ho', hb'⟩
          · exact hr.notOut ho hb hx
          · exact hiF' (hr.inj i i' o o' b ho ho' hb hb' ▸ hiF)
          · rw [blk_call hp] at hb'
            obtain ⟨k1, k2⟩ := hp.get ho'
            have := hr.inj _ _ _ _ b ho k2 hb hb'
            exact hFL i hiF (this ▸ List.mem_of_getElem? (rename_lt k1 hp.len))
        · exact ha1.elim
      | _ => exact other ha.1
    exact ⟨⟨key.1, g1⟩, c, cs', rfl, key.2, g2⟩

/-- The number that a callee has for one of the caller's. -/
def unname (L : List Nat) (nid : Nat → Nat) (i : Nat) : Option Nat := (List.range 12).find? fun k => rename L nid k == i

theorem unname_some {i k : Nat} (h : unname L nid i = some k) : k < 12 ∧ rename L nid k = i := by
  have h1 := List.find?_some h
  have h2 := List.mem_of_find?_eq_some h
  simp at h1 h2
  exact ⟨h2, h1⟩

theorem unname_of (hp : Passed st L (rename L nid) h) (hr : Rst E S φ st a w) (hf : Fresh S nid) {k : Nat} (hk : k < 12) : unname L nid (rename L nid k) = some k := by
  cases e : unname L nid (rename L nid k) with
  | none =>
    have := List.find?_eq_none.1 e k (by simp [hk])
    simp at this
  | some j =>
    obtain ⟨h1, h2⟩ := unname_some e
    rw [rename_inj hp hr hf h1 hk h2]

/-- The state behind a call. -/
theorem Rst.leave (hr : Rst E S φ st a w) (hp : Passed st L (rename L nid) h) (hf : Fresh S nid) {F G : List Nat} (hFL : ∀ i ∈ F, i ∉ L) {w' : World} {φ' : Nat → Nat → Option (Nat × Nat)} {S' : Nat → Nat → Prop} {h' : List (Nat × PObj)} {r : PVal} {c : Value}
    (hl : Rst (callEnv hr L F hFL) S' φ' (.only h') Act.none w') (hSn : ∀ k v, S' k v → (∃ v', callS L S (rename L nid) k v') ∨ (8 ≤ k ∧ k < 12)) (hSS : ∀ k v, callS L S (rename L nid) k v → S' k v ∧ φ' k v = φ (rename L nid k) v) (hnd : (h'.map (·.1)).Nodup)
    (hu : r.und S') (hrr : PRep w' (Held (callEnv hr L F hFL) φ' h') φ' r c) (hG : (∀ i, i ∈ G ↔ i ∈ F) ∨ F = [] ∧ G = [] ∨ (r.flat = true ∧ h' = [] ∧ G = [])) :
    ∃ φ'' S'', Rst E S'' φ'' { st with heap := updAll (shiftH (rename L nid) h') (delAll (L ++ G) st.heap) } a w' ∧ (∀ i v, S i v → S'' i v ∧ φ'' i v = φ i v) ∧ (∀ i v, S'' i v → (∃ v', S i v') ∨ ∃ j, j < 4 ∧ i = nid j) ∧
      (r.shift (rename L nid)).und S'' ∧ PRep w' (Held E φ'' (updAll (shiftH (rename L nid) h') (delAll (L ++ G) st.heap))) φ'' (r.shift (rename L nid)) c := by
  let ρ := rename L nid
  let φ'' : Nat → Nat → Option (Nat × Nat) := fun i v => match unname L nid i with | some k => φ' k v | none => φ i v
  let S'' : Nat → Nat → Prop := fun i v => S i v ∨ ∃ k, k < 12 ∧ i = ρ k ∧ S' k v
  have hS12 : ∀ k v, S' k v → k < 12 := by
    intro k v hs
    rcases hSn k v hs with ⟨v', h1⟩ | ⟨_, h1⟩
    · have := h1.1; have := hp.len; omega
    · exact h1
  have hρ : ∀ k k', k < 12 → k' < 12 → ρ k = ρ k' → k = k' := fun k k' hk hk' e => rename_inj hp hr hf hk hk' e
  have hφS : ∀ i v, S i v → φ'' i v = φ i v := by
    intro i v hs
    show (match unname L nid i with | some k => φ' k v | none => φ i v) = φ i v
    cases e : unname L nid i with
    | none => rfl
    | some k =>
      obtain ⟨hk, rfl⟩ := unname_some e
      exact (hSS k v (callS_of hf hs)).2
  have hφS' : ∀ k v, S' k v → φ'' (ρ k) v = φ' k v := by
    intro k v hs
    show (match unname L nid (rename L nid k) with | some k => φ' k v | none => φ (rename L nid k) v) = φ' k v
    rw [unname_of hp hr hf (hS12 k v hs)]
  have hid12 : ∀ x ∈ h'.map (·.1), x < 12 := by
    intro x hx
    obtain ⟨⟨j, y⟩, h1, rfl⟩ := List.mem_map.1 hx
    obtain ⟨z, hz⟩ := find_of_mem h1
    exact hS12 _ _ (hl.objs j z hz).1
  have hnd' : ((shiftH ρ h').map (·.1)).Nodup := by rw [map_fst_shiftH]; exact nodup_map (n := (· < 12)) hρ hnd hid12
  have hfind : ∀ i o, find i (updAll (shiftH ρ h') (delAll (L ++ G) st.heap)) = some o → (∃ k o', find k h' = some o' ∧ i = ρ k ∧ o = o'.shift ρ) ∨ (i ∉ L ∧ i ∉ G ∧ find i st.heap = some o) := by
    intro i o hi
    rw [find_updAll _ _ _ hnd'] at hi
    cases e : find i (shiftH ρ h') with
    | some x =>
      rw [e] at hi; cases hi
      exact .inl (find_shiftH ρ h' i o e)
    | none =>
      rw [e] at hi
      obtain ⟨h1, h2⟩ := find_delAll_some hi
      simp only [List.mem_append, not_or] at h1
      exact .inr ⟨h1.1, h1.2, h2⟩
  have hblkN : ∀ k o', find k h' = some o' → blk φ'' (ρ k) (o'.shift ρ) = blk φ' k o' := fun k o' ho => by
    rw [blk_shift]; exact blk_turn (hφS' _ _ (hl.objs k o' ho).1)
  have hblkO : ∀ i o, find i st.heap = some o → blk φ'' i o = blk φ i o := fun i o ho => blk_congr (hφS _ _ (hr.objs i o ho).1)
  have hpass : ∀ b, (callEnv hr L F hFL).pass b → ∃ i o, i ∈ L ∧ find i st.heap = some o ∧ blk φ i o = some b := fun b hb => hb
  have hkeep : Keeps (Held E φ st.heap) w w' := ⟨hl.size, fun b hlt hb => hl.old b hlt fun hx => by
    obtain ⟨i, o, _, ho, hbk⟩ := hpass b hx
    exact hb (.inr ⟨i, o, ho, hbk⟩)⟩
  have hO : ∀ b, b < w.heap.size → Held E φ'' (updAll (shiftH ρ h') (delAll (L ++ G) st.heap)) b → Held E φ st.heap b := by
    rintro b hlt (hx | ⟨i, o, hi, hb⟩)
    · exact .inl hx
    · rcases hfind i o hi with ⟨k, o', hk, rfl, rfl⟩ | ⟨_, _, ho⟩
      · rw [hblkN k o' hk] at hb
        rcases ((hl.objs k o' hk).2.2.2.1 b hb).2 with h1 | h1
        · exact absurd h1 (Nat.not_le.2 hlt)
        · obtain ⟨i, o, _, ho, hbk⟩ := hpass b h1
          exact .inr ⟨i, o, ho, hbk⟩
      · rw [hblkO i o ho] at hb
        exact .inr ⟨i, o, ho, hb⟩
  have hcase : (∀ i, i ∉ G → i ∉ F) ∨ (r.flat = true ∧ h' = []) := by
    rcases hG with h1 | ⟨h1, h2⟩ | ⟨h1, h2, _⟩
    · exact .inl fun i hi hF => hi ((h1 i).2 hF)
    · exact .inl fun i _ => by rw [h1]; simp
    · exact .inr ⟨h1, h2⟩
  have hO2 : (∀ i, i ∉ G → i ∉ F) → ∀ b, Held E φ'' (updAll (shiftH ρ h') (delAll (L ++ G) st.heap)) b → Held (callEnv hr L F hFL) φ' h' b := by
    rintro hGF b (hx | ⟨i, o, hi, hb⟩)
    · exact .inl (.inl hx)
    · rcases hfind i o hi with ⟨k, o', hk, rfl, rfl⟩ | ⟨h1, h2, ho⟩
      · rw [hblkN k o' hk] at hb
        exact .inr ⟨k, o', hk, hb⟩
      · rw [hblkO i o ho] at hb
        exact .inl (.inr ⟨i, o, h1, hGF i h2, ho, hb⟩)
  have hnotL : ∀ i o k, find i st.heap = some o → i ∉ L → i = ρ k → False := by
    intro i o k ho hiL e
    by_cases hk : k < L.length
    · exact hiL (e ▸ List.mem_of_getElem? (rename_lt hk hp.len))
    · obtain ⟨j, hj⟩ := rename_ge (nid := nid) (L := L) (k := k) (by omega)
      have h1 := (hr.objs i o ho).1
      rw [e] at h1
      rw [show ρ k = nid j from hj] at h1
      exact hf.new j _ h1
  have hblkL : ∀ i o b, i ∉ L → find i st.heap = some o → blk φ i o = some b → ¬ (callEnv hr L F hFL).pass b := by
    intro i o b hi ho hb hx
    obtain ⟨j, oj, hj, hoj, hbj⟩ := hpass b hx
    exact hi (hr.inj i j o oj b ho hoj hb hbj ▸ hj)
  refine ⟨φ'', S'', ?_, fun i v hs => ⟨.inl hs, hφS i v hs⟩, ?_, ?_, ?_⟩
  · refine { os := Eq.trans hl.os hr.os, tape := Eq.trans hl.tape hr.tape, output := Eq.trans hl.output hr.output, size := Nat.le_trans hr.size hl.size, old := ?_, defers := hr.defers, tmps := ?_, objs := ?_, inj := ?_ }
    · intro b hb hp'
      refine Eq.trans (hl.old b (Nat.lt_of_lt_of_le hb hr.size) fun hx => ?_) (hr.old b hb hp')
      obtain ⟨i, o, _, ho, hbk⟩ := hpass b hx
      rcases ((hr.objs i o ho).2.2.2.1 b hbk).2 with h1 | h1
      · omega
      · exact hp' h1
    · intro t p ht
      obtain ⟨h1, h2⟩ := hr.tmps t p ht
      exact ⟨PVal.und_mono (fun i v hs => .inl hs) p h1, PRep.keep hkeep hO hφS p _ h1 h2⟩
    · intro i o hi
      rcases hfind i o hi with ⟨k, o', hk, rfl, rfl⟩ | ⟨hiL, hiG, ho⟩
      · obtain ⟨s1, s2, s3, s4, s5⟩ := hl.objs k o' hk
        have hk12 := hS12 _ _ s1
        have hund : (o'.shift ρ).und S'' := obj_und_shift (fun k v hs => .inr ⟨k, hS12 _ _ hs, rfl, hs⟩) s3
        refine ⟨.inr ⟨k, hk12, rfl, by rw [ver_shift]; exact s1⟩, ?_, hund, ?_, ?_⟩
        · rw [ver_shift]
          rintro v (hv | ⟨k2, hk2, e, hv⟩)
          · exact s2 v (hSS k v (callS_of hf hv)).1
          · rw [← hρ k k2 hk12 hk2 e] at hv; exact s2 v hv
        · intro b hb
          rw [hblkN k o' hk] at hb
          refine ⟨(s4 b hb).1, ?_⟩
          rcases (s4 b hb).2 with h1 | h1
          · exact .inl (Nat.le_trans hr.size h1)
          · obtain ⟨i, o, _, ho, hbk⟩ := hpass b h1
            exact ((hr.objs i o ho).2.2.2.1 b hbk).2
        · rcases hcase with hc | ⟨_, hc⟩
          · have s6 : ORep w' (Held (callEnv hr L F hFL) φ' h') φ' ((fun k => k) k) (o'.shift fun k => k) := by rw [obj_shift_id]; exact s5
            have := ORep.turn (φ2 := φ'') (σ := ρ) (n := S') hφS' s1 s3 s6
            exact ORep.keep (φ' := φ'') (n := S'') (Keeps.same _ _) (fun b _ hb => hO2 hc b hb) (fun _ _ _ => rfl) (.inr ⟨k, hk12, rfl, by rw [ver_shift]; exact s1⟩) hund (fun _ _ => rfl) this
          · rw [hc] at hk; simp [find] at hk
      · obtain ⟨h1, h1', h2, h3, h4⟩ := hr.objs i o ho
        refine ⟨.inl h1, ?_, PObj.und_mono (fun i v hs => .inl hs) h2, ?_, ORep.keep hkeep hO hφS h1 h2 (fun b hb => hl.old b (h3 b hb).1 (hblkL i o b hiL ho hb)) h4⟩
        · rintro v (hv | ⟨k, _, e, _⟩)
          · exact h1' v hv
          · exact (hnotL i o k ho hiL e).elim
        · intro b hb
          rw [hblkO i o ho] at hb
          exact ⟨Nat.lt_of_lt_of_le (h3 b hb).1 hl.size, (h3 b hb).2⟩
    · have mixed : ∀ k o' i o b, find k h' = some o' → i ∉ L → find i st.heap = some o → blk φ' k o' = some b → blk φ i o = some b → False := by
        intro k o' i o b hk hiL ho hb hb'
        rcases ((hl.objs k o' hk).2.2.2.1 b hb).2 with h1 | h1
        · exact absurd ((hr.objs i o ho).2.2.2.1 b hb').1 (Nat.not_lt.2 h1)
        · exact hblkL i o b hiL ho hb' h1
      intro i j oi oj b hi hj hbi hbj
      rcases hfind i oi hi with ⟨k, o', hk, rfl, rfl⟩ | ⟨hiL, _, ho⟩
      · rw [hblkN k o' hk] at hbi
        rcases hfind j oj hj with ⟨k2, o2, hk2, rfl, rfl⟩ | ⟨hjL, _, hoj⟩
        · rw [hblkN k2 o2 hk2] at hbj
          rw [hl.inj k k2 o' o2 b hk hk2 hbi hbj]
        · rw [hblkO j oj hoj] at hbj
          exact (mixed k o' j oj b hk hjL hoj hbi hbj).elim
      · rw [hblkO i oi ho] at hbi
        rcases hfind j oj hj with ⟨k2, o2, hk2, rfl, rfl⟩ | ⟨hjL, _, hoj⟩
        · rw [hblkN k2 o2 hk2] at hbj
          exact (mixed k2 o2 i oi b hk2 hiL ho hbj hbi).elim
        · rw [hblkO j oj hoj] at hbj
          exact hr.inj i j oi oj b ho hoj hbi hbj
  · rintro i v (hs | ⟨k, hk, rfl, hs⟩)
    · exact .inl ⟨v, hs⟩
    · rcases hSn k v hs with ⟨v', h1⟩ | ⟨h1, h2⟩
      · exact .inl ⟨v', h1.2⟩
      · refine .inr ⟨k - 8, by omega, ?_⟩
        show rename L nid k = nid (k - 8)
        simp only [rename, Nat.not_lt.2 h1, if_false]
  · exact und_shift (fun k v hs => .inr ⟨k, hS12 _ _ hs, rfl, hs⟩) r hu
  · rcases hcase with hc | ⟨hfl, _⟩
    · have h1 : PRep w' (Held (callEnv hr L F hFL) φ' h') φ' (r.shift fun k => k) c := by rw [shift_id]; exact hrr
      have h2 := PRep.turn (φ2 := φ'') (σ := ρ) (n := S') hφS' r c hu h1
      exact PRep.keep (φ' := φ'') (n := S'') (Keeps.same _ _) (fun b _ hb => hO2 hc b hb) (fun _ _ _ => rfl) _ c (und_shift (fun k v hs => .inr ⟨k, hS12 _ _ hs, rfl, hs⟩) r hu) h2
    · cases r with
      | d x =>
        simp only [PVal.flat] at hfl
        simp only [PVal.shift, PRep] at hrr ⊢
        exact DRep.flat x c hfl hrr
      | _ => simp [PVal.flat] at hfl
end

end Go.Proofs.Ytdodgbhodkcckaa.Pv
