/- What an operation looks at: it does the same in each state in which that is the same. No program is in sight here. -/
import Derived.Test.YtdodgbhodkcckaaPvo
set_option linter.unusedVariables false
set_option linter.unusedSectionVars false
set_option linter.unusedSimpArgs false
set_option autoImplicit false
namespace Go.Proofs.Ytdodgbhodkcckaa.Pv
open Go Go.RowKit

section
variable {h h' : List (Nat × PObj)}
mutual
theorem toD_congr : ∀ p : PVal, (∀ i ∈ p.ids, find i h' = find i h) → p.toD h' = p.toD h
  | .d x, _ => by simp only [PVal.toD]
  | .agg ps, hi => by simp only [PVal.toD]; rw [toDL_congr ps (by simpa only [PVal.ids] using hi)]
  | .tup ps, hi => by simp only [PVal.toD]; rw [toDL_congr ps (by simpa only [PVal.ids] using hi)]
  | .own id ver s off len, hi => by simp only [PVal.toD]; rw [hi id (by simp [PVal.ids])]
  | .ref id k, hi => by simp only [PVal.toD]; rw [hi id (by simp [PVal.ids])]
  | .clo f a b, hi => by
    simp only [PVal.toD]
    rw [toDL_congr a fun i hm => hi i (by simp only [PVal.ids]; exact List.mem_append_left _ hm), toDL_congr b fun i hm => hi i (by simp only [PVal.ids]; exact List.mem_append_right _ hm)]
  | .ifc t p, hi => by simp only [PVal.toD]; rw [toD_congr p (by simpa only [PVal.ids] using hi)]
  | .refE _ _ _ _ _, _ => by simp only [PVal.toD]
  | .mp _, _ => by simp only [PVal.toD]
  | .gd _ _, _ => by simp only [PVal.toD]
  | .dead, _ => by simp only [PVal.toD]
theorem toDL_congr : ∀ ps : List PVal, (∀ i ∈ idsL ps, find i h' = find i h) → toDL h' ps = toDL h ps
  | [], _ => by simp only [toDL]
  | p :: ps, hi => by
    simp only [toDL]
    rw [toD_congr p fun i hm => hi i (by simp only [idsL]; exact List.mem_append_left _ hm), toDL_congr ps fun i hm => hi i (by simp only [idsL]; exact List.mem_append_right _ hm)]
end
end

theorem idsL_mem : ∀ {ps : List PVal} {p : PVal}, p ∈ ps → ∀ i ∈ p.ids, i ∈ idsL ps
  | [], p, hp, _, _ => by simp at hp
  | q :: ps, p, hp, i, hi => by
    simp only [idsL, List.mem_append]
    rcases List.mem_cons.1 hp with rfl | hp
    · exact .inl hi
    · exact .inr (idsL_mem hp i hi)

theorem idsL_sub : ∀ {ps : List PVal} {i : Nat}, i ∈ idsL ps → ∃ p ∈ ps, i ∈ p.ids
  | [], i, h => by simp [idsL] at h
  | q :: ps, i, h => by
    simp only [idsL, List.mem_append] at h
    rcases h with h | h
    · exact ⟨q, by simp, h⟩
    · obtain ⟨p, h1, h2⟩ := idsL_sub h; exact ⟨p, by simp [h1], h2⟩

theorem strip_ids (p : PVal) : ∀ i ∈ p.strip.1.ids, i ∈ p.ids := by
  intro i hi
  cases p <;> first
    | exact hi
    | (simp only [PVal.strip] at hi; simp only [PVal.ids]; exact hi)

/-- Two states in which what an operation looks at is the same. -/
structure Alike (l : List Operand) (ids : List Nat) (s s' : St) : Prop where
  ev : ∀ x ∈ l, s'.ev x = s.ev x
  fd : ∀ i ∈ idsL (l.map s.ev) ++ ids, find i s'.heap = find i s.heap

section
variable {l : List Operand} {ids : List Nat} {s s' : St} (H : Alike l ids s s')
include H

theorem Alike.evs {x : Operand} (hx : x ∈ l) : s'.evs x = s.evs x := by simp only [St.evs, H.ev x hx]
theorem Alike.gds : ∀ {m : List Operand}, (∀ x ∈ m, x ∈ l) → s'.gds m = s.gds m
  | [], _ => rfl
  | [x], hm => by simp only [St.gds, H.ev x (hm x (by simp))]
  | x :: y :: m, hm => by
    have := Alike.gds (m := y :: m) fun z hz => hm z (by simp [hz])
    simp only [St.gds, H.ev x (hm x (by simp))] at this ⊢
    rw [this]
theorem Alike.find {x : Operand} (hx : x ∈ l) {i : Nat} (hi : i ∈ (s.evs x).ids) : find i s'.heap = find i s.heap :=
  H.fd i (List.mem_append_left _ (idsL_mem (List.mem_map.2 ⟨x, hx, rfl⟩) i (strip_ids _ i hi)))
theorem Alike.toD {x : Operand} (hx : x ∈ l) : (s.evs x).toD s'.heap = (s.evs x).toD s.heap := toD_congr _ fun i hi => H.find hx hi
theorem Alike.evsL : ∀ {m : List Operand}, (∀ x ∈ m, x ∈ l) → m.map s'.evs = m.map s.evs
  | [], _ => rfl
  | x :: m, hm => by simp only [List.map_cons, H.evs (hm x (by simp)), Alike.evsL (m := m) fun z hz => hm z (by simp [hz])]
theorem Alike.findL {m : List Operand} (hm : ∀ x ∈ m, x ∈ l) {i : Nat} (hi : i ∈ idsL (m.map s.evs)) : Pv.find i s'.heap = Pv.find i s.heap := by
  obtain ⟨p, h1, h2⟩ := idsL_sub hi
  obtain ⟨x, hx, rfl⟩ := List.mem_map.1 h1
  exact H.find (hm x hx) h2
theorem Alike.optInt {x : Option Operand} (hx : ∀ y, x = some y → y ∈ l) : optInt s' x = optInt s x := by
  cases x with
  | none => rfl
  | some y => simp only [Pv.optInt, H.ev y (hx y rfl)]
end

theorem roomOf_congr {h h' : List (Nat × PObj)} {p : PVal} (hi : ∀ i ∈ p.ids, find i h' = find i h) : roomOf h' p = roomOf h p := by
  cases p with
  | own id ver s' off len => simp only [roomOf]; rw [hi id (by simp [PVal.ids])]
  | _ => rfl

theorem compute_local {T : Nat → Option TI} {eqt : Nat → Option (List CK)} {op : Op} {ids : List Nat} {s s' : St} (H : Alike op.operands.toList ids s s') : computeP T eqt s' op = computeP T eqt s op := by
  cases op
  case call cl =>
    obtain ⟨cal, args, ts⟩ := cl
    cases cal with
    | value f => rfl
    | invoke r m => rfl
    | builtin b =>
      have hm : ∀ x ∈ args.toList, x ∈ (Op.call ⟨.builtin b, args, ts⟩).operands.toList := by intro x hx; simpa [Op.operands, Call.operands] using hx
      cases b with
      | cap =>
        simp only [computeP]
        split
        · rename_i x t e1 e2
          have hx := hm x (by rw [e1]; simp)
          rw [H.evs hx, H.gds (m := [x]) (by intro z hz; simp at hz; subst hz; exact hx)]
          split
          · rename_i e id ver s2 off len hk he
            rw [H.find hx (by rw [he]; simp [PVal.ids])]
          · rfl
        · rfl
      | len =>
        simp only [computeP]
        split
        · rename_i x t e1 e2
          have hx := hm x (by rw [e1]; simp)
          rw [H.evs hx, H.gds (m := [x]) (by intro z hz; simp at hz; subst hz; exact hx)]
        · rfl
      | max =>
        simp only [computeP]
        split
        · rename_i x y e1
          have hx := hm x (by rw [e1]; simp)
          have hy := hm y (by rw [e1]; simp)
          rw [H.evs hx, H.evs hy, H.gds (m := [x, y]) (by intro z hz; simp at hz; rcases hz with rfl | rfl <;> assumption)]
        · rfl
      | min =>
        simp only [computeP]
        split
        · rename_i x y e1
          have hx := hm x (by rw [e1]; simp)
          have hy := hm y (by rw [e1]; simp)
          rw [H.evs hx, H.evs hy, H.gds (m := [x, y]) (by intro z hz; simp at hz; rcases hz with rfl | rfl <;> assumption)]
        · rfl
      | _ => rfl
  case move x => simp only [computeP, H.ev x (by simp [Op.operands])]
  case assign x => simp only [computeP, H.ev x (by simp [Op.operands])]
  case pick c a b =>
    have hc : c ∈ (Op.pick c a b).operands.toList := by simp [Op.operands]
    simp only [computeP, H.evs hc, H.ev a (by simp [Op.operands]), H.ev b (by simp [Op.operands]), H.gds (m := [c]) (by simp [Op.operands])]
  case unOp o t x => simp only [computeP, H.evs (x := x) (by simp [Op.operands]), H.gds (m := [x]) (by simp [Op.operands])]
  case binOp o t x y t' =>
    simp only [computeP, H.evs (x := x) (by simp [Op.operands]), H.evs (x := y) (by simp [Op.operands]), H.gds (m := [x, y]) (by simp [Op.operands])]
    unfold binP
    rw [H.toD (x := x) (by simp [Op.operands]), H.toD (x := y) (by simp [Op.operands])]
  case convert src dst x => simp only [computeP, H.evs (x := x) (by simp [Op.operands]), H.gds (m := [x]) (by simp [Op.operands])]
  case build t parts =>
    have e : (parts.toList.map fun q => (q.1, s'.evs q.2)) = parts.toList.map fun q => (q.1, s.evs q.2) := by
      refine List.map_congr_left fun q hq => ?_
      rw [H.evs (x := q.2) (by simp only [Op.operands]; exact List.mem_map.2 ⟨q, hq, rfl⟩)]
    simp only [computeP, e, H.gds (m := parts.toList.map (·.2)) (by intro x hx; simpa only [Op.operands] using hx)]
  case load t x =>
    simp only [computeP, H.evs (x := x) (by simp [Op.operands]), H.gds (m := [x]) (by simp [Op.operands])]
    congr 1
    unfold loadP
    split
    · rfl
    · split
      · split
        · rename_i id k he
          rw [H.find (x := x) (by simp [Op.operands]) (by rw [he]; simp [PVal.ids])]
        · rename_i id ver s2 i k he
          rw [H.find (x := x) (by simp [Op.operands]) (by rw [he]; simp [PVal.ids])]
        · rfl
        · rfl
      · rfl
  case fieldAddr t x f => simp only [computeP, H.evs (x := x) (by simp [Op.operands]), H.gds (m := [x]) (by simp [Op.operands])]
  case field t x f => simp only [computeP, H.evs (x := x) (by simp [Op.operands]), H.gds (m := [x]) (by simp [Op.operands])]
  case indexAddr t x i => simp only [computeP, H.evs (x := x) (by simp [Op.operands]), H.evs (x := i) (by simp [Op.operands]), H.gds (m := [x, i]) (by simp [Op.operands])]
  case index t x i => simp only [computeP, H.evs (x := x) (by simp [Op.operands]), H.evs (x := i) (by simp [Op.operands]), H.gds (m := [x, i]) (by simp [Op.operands])]
  case slice t x lo hi mx =>
    simp only [computeP, roomOf_congr fun i hi => H.find (x := x) (by simp [Op.operands]) hi, H.evs (x := x) (by simp [Op.operands]), H.gds (m := [x]) (by simp [Op.operands]),
      H.optInt (x := lo) (by rintro y rfl; simp [Op.operands]), H.optInt (x := hi) (by rintro y rfl; simp [Op.operands]), H.optInt (x := mx) (by rintro y rfl; simp [Op.operands])]
  case extract x i => simp only [computeP, H.ev x (by simp [Op.operands])]
  case nilCheck x => simp only [computeP, H.evs (x := x) (by simp [Op.operands]), H.gds (m := [x]) (by simp [Op.operands])]
  case makeFunc fn first cap =>
    simp only [computeP, H.evsL (m := first.toList) (by intro x hx; simp [Op.operands]; exact .inl (by simpa using hx)), H.evsL (m := cap.toList) (by intro x hx; simp [Op.operands]; exact .inr (by simpa using hx)),
      H.gds (m := first.toList ++ cap.toList) (by intro x hx; simpa [Op.operands] using hx)]
  case makeInterface t x => simp only [computeP, H.evs (x := x) (by simp [Op.operands]), H.gds (m := [x]) (by simp [Op.operands])]
  all_goals rfl

theorem argsP_congr {h h' : List (Nat × PObj)} {ρ : Nat → Nat} : ∀ {qs ps : List PVal}, (∀ i ∈ idsL qs, find i h' = find i h) → argsP h ρ qs ps → argsP h' ρ qs ps
  | [], [], _, _ => trivial
  | [], p :: ps, _, ha => by simp [argsP] at ha
  | q :: qs, [], _, ha => by simp [argsP] at ha
  | q :: qs, p :: ps, hi, ha => by
    simp only [argsP] at ha ⊢
    refine ⟨?_, argsP_congr (fun i hm => hi i (by simp only [idsL]; exact List.mem_append_right _ hm)) ha.2⟩
    cases p with
    | d y =>
      have h1 := ha.1
      simp only [argP] at h1 ⊢
      rw [toD_congr q fun i hm => hi i (by simp only [idsL]; exact List.mem_append_left _ hm)]
      exact h1
    | _ => exact ha.1

theorem idsL_append : ∀ {ps qs : List PVal}, idsL (ps ++ qs) = idsL ps ++ idsL qs
  | [], qs => by simp [idsL]
  | p :: ps, qs => by simp only [List.cons_append, idsL, idsL_append (ps := ps), List.append_assoc]

theorem idsL_ds : ∀ ds : List D, idsL (ds.map .d) = []
  | [] => rfl
  | d :: ds => by simp only [List.map_cons, idsL, PVal.ids, List.nil_append, idsL_ds ds]

theorem callee_ids {p : PVal} {fid : Nat} {x y : List PVal} (h : callee p = some (fid, x, y)) : ∀ i ∈ idsL x ++ idsL y, i ∈ p.ids := by
  unfold callee at h
  have e1 : ∀ l : List Value, l.map (fun c => PVal.d (.v c)) = (l.map D.v).map PVal.d := by intro l; simp
  split at h
  · simp only [Option.some.injEq, Prod.mk.injEq] at h
    obtain ⟨rfl, rfl, rfl⟩ := h
    intro i hi
    rw [e1, e1, idsL_ds, idsL_ds] at hi
    simp at hi
  · simp only [Option.some.injEq, Prod.mk.injEq] at h
    obtain ⟨rfl, rfl, rfl⟩ := h
    intro i hi
    rw [idsL_ds, idsL_ds] at hi
    simp at hi
  · simp only [Option.some.injEq, Prod.mk.injEq] at h
    obtain ⟨rfl, rfl, rfl⟩ := h
    intro i hi
    simpa only [PVal.ids] using hi
  · cases h

theorem srcP_congr {h h' : List (Nat × PObj)} {s : Nat} {p : PVal} (hi : ∀ i ∈ p.ids, find i h' = find i h) : srcP h' s p = srcP h s p := by
  cases p with
  | own id ver s' off len => simp only [srcP]; rw [hi id (by simp [PVal.ids])]
  | _ => rfl

section
variable {P : Program} {T : Nat → Option TI} {eqt : Nat → Option (List CK)} {nid : Nat → Nat} {s s' : St} {e : Eff}

theorem step_local {op : Op} (H : Alike op.operands.toList (e.dels ++ e.upds.map (·.1)) s s') (hs : stepP P T eqt nid op s (· = e)) : stepP P T eqt nid op s' (· = e) := by
  have fallback : (match computeP T eqt s op with
    | some (p, pre) => pre ∧ (⟨p, [], []⟩ : Eff) = e
    | none => False) → (match computeP T eqt s' op with
    | some (p, pre) => pre ∧ (⟨p, [], []⟩ : Eff) = e
    | none => False) := by rw [compute_local H]; exact fun h => h
  cases op with
  | alloc t => exact hs
  | box t x =>
    simp only [stepP] at hs ⊢
    rw [H.evs (x := x) (by simp [Op.operands]), H.gds (m := [x]) (by simp [Op.operands])]; exact hs
  | buildSlice t len parts =>
    have hm : ∀ x ∈ parts.toList.map (·.2), x ∈ (Op.buildSlice t len parts).operands.toList := by intro x hx; simpa only [Op.operands] using hx
    have e1 : (parts.toList.map fun q => s'.evs q.2) = parts.toList.map fun q => s.evs q.2 := by
      have := H.evsL hm
      simpa [List.map_map, Function.comp_def] using this
    have e2 : toDL s'.heap (parts.toList.map fun q => s.evs q.2) = toDL s.heap (parts.toList.map fun q => s.evs q.2) := by
      refine toDL_congr _ fun i hi => H.findL hm ?_
      simpa [List.map_map, Function.comp_def] using hi
    simp only [stepP] at hs ⊢
    rw [e1, e2, H.gds hm]; exact hs
  | makeSlice t l c =>
    simp only [stepP] at hs ⊢
    rw [H.evs (x := l) (by simp [Op.operands]), H.evs (x := c) (by simp [Op.operands]), H.gds (m := [l, c]) (by simp [Op.operands])]; exact hs
  | store t ad x =>
    have ha : ad ∈ (Op.store t ad x).operands.toList := by simp [Op.operands]
    have hx : x ∈ (Op.store t ad x).operands.toList := by simp [Op.operands]
    simp only [stepP] at hs ⊢
    rw [H.evs ha, H.evs hx, H.gds (m := [ad, x]) (by intro z hz; simp at hz; rcases hz with rfl | rfl <;> assumption), H.toD hx]
    split at hs
    · rename_i ti id k ht he
      rw [H.find ha (by rw [he]; simp [PVal.ids])]; exact hs
    · rename_i ti id ver sz i k ht he
      rw [H.find ha (by rw [he]; simp [PVal.ids])]; exact hs
    · exact hs.elim
  | call cl =>
    obtain ⟨cal, args, ts⟩ := cl
    cases cal with
    | value f =>
      have hf : f ∈ (Op.call ⟨.value f, args, ts⟩).operands.toList := by simp [Op.operands, Call.operands]
      have hm : ∀ x ∈ args.toList, x ∈ (Op.call ⟨.value f, args, ts⟩).operands.toList := by intro x hx; simp [Op.operands, Call.operands]; exact .inr (by simpa using hx)
      have hfm : ∀ x ∈ f :: args.toList, x ∈ (Op.call ⟨.value f, args, ts⟩).operands.toList := by
        intro x hx
        rcases List.mem_cons.1 hx with e | hx
        · rw [e]; exact hf
        · exact hm x hx
      simp only [stepP] at hs ⊢
      rw [H.evs hf, H.evsL hm, H.gds (m := f :: args.toList) hfm]
      split at hs
      · rename_i fid x y hc
        try simp only [hc]
        have hids : ∀ i ∈ idsL (x ++ args.toList.map s.evs ++ y), find i s'.heap = find i s.heap := by
          intro i hi
          rw [idsL_append, idsL_append, List.append_assoc, List.mem_append, List.mem_append] at hi
          rcases hi with hi | hi | hi
          · exact H.find hf (callee_ids hc i (List.mem_append_left _ hi))
          · exact H.findL hm hi
          · exact H.find hf (callee_ids hc i (List.mem_append_right _ hi))
        obtain ⟨hg, ho⟩ := hs
        refine ⟨hg, ?_⟩
        rcases ho with ho | ⟨tS, el, te, id1, v1, o1, l1, id2, v2, o2, l2, e1, r1, els1, e2, r2, els2, k1, k2, k3, ⟨k4, k5, k6⟩, k7⟩
        rotate_left
        · rw [k2] at hids
          exact .inr ⟨tS, el, te, id1, v1, o1, l1, id2, v2, o2, l2, e1, r1, els1, e2, r2, els2, k1, k2, k3, ⟨by rw [hids id1 (by simp [idsL, PVal.ids])]; exact k4, by rw [hids id2 (by simp [idsL, PVal.ids])]; exact k5, k6⟩, k7⟩
        refine .inl ?_
        obtain ⟨L, ps, hp, r, h', give, c1, c2, ⟨c3, c4, c5, c6⟩, c7, c8, c9⟩ := ho
        have hL : L.map (fun i => find i s'.heap) = L.map fun i => find i s.heap := by
          refine List.map_congr_left fun i hi => H.fd i (List.mem_append_right _ ?_)
          rw [← c9]; simp [hi]
        exact ⟨L, ps, hp, r, h', give, argsP_congr (fun i hi => hids i hi) c1, c2, ⟨c3, c4, c5, by rw [hL]; exact c6⟩, c7, c8, c9⟩
      · exact hs.elim
    | invoke r m => exact fallback hs
    | builtin b =>
      cases b with
      | append =>
        have hm : ∀ x ∈ args.toList, x ∈ (Op.call ⟨.builtin .append, args, ts⟩).operands.toList := by intro x hx; simpa [Op.operands, Call.operands] using hx
        simp only [stepP] at hs ⊢
        split at hs
        · rename_i a x t t' e1 e2
          have ha := hm a (by rw [e1]; simp)
          have hx := hm x (by rw [e1]; simp)
          try simp only [e1, e2]
          rw [H.evs ha, H.evs hx, H.gds (m := [a, x]) (by intro z hz; simp at hz; rcases hz with rfl | rfl <;> assumption), H.toD hx]
          split at hs
          · rename_i el hkd hkd'
            try simp only [hkd, hkd']
            split at hs
            · rename_i te id ver sz off len m ht he hex
              try simp only [ht, he, hex]
              rw [H.find ha (by rw [he]; simp [PVal.ids])]
              exact hs
            · exact hs.elim
          · rename_i el hkd _
            try simp only [hkd]
            split at hs
            · rename_i te dx ht hxd
              try simp only [ht, hxd]
              split at hs
              · rename_i new hnew
                try simp only [hnew]
                refine ⟨hs.1, ?_⟩
                have h2 := hs.2
                split at h2
                · rename_i he; (try simp only [he]); exact h2
                · rename_i id ver s2 off len he
                  try simp only [he]
                  rw [H.find ha (by rw [he]; simp [PVal.ids]), srcP_congr (s := te.size) fun i hi => H.find hx hi]; exact h2
                · exact h2.elim
              · exact hs.elim
            · exact hs.elim
          · exact hs.elim
        · exact hs.elim
      | clear =>
        have hm : ∀ x ∈ args.toList, x ∈ (Op.call ⟨.builtin .clear, args, ts⟩).operands.toList := by intro x hx; simpa [Op.operands, Call.operands] using hx
        simp only [stepP] at hs ⊢
        split at hs
        · rename_i d t e1 e2
          have ha := hm d (by rw [e1]; simp)
          try simp only [e1, e2]
          rw [H.evs ha, H.gds (m := [d]) (by intro z hz; simp at hz; subst hz; exact ha)]
          split at hs
          · rename_i el hkd
            try simp only [hkd]
            split at hs
            · rename_i te id ver sz off len ht he
              try simp only [ht, he]
              rw [H.find ha (by rw [he]; simp [PVal.ids])]
              exact hs
            · exact hs.elim
          · exact hs.elim
        · exact hs.elim
      | copy =>
        have hm : ∀ x ∈ args.toList, x ∈ (Op.call ⟨.builtin .copy, args, ts⟩).operands.toList := by intro x hx; simpa [Op.operands, Call.operands] using hx
        simp only [stepP] at hs ⊢
        split at hs
        · rename_i d x t t' e1 e2
          have ha := hm d (by rw [e1]; simp)
          have hx := hm x (by rw [e1]; simp)
          try simp only [e1, e2]
          rw [H.evs ha, H.evs hx, H.gds (m := [d, x]) (by intro z hz; simp at hz; rcases hz with rfl | rfl <;> assumption)]
          split at hs
          · rename_i el hkd
            try simp only [hkd]
            split at hs
            · rename_i te id ver sz off len ht he
              try simp only [ht, he]
              rw [H.find ha (by rw [he]; simp [PVal.ids]), srcP_congr (s := te.size) fun i hi => H.find hx hi]
              exact hs
            · exact hs.elim
          · exact hs.elim
        · exact hs.elim
      | _ => exact fallback hs
  | _ => exact fallback hs

theorem stepG_local {op : Op} {g : Bool} (H : Alike op.operands.toList (e.dels ++ e.upds.map (·.1)) s s') (hs : stepG P T eqt nid g op s (· = e)) : stepG P T eqt nid g op s' (· = e) := by
  have fallback : (match computeP T eqt s op with
    | some (p, pre) => (g = true → pre) ∧ (⟨(match p with | .gd g' q => .gd (g && g') q | p => .gd g p), [], []⟩ : Eff) = e
    | none => g = false ∧ (⟨.gd false .dead, [], []⟩ : Eff) = e) → (match computeP T eqt s' op with
    | some (p, pre) => (g = true → pre) ∧ (⟨(match p with | .gd g' q => .gd (g && g') q | p => .gd g p), [], []⟩ : Eff) = e
    | none => g = false ∧ (⟨.gd false .dead, [], []⟩ : Eff) = e) := by rw [compute_local H]; exact fun h => h
  cases op with
  | buildSlice t len parts =>
    cases g with
    | true => exact step_local (P := P) (eqt := eqt) H hs
    | false => exact hs
  | call cl =>
    obtain ⟨cal, args, ts⟩ := cl
    cases cal with
    | value f =>
      have hf : f ∈ (Op.call ⟨.value f, args, ts⟩).operands.toList := by simp [Op.operands, Call.operands]
      have hm : ∀ x ∈ args.toList, x ∈ (Op.call ⟨.value f, args, ts⟩).operands.toList := by intro x hx; simp [Op.operands, Call.operands]; exact .inr (by simpa using hx)
      have hfm : ∀ x ∈ f :: args.toList, x ∈ (Op.call ⟨.value f, args, ts⟩).operands.toList := by
        intro x hx
        rcases List.mem_cons.1 hx with e | hx
        · rw [e]; exact hf
        · exact hm x hx
      simp only [stepG] at hs ⊢
      rw [H.evs hf, H.evsL hm, H.gds (m := f :: args.toList) hfm]
      split at hs
      · rename_i fid x y hc
        try simp only [hc]
        obtain ⟨ps, z, c1, c2, c3⟩ := hs
        refine ⟨ps, z, fun hg => ⟨argsP_congr (fun i hi => ?_) (c1 hg).1, (c1 hg).2⟩, c2, c3⟩
        rw [idsL_append, idsL_append, List.append_assoc, List.mem_append, List.mem_append] at hi
        rcases hi with hi | hi | hi
        · exact H.find hf (callee_ids hc i (List.mem_append_left _ hi))
        · exact H.findL hm hi
        · exact H.find hf (callee_ids hc i (List.mem_append_right _ hi))
      · exact hs.elim
    | invoke r m => exact fallback hs
    | builtin b => cases b <;> exact fallback hs
  | _ => exact fallback hs

theorem op_local {all : List Oper} {o : Oper} (H : Alike o.op.operands.toList (e.dels ++ e.upds.map (·.1)) s s') (hg : ∀ g want t, o.guard = some (g, want) → dstOf all g = some t → s'.ev (.tmp t) = s.ev (.tmp t)) (hs : opP P T eqt nid all o s (· = e)) : opP P T eqt nid all o s' (· = e) := by
  unfold opP at hs ⊢
  split at hs
  · rename_i hgd; (try simp only [hgd]); exact step_local H hs
  · rename_i g want hgd
    try simp only [hgd]
    split at hs
    · rename_i t ht
      try simp only [ht]
      rw [hg g want t hgd ht]
      split at hs
      · rename_i b hb; (try simp only [hb]); exact stepG_local H hs
      · exact hs.elim
    · exact hs.elim
end

end Go.Proofs.Ytdodgbhodkcckaa.Pv
