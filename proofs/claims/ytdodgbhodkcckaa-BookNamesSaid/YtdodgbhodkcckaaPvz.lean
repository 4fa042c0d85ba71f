/- A law that answers yes to all data of its kinds: what the statements ask, out of its contract. No program is in sight here. -/
import Derived.ProofKit
import Derived.Test.YtdodgbhodkcckaaPvx
import Derived.Test.YtdodgbhodkcckaaPvy
set_option linter.unusedVariables false
set_option linter.unusedSimpArgs false
set_option linter.unusedSectionVars false
set_option autoImplicit false
namespace Go.Proofs.Ytdodgbhodkcckaa.Pv
open Go Go.RowKit Go.ChangeShapes

/-- What a call begins with that is handed nothing of its own. -/
def env0 (W : World) : Env := ⟨W, fun _ => False, fun _ => False, fun _ h => h.elim, fun _ h => h.elim⟩
theorem held0 (W : World) (b : Nat) : ¬ Held (env0 W) (fun _ _ => none) [] b := by
  rintro (h | ⟨i, o, h, _⟩)
  · exact h
  · simp [find] at h

theorem law_calls {P : Program} {f : FuncId} {xs : List D} {W : World} {args : Array Value} (hr : Runs P f (xs.map .d) [] (.d (.v (.bool true))) []) (hx : DRepL W (Held (env0 W) (fun _ _ => none) []) xs args.toList) :
    Calls P f args W fun e w' => e = .returned (.bool true) ∧ w'.os = W.os ∧ w'.output = W.output ∧ W.heap.size ≤ w'.heap.size ∧ ∀ b, b < W.heap.size → w'.heap[b]? = W.heap[b]? := by
  have h0 : Rst (env0 W) (fun _ _ => False) (fun _ _ => none) (.only []) Act.none W :=
    { os := rfl, tape := rfl, output := rfl, size := Nat.le_refl _, old := fun _ _ _ => rfl, defers := rfl, tmps := by intro t p h; simp [St.only, find] at h, objs := by intro id o h; simp [St.only, find] at h, inj := by intro id id' o o' b h; simp [St.only, find] at h }
  have h1 := hr.2 (env0 W) (fun _ _ => False) (fun _ _ => none) args.toList (fun b h => h.elim) (fun k v h => h.elim) h0 (undL_ds _ _) (PRepL.ds hx)
  rw [Array.toArray_toList] at h1
  refine h1.mono ?_
  rintro e w' ⟨c, φ', S', rfl, g1, _, _, _, g2⟩
  simp only [PRep, DRep] at g2
  subst g2
  exact ⟨rfl, g1.os, g1.output, g1.size, fun b hb => g1.old b hb fun h => h⟩

section
variable {H : Type} {enc : TypeId × Value → H} {P : Program} {W W' : World} {base : Nat} {sp : Nat → Bool} {held : Bool}

theorem trodAll_carry : ∀ {ts : List TypeId} {vs : List Value} {ds : List (DataW H)} {ps : List MemPlace}, DataW.TrodAll enc P W base sp held ts vs ds ps → (∀ p ∈ ps, W.sameAt W' p) → DataW.TrodAll enc P W' base sp held ts vs ds ps
  | [], [], [], ps, h, _ => h
  | t :: ts, v :: vs, d :: ds, ps, h, hs => by
    simp only [DataW.TrodAll] at h ⊢
    obtain ⟨p, q, ⟨fuel, h1⟩, h2, rfl⟩ := h
    exact ⟨p, q, ⟨fuel, DataW.trod_carry fuel _ _ _ h1 fun x hx => hs x (List.mem_append_left _ hx)⟩, trodAll_carry h2 fun x hx => hs x (List.mem_append_right _ hx), rfl⟩
  | [], [], _ :: _, ps, h, _ => by simp [DataW.TrodAll] at h
  | [], _ :: _, _, ps, h, _ => by simp [DataW.TrodAll] at h
  | _ :: _, [], _, ps, h, _ => by simp [DataW.TrodAll] at h
  | _ :: _, _ :: _, [], ps, h, _ => by simp [DataW.TrodAll] at h

theorem law_post {f : Func} {s : ChangeSpec} {apart fresh handsOn again : Bool} {args : Array Value} {ds gs : List (DataW H)} {before : List MemPlace} {tb : TypeId}
    (K : Kids P (· < P.types.size)) (hz : ∀ t e, t < P.types.size → P.underlying t = some (.slice e) → 0 < P.cellsOf e) (hts : ∀ t ∈ f.params.toList, t < P.types.size)
    (hW : DataW.Whole enc P f.params.toList s.vars apart W args.toList ds gs before) (hv0 : s.vars = [])
    (hres : (s.fn H ds).results = [.lit (.bool true)]) (hargs : (s.fn H ds).args = ds) (hvars : (s.fn H ds).vars = []) (hrt : f.resultTypes = #[tb]) (hub : P.underlying tb = some .bool)
    (hos : W'.os = W.os) (hout : W'.output = W.output) (hsize : W.heap.size ≤ W'.heap.size) (hold : ∀ b, b < W.heap.size → W'.heap[b]? = W.heap[b]?) :
    s.post enc P f apart fresh handsOn again W args (.bool true) W' := by
  have hlt := hW.lt
  have hW' := hW
  obtain ⟨p, q, hA, hV, rfl, hfz, hnd⟩ := hW
  rw [hv0] at hV
  obtain ⟨rfl, rfl⟩ := trodVars_none hV
  simp only [List.append_nil] at hlt hfz hnd
  have same : ∀ x ∈ p, W.sameAt W' x := by
    intro x hx
    have := hlt x hx
    cases x with
    | cell b off => simp only [World.sameAt, World.cell?]; rw [hold b this]
    | map b => simp only [World.sameAt]; rw [hold b this]
  have again' : ∀ sp : Nat → Bool, (∀ x ∈ p, sp x.block = true) → DataW.TrodAll enc P W' 0 sp true f.params.toList args.toList ds p := fun sp hs => trodAll_carry (DataW.TrodAll.respare K hz hts hA hs) same
  have res : ∀ (b : Nat) (sp : Nat → Bool) (hd : Bool), DataW.TrodAll enc P W' b sp hd f.resultTypes.toList ((Value.bool true).resultList f.resultTypes.size) (s.fn H ds).results [] := by
    intro b sp hd
    rw [hrt, hres]
    exact trodAll_mk1 (shut_bool hub true)
  have hvs : ∀ sp : Nat → Bool, DataW.TrodVars enc P W' sp s.vars (s.fn H ds).vars [] := by
    intro sp; rw [hv0, hvars]; simp only [DataW.TrodVars]
  refine ⟨ds, [], p ++ [], [], p, [], hW', ?_, ?_, ?_, ?_, fun _ => ⟨ok_one hrt rfl (okWide_bool_mk hub true), ?_⟩⟩
  · rw [List.append_nil]; exact res _ _ _
  · rw [List.append_nil, hargs]; exact again' _ fun x hx => by simpa using hlt x hx
  · rw [List.append_nil]; exact hvs _
  · refine ⟨hos, hout, fun i hi => ?_⟩
    rw [hold i hi]
    cases h : W.heap[i]? with
    | none => rfl
    | some o => cases o <;> simp
  · refine ⟨_, _, ([] ++ p) ++ [], ⟨[] ++ p, [], trodAll_append (again' _ fun _ _ => rfl) (res _ _ _), hvs _, rfl, ?_, ?_⟩, ?_⟩
    · intro b off hp
      have hp' : MemPlace.cell b off ∈ p := by simpa using hp
      rw [World.frozen?_of_block (hold b (hlt _ hp'))]
      exact hfz b off hp'
    · intro ha; simpa using hnd ha
    · intro x hx _; simpa using hx
end

/-- Elements that are all of one kind. -/
theorem els_of {α : Type} (f : α → D) (Q : α → Prop) : ∀ {els : List D}, (∀ el ∈ els, ∃ x, el = f x ∧ Q x) → ∃ xs : List α, els = xs.map f ∧ ∀ x ∈ xs, Q x
  | [], _ => ⟨[], rfl, by simp⟩
  | el :: els, h => by
    obtain ⟨x, rfl, hx⟩ := h el (by simp)
    obtain ⟨xs, rfl, hxs⟩ := els_of f Q (els := els) fun e he => h e (List.mem_cons_of_mem _ he)
    exact ⟨x :: xs, rfl, by intro y hy; rcases List.mem_cons.1 hy with rfl | hy; exact hx; exact hxs y hy⟩

end Go.Proofs.Ytdodgbhodkcckaa.Pv
