/- Operations that make memory or change it: how the state goes on. No program is in sight here. -/
import Derived.Test.YtdodgbhodkcckaaPvi
set_option linter.unusedVariables false
set_option linter.unusedSimpArgs false
set_option autoImplicit false
namespace Go.Proofs.Ytdodgbhodkcckaa.Pv
open Go Go.RowKit

/-- Where the names' objects lie, and that of one name more. -/
def phi (φ : Nat → Nat → Option (Nat × Nat)) (id ver : Nat) (x : Option (Nat × Nat)) : Nat → Nat → Option (Nat × Nat) := fun i v => if i = id ∧ v = ver then x else φ i v
/-- One name more. -/
def also (S : Nat → Nat → Prop) (id ver : Nat) : Nat → Nat → Prop := fun i v => S i v ∨ (i = id ∧ v = ver)

theorem phi_same (φ : Nat → Nat → Option (Nat × Nat)) (id ver : Nat) (x : Option (Nat × Nat)) : phi φ id ver x id ver = x := by simp [phi]
theorem phi_old {φ : Nat → Nat → Option (Nat × Nat)} {S : Nat → Nat → Prop} {id ver : Nat} {x : Option (Nat × Nat)} (hn : ¬ S id ver) (i v : Nat) (h : S i v) : phi φ id ver x i v = φ i v := by
  simp only [phi]; split
  · rename_i e; obtain ⟨rfl, rfl⟩ := e; exact absurd h hn
  · rfl

theorem PRepL.ones {w : World} {O : Nat → Prop} {φ : Nat → Nat → Option (Nat × Nat)} : ∀ {ps : List PVal} {cs : List Value}, PRepL w O φ ps cs → ps.all PVal.one = true → ∀ v ∈ cs, v.oneCell' = true
  | [], cs, h, _, v, hv => by simp only [PRepL] at h; subst h; simp at hv
  | p :: ps, cs, h, ha, v, hv => by
    simp only [PRepL] at h
    obtain ⟨c, cs', rfl, h1, h2⟩ := h
    simp only [List.all_cons, Bool.and_eq_true] at ha
    rcases List.mem_cons.1 hv with rfl | hv
    · obtain ⟨ha, _⟩ := ha
      cases p with
      | d x =>
        simp only [PRep] at h1
        simp only [PVal.one] at ha
        cases x with
        | v x => simp only [DRep] at h1; subst h1; cases v <;> simp_all [D.one, Value.oneCell']
        | agg ds => simp [D.one] at ha
        | tup ds => simp [D.one] at ha
        | slc s els => simp only [DRep] at h1; obtain ⟨_, _, rfl, _⟩ := h1; rfl
        | ifc t q => simp only [DRep] at h1; obtain ⟨_, rfl, _⟩ := h1; rfl
        | fn f u v => simp only [DRep] at h1; obtain ⟨_, _, rfl, _⟩ := h1; rfl
        | ptr ds => simp only [DRep] at h1; obtain ⟨_, _, _, rfl, _⟩ := h1; rfl
      | agg ps => simp [PVal.one] at ha
      | tup ps => simp [PVal.one] at ha
      | ref id k => simp only [PRep] at h1; obtain ⟨_, _, _, rfl⟩ := h1; rfl
      | refE id ver s i k => simp only [PRep] at h1; obtain ⟨_, _, _, rfl⟩ := h1; rfl
      | own id ver s off len => simp only [PRep] at h1; rcases h1 with ⟨_, _, _, rfl⟩ | ⟨_, _, _, _, _, rfl, _⟩ <;> rfl
      | mp id => simp only [PRep] at h1; obtain ⟨_, _, _, rfl⟩ := h1; rfl
      | clo f x y => simp only [PRep] at h1; obtain ⟨_, _, rfl, _⟩ := h1; rfl
      | ifc t q => simp only [PRep] at h1; obtain ⟨_, rfl, _⟩ := h1; rfl
      | gd b q => simp [PVal.one] at ha
      | dead => simp [PVal.one] at ha
    · exact PRepL.ones h2 ha.2 v hv

theorem DRepL.ones {w : World} {O : Nat → Prop} {ds : List D} {cs : List Value} (h : DRepL w O ds cs) (ha : ds.all D.one = true) : ∀ v ∈ cs, v.oneCell' = true :=
  PRepL.ones (φ := fun _ _ => none) (PRepL.ds h) (by simpa [List.all_map, Function.comp_def, PVal.one] using ha)

/-- The cells of elements, one behind the other. -/
theorem DRepE.cells {w : World} {O : Nat → Prop} {b s : Nat} : ∀ {es : List D} {off : Nat}, DRepE w O b s es off → (∀ d ∈ es, d.cells.all D.one = true) →
    ∃ cs : List Value, cs.length = es.length * s ∧ CellsAt w b off cs ∧ (∀ v ∈ cs, v.oneCell' = true) ∧ (∀ i x, es[i]? = some x → ∃ c, DRep w O x c ∧ c.cells.size = s ∧ ∀ j v, c.cells.toList[j]? = some v → cs[i * s + j]? = some v)
  | [], off, h, h1 => ⟨[], by simp, by intro j hj; simp at hj, by simp, by simp⟩
  | e :: es, off, h, h1 => by
    simp only [DRepE] at h
    obtain ⟨⟨c, g1, g2, g3⟩, g4⟩ := h
    obtain ⟨cs, q1, q2, q3, q4⟩ := DRepE.cells g4 (fun d hd => h1 d (by simp [hd]))
    have hcl : c.cells.toList.length = s := by simpa using g2
    refine ⟨c.cells.toList ++ cs, by rw [List.length_append, hcl, q1, List.length_cons, Nat.add_mul]; omega, g3.append (by rw [hcl]; exact q2), ?_, ?_⟩
    · intro v hv
      rcases List.mem_append.1 hv with hv | hv
      · exact DRepL.ones g1.cells (h1 e (by simp)) v hv
      · exact q3 v hv
    · intro i x hi
      cases i with
      | zero =>
        simp at hi; subst hi
        refine ⟨c, g1, g2, fun j v hj => ?_⟩
        have : j < c.cells.toList.length := (List.getElem?_eq_some_iff.1 hj).1
        rw [List.getElem?_append_left (by simpa using this)]
        simpa using hj
      | succ i =>
        obtain ⟨c', r1, r2, r3⟩ := q4 i x (by simpa using hi)
        refine ⟨c', r1, r2, fun j v hj => ?_⟩
        have := r3 j v hj
        rw [List.getElem?_append_right (by rw [hcl, Nat.add_mul]; omega), hcl, ← this]
        congr 1; rw [Nat.add_mul]; omega

section
variable {E : Env} {S S' : Nat → Nat → Prop} {φ : Nat → Nat → Option (Nat × Nat)} {st : St} {a : Act} {w : World}

theorem heap_new (w : World) (o : Obj) : (w.alloc o).heap[w.heap.size]? = some o := heap_alloc_new w o

/-- Who holds a block, behind a change. -/
theorem held_set {id : Nat} {o' : PObj} {φ' : Nat → Nat → Option (Nat × Nat)} (h : Rst E S φ st a w) (hφ : ∀ i v, S i v → φ' i v = φ i v)
    (hblk : ∀ b, blk φ' id o' = some b → w.heap.size ≤ b ∨ ∃ o, find id st.heap = some o ∧ blk φ id o = some b) : ∀ b, b < w.heap.size → Held E φ' (upd id o' st.heap) b → Held E φ st.heap b := by
  rintro b hlt (hb | ⟨i, o, hi, hb⟩)
  · exact .inl hb
  · right
    by_cases e : i = id
    · subst e
      rw [find_upd_same] at hi; cases hi
      rcases hblk b hb with h1 | ⟨o, h1, h2⟩
      · omega
      · exact ⟨i, o, h1, h2⟩
    · rw [find_upd_other e] at hi
      exact ⟨i, o, hi, by rw [← blk_congr (hφ _ _ (h.objs i o hi).1)]; exact hb⟩

/-- A new variable. -/
theorem Rst.box (h : Rst E S φ st a w) {id : Nat} (hid : ∀ v, ¬ S id v) (ty : TypeId) {cells : List PVal} {cs : List Value} (hu : undL S cells) (hr : PRepL w (Held E φ st.heap) φ cells cs) :
    Rst E (also S id 0) (phi φ id 0 (some (w.heap.size, 0))) { st with heap := upd id (.box cells) st.heap } a (w.alloc (.cells cs.toArray ty)) := by
  have hφ := phi_old (φ := φ) (x := some (w.heap.size, 0)) (hid 0)
  have hblk : ∀ b, blk (phi φ id 0 (some (w.heap.size, 0))) id (.box cells) = some b → b = w.heap.size := by
    intro b hb; simp only [blk, phi_same, Option.map_some, Option.some.injEq] at hb; exact hb.symm
  refine h.set rfl rfl rfl (by simp) (fun b hb _ => heap_alloc_old w _ b hb) (fun i v h => .inl h) hφ (.inr ⟨rfl, rfl⟩) ?_ ?_ ?_ ?_ ?_
  · rintro v (hv | ⟨_, rfl⟩)
    · exact absurd hv (hid v)
    · exact Nat.le_refl _
  · rintro i v hne (hv | ⟨rfl, _⟩)
    · exact hv
    · exact absurd rfl hne
  · simp only [PObj.und]; exact undL_mono (fun _ _ h => .inl h) _ hu
  · intro b hb
    have := hblk b hb; subst this
    exact ⟨by simp, .inl (Nat.le_refl _)⟩
  · simp only [ORep]
    refine ⟨_, _, cs, ty, phi_same .., heap_new w _, ?_⟩
    exact PRepL.keep (n := S) (keeps_below (below_new w _)) (held_set h hφ (fun b hb => .inl (Nat.le_of_eq (hblk b hb).symm))) hφ cells cs hu hr

/-- A row of a new name. -/
theorem Rst.row (h : Rst E S φ st a w) {w' : World} {id ver b n e s : Nat} {room : Option Nat} {els : List D} {cs : List Value}
    (hos : w'.os = w.os) (htape : w'.tape = w.tape) (hout : w'.output = w.output) (hsize : w.heap.size ≤ w'.heap.size)
    (hblock : ∀ b, b < w.heap.size → (∀ o, find id st.heap = some o → blk φ id o ≠ some b) → w'.heap[b]? = w.heap[b]?)
    (hver : ∀ v, S id v → v < ver) (hbs : b < w'.heap.size) (hbw : w.heap.size ≤ b ∨ ∃ o, find id st.heap = some o ∧ blk φ id o = some b)
    (hobj : w'.heap[b]? = some (.cells cs.toArray e (0, 0))) (hl : els.length ≤ n) (hm : n ≤ maxLen) (hro : ∀ m, room = some m → m = n) (hcs : cs.length = n * s)
    (hr : ∀ i x, els[i]? = some x → ∃ c, DRep w (Held E φ st.heap) x c ∧ c.cells.size = s ∧ ∀ j v, c.cells.toList[j]? = some v → cs[i * s + j]? = some v) :
    Rst E (also S id ver) (phi φ id ver (some (b, n))) { st with heap := upd id (.arr e s ver room els) st.heap } a w' := by
  have hnew : ¬ S id ver := fun hc => Nat.lt_irrefl _ (hver _ hc)
  have hφ := phi_old (φ := φ) (x := some (b, n)) hnew
  have hblk : ∀ c, blk (phi φ id ver (some (b, n))) id (.arr e s ver room els) = some c → c = b := by
    intro c hb; simp only [blk, phi_same, Option.map_some, Option.some.injEq] at hb; exact hb.symm
  have hk : Keeps (Held E φ st.heap) w w' := ⟨hsize, fun c hlt hc => hblock c hlt fun o hf he => hc (.inr ⟨id, o, hf, he⟩)⟩
  have hO := held_set (o' := .arr e s ver room els) h hφ (fun c hc => by rw [hblk c hc]; exact hbw)
  refine h.set hos htape hout hsize hblock (fun i v h => .inl h) hφ (.inr ⟨rfl, rfl⟩) ?_ ?_ (by simp only [PObj.und]) ?_ ?_
  · rintro v (hv | ⟨_, rfl⟩)
    · exact Nat.le_of_lt (hver v hv)
    · exact Nat.le_refl _
  · rintro i v hne (hv | ⟨rfl, _⟩)
    · exact hv
    · exact absurd rfl hne
  · intro c hc
    have := hblk c hc; subst this
    exact ⟨hbs, hbw⟩
  · simp only [ORep]
    refine .inr ⟨b, n, cs, phi_same .., hl, hm, hro, hobj, hcs, DRepE.of fun i x hx => ?_⟩
    obtain ⟨c, h1, h2, h3⟩ := hr i x hx
    refine ⟨c, DRep.keep hk hO x c h1, h2, fun j hj => ?_⟩
    rw [cell_of_row _ _ _ _ _ _ hobj]
    have := h3 j _ (List.getElem?_eq_getElem hj)
    rw [Nat.zero_add]
    simpa using this

/-- A nil row. -/
theorem Rst.nilRow (h : Rst E S φ st a w) {id ver : Nat} (hver : ∀ v, S id v → v < ver) (e s : Nat) :
    Rst E (also S id ver) (phi φ id ver none) { st with heap := upd id (.arr e s ver none []) st.heap } a w := by
  have hnew : ¬ S id ver := fun hc => Nat.lt_irrefl _ (hver _ hc)
  have hφ := phi_old (φ := φ) (x := none) hnew
  refine h.set rfl rfl rfl (Nat.le_refl _) (fun _ _ _ => rfl) (fun i v h => .inl h) hφ (.inr ⟨rfl, rfl⟩) ?_ ?_ (by simp only [PObj.und]) ?_ ?_
  · rintro v (hv | ⟨_, rfl⟩)
    · exact Nat.le_of_lt (hver v hv)
    · exact Nat.le_refl _
  · rintro i v hne (hv | ⟨rfl, _⟩)
    · exact hv
    · exact absurd rfl hne
  · intro b hb; simp [blk, phi_same] at hb
  · simp only [ORep, phi_same]; simp

end
end Go.Proofs.Ytdodgbhodkcckaa.Pv
