/- Cycles: what flows to each, plain laws; rows of rows. -/
import Derived.Test.YtdodgbhodkcckaaPca
set_option linter.unusedVariables false
set_option linter.unusedSimpArgs false
set_option autoImplicit false
set_option maxRecDepth 100000
namespace Go.Proofs.Ytdodgbhodkcckaa.Pv
open Go Go.RowKit

/-- A line that can be, among n. -/
structure LineOK (n : Int) (x : Line) : Prop where
  s : 0 ≤ x.seller ∧ x.seller < n
  b : 0 ≤ x.buyer ∧ x.buyer < n
  sb : x.seller ≠ x.buyer
  m : 1 ≤ x.number ∧ x.number ≤ 1048576
  a : 1 ≤ x.amount ∧ x.amount ≤ 1125899906842624
theorem badL_ok {n : Int} {x : Line} : badL n x = false ↔ LineOK n x := by
  unfold badL
  simp only [Bool.or_eq_false_iff, decide_eq_false_iff_not, beq_eq_false_iff_ne]
  constructor
  · rintro ⟨⟨⟨⟨⟨⟨⟨⟨h1, h2⟩, h3⟩, h4⟩, h5⟩, h6⟩, h7⟩, h8⟩, h9⟩
    constructor <;> omega
  · rintro ⟨h1, h2, h3, h4, h5⟩
    refine ⟨⟨⟨⟨⟨⟨⟨⟨?_, ?_⟩, ?_⟩, ?_⟩, ?_⟩, ?_⟩, ?_⟩, ?_⟩, ?_⟩ <;> omega
theorem fit_ok {n : Int} : ∀ {l : List Line} {p : Option Line}, fitV n p l = 0 → ∀ x ∈ l, LineOK n x
  | [], _, _, x, h => by cases h
  | y :: l, p, h, x, hx => by
    rw [fitV] at h
    split at h
    · cases h
    · rename_i hb
      split at h
      · cases h
      · rcases List.mem_cons.1 hx with rfl | hx
        · exact badL_ok.1 (by simpa using hb)
        · exact fit_ok h x hx
/-- What one line gives to j. -/
def flow1 (j : Int) (x : Line) : List Int := if x.seller = j then [x.amount] else if x.buyer = j then [-x.amount] else []
def flows (j : Int) : List Line → List Int
  | [] => []
  | x :: l => flow1 j x ++ flows j l
theorem flows_append (j : Int) : ∀ l m : List Line, flows j (l ++ m) = flows j l ++ flows j m
  | [], m => rfl
  | x :: l, m => by simp only [List.cons_append, flows, flows_append j l m, List.append_assoc]
theorem flows_take {j : Int} {l : List Line} {i : Nat} {x : Line} (h : l[i]? = some x) : flows j (l.take (i + 1)) = flows j (l.take i) ++ flow1 j x := by
  rw [List.take_add_one, h, flows_append]; simp [flows]
theorem flow1_len (j : Int) (x : Line) : (flow1 j x).length ≤ 1 := by unfold flow1; split <;> (try split) <;> simp
theorem flows_len (j : Int) : ∀ l : List Line, (flows j l).length ≤ l.length
  | [] => Nat.le_refl _
  | x :: l => by have h1 := flow1_len j x; have h2 := flows_len j l; simp only [flows, List.length_append, List.length_cons]; omega
theorem flows_in {n j : Int} : ∀ {l : List Line}, (∀ x ∈ l, LineOK n x) → ∀ a ∈ flows j l, -1125899906842624 ≤ a ∧ a ≤ 1125899906842624
  | [], _, a, h => by simp [flows] at h
  | x :: l, hl, a, h => by
    rw [flows, List.mem_append] at h
    rcases h with h | h
    · have := (hl x (by simp)).a
      unfold flow1 at h
      split at h
      · obtain rfl : a = x.amount := by simpa using h
        omega
      · split at h
        · obtain rfl : a = -x.amount := by simpa using h
          omega
        · cases h
    · exact flows_in (fun y hy => hl y (by simp [hy])) a h
theorem sumOf_in {l : List Int} (h : ∀ a ∈ l, -1125899906842624 ≤ a ∧ a ≤ 1125899906842624) : -(1125899906842624 * (l.length : Int)) ≤ sumOf l ∧ sumOf l ≤ 1125899906842624 * (l.length : Int) := by
  induction l with
  | nil => simp [sumOf]
  | cons a l ih =>
    have h1 := h a (by simp)
    have h2 := ih fun b hb => h b (by simp [hb])
    rw [sumOf_cons, List.length_cons]
    omega
/-- What j has in the end. -/
def netL (j : Int) (l : List Line) : Int := sumOf (flows j l)
theorem netL_in {n j : Int} {l : List Line} (h : ∀ x ∈ l, LineOK n x) (hl : l.length ≤ 1000) : -1125899906842624000 ≤ netL j l ∧ netL j l ≤ 1125899906842624000 := by
  have h1 := sumOf_in (flows_in (j := j) h)
  have h2 := flows_len j l
  unfold netL
  omega
def outs (n : Nat) (l : List Line) : List Int := (List.range n).map fun j : Nat => netL j l
theorem outs_len (n : Nat) (l : List Line) : (outs n l).length = n := by simp [outs]
theorem outs_succ (n : Nat) (l : List Line) : outs (n + 1) l = outs n l ++ [netL n l] := by simp [outs, List.range_succ]
/-- What all have, or an error. -/
def netsE (n : Int) (l : List Line) : Int := if (decide (n < 0) || decide (8 < n)) = true then 1 else fitV n none l
def netsV (n : Int) (l : List Line) : List Int := if netsE n l = 0 then outs n.toNat l else []
def netsD (n : Int) (l : List Line) : D := .tup [.slc 1 ((netsV n l).map I64), I64 (netsE n l)]

/-- Rows of rows: row j has the number 20 + j. -/
def cellR (v : Nat → Nat) (xs : Nat → List Int) (j : Nat) : PVal := .own (20 + j) (v j) 1 0 (xs j).length
def cellsR (v : Nat → Nat) (xs : Nat → List Int) (n : Nat) : List PVal := (List.range n).map (cellR v xs)
def rowO (v : Nat → Nat) (xs : Nat → List Int) (j : Nat) : Nat × PObj := (20 + j, .arr 2 1 (v j) none ((xs j).map I64))
def rowsF (v : Nat → Nat) (xs : Nat → List Int) : List Nat → List (Nat × PObj) := fun js => js.map (rowO v xs)
def rowsH (v : Nat → Nat) (xs : Nat → List Int) (n : Nat) : List (Nat × PObj) := rowsF v xs (List.range n)
def atF {α : Type} (f : Nat → α) (i : Nat) (x : α) : Nat → α := fun j => if j = i then x else f j
theorem cellsR_len (v : Nat → Nat) (xs : Nat → List Int) (n : Nat) : (cellsR v xs n).length = n := by simp [cellsR]
theorem cellsR_get {v : Nat → Nat} {xs : Nat → List Int} {n s : Nat} (h : s < n) : (cellsR v xs n)[s]? = some (cellR v xs s) := by simp [cellsR, h]
theorem cellsR_drop {v : Nat → Nat} {xs : Nat → List Int} {n s : Nat} (h : s < n) : (cellsR v xs n).drop s = .own (20 + s) (v s) 1 0 (xs s).length :: (cellsR v xs n).drop (s + 1) := by
  have h2 := cellsR_len v xs n
  rw [List.drop_eq_getElem_cons (by omega)]
  simp [cellsR, cellR]
theorem cellsR_put {v : Nat → Nat} {xs : Nat → List Int} {n s : Nat} (h : s < n) (w : Nat) (ys : List Int) : (cellsR v xs n).take s ++ .own (20 + s) w 1 0 ys.length :: (cellsR v xs n).drop (s + 1) = cellsR (atF v s w) (atF xs s ys) n := by
  have hl := cellsR_len v xs n
  apply List.ext_getElem?
  intro i
  rcases Nat.lt_trichotomy i s with hi | hi | hi
  · rw [List.getElem?_append_left (by simp; omega), List.getElem?_take, if_pos hi, cellsR_get (by omega), cellsR_get (by omega)]
    simp only [cellR, atF, if_neg (show ¬ i = s by omega)]
  · subst hi
    rw [List.getElem?_append_right (by rw [List.length_take]; omega), cellsR_get h]
    simp only [List.length_take, hl, cellR, atF, if_true]
    rw [Nat.min_eq_left (by omega), Nat.sub_self]; rfl
  · rw [List.getElem?_append_right (by simp; omega)]
    simp only [List.length_take, hl, Nat.min_eq_left (Nat.le_of_lt h)]
    rw [show i - s = (i - s - 1) + 1 by omega, List.getElem?_cons_succ, List.getElem?_drop, show s + 1 + (i - s - 1) = i by omega]
    rcases Nat.lt_or_ge i n with hn | hn
    · rw [cellsR_get hn, cellsR_get hn]
      simp only [cellR, atF, if_neg (show ¬ i = s by omega)]
    · rw [List.getElem?_eq_none (by omega), List.getElem?_eq_none (by rw [cellsR_len]; omega)]
theorem find_rowsF {v : Nat → Nat} {xs : Nat → List Int} {s : Nat} (l : List (Nat × PObj)) : ∀ {js : List Nat}, s ∈ js → find (20 + s) (rowsF v xs js ++ l) = some (.arr 2 1 (v s) none ((xs s).map I64))
  | j :: js, h => by
    simp only [rowsF, List.map_cons, List.cons_append, rowO, find]
    by_cases e : s = j
    · subst e; simp
    · rw [if_neg (by omega)]
      exact find_rowsF l ((List.mem_cons.1 h).resolve_left e)
theorem find_rowsR {v : Nat → Nat} {xs : Nat → List Int} {k : Nat} (l : List (Nat × PObj)) : ∀ {js : List Nat}, (∀ j ∈ js, k ≠ 20 + j) → find k (rowsF v xs js ++ l) = find k l
  | [], _ => rfl
  | j :: js, h => by
    simp only [rowsF, List.map_cons, List.cons_append, rowO, find]
    rw [if_neg (h j (by simp))]
    exact find_rowsR l fun i hi => h i (by simp [hi])
theorem upd_rowsR {v : Nat → Nat} {xs : Nat → List Int} {k : Nat} {o : PObj} (l : List (Nat × PObj)) : ∀ {js : List Nat}, (∀ j ∈ js, k ≠ 20 + j) → upd k o (rowsF v xs js ++ l) = rowsF v xs js ++ upd k o l
  | [], _ => rfl
  | j :: js, h => by
    simp only [rowsF, List.map_cons, List.cons_append, rowO, upd]
    rw [if_neg (h j (by simp))]
    exact congrArg _ (upd_rowsR l fun i hi => h i (by simp [hi]))
theorem del_rowsR {v : Nat → Nat} {xs : Nat → List Int} {k : Nat} (l : List (Nat × PObj)) : ∀ {js : List Nat}, (∀ j ∈ js, k ≠ 20 + j) → del k (rowsF v xs js ++ l) = rowsF v xs js ++ del k l
  | [], _ => rfl
  | j :: js, h => by
    simp only [rowsF, List.map_cons, List.cons_append, rowO, del]
    rw [if_neg (h j (by simp))]
    exact congrArg _ (del_rowsR l fun i hi => h i (by simp [hi]))
theorem rowsF_same {v v' : Nat → Nat} {xs xs' : Nat → List Int} : ∀ {js : List Nat}, (∀ j ∈ js, v' j = v j ∧ xs' j = xs j) → rowsF v' xs' js = rowsF v xs js
  | [], _ => rfl
  | j :: js, h => by
    simp only [rowsF, List.map_cons, rowO, (h j (by simp)).1, (h j (by simp)).2]
    exact congrArg _ (rowsF_same fun i hi => h i (by simp [hi]))
theorem upd_rowsF {v : Nat → Nat} {xs : Nat → List Int} {s w : Nat} {ys : List Int} (l : List (Nat × PObj)) : ∀ {js : List Nat}, js.Nodup → s ∈ js → upd (20 + s) (.arr 2 1 w none (ys.map I64)) (rowsF v xs js ++ l) = rowsF (atF v s w) (atF xs s ys) js ++ l
  | j :: js, hn, h => by
    obtain ⟨h1, h2⟩ := List.nodup_cons.1 hn
    simp only [rowsF, List.map_cons, List.cons_append, rowO, upd]
    by_cases e : s = j
    · subst e
      rw [if_pos rfl]
      have hs := rowsF_same (v := v) (xs := xs) (v' := atF v s w) (xs' := atF xs s ys) (js := js) fun i hi => by
        have : i ≠ s := fun e => h1 (e ▸ hi)
        simp [atF, this]
      unfold rowsF at hs
      rw [hs]; simp [atF]
    · rw [if_neg (by omega)]
      have ih := upd_rowsF (v := v) (xs := xs) (w := w) (ys := ys) l h2 ((List.mem_cons.1 h).resolve_left e)
      simp only [rowsF] at ih
      have hj : j ≠ s := fun h => e h.symm
      rw [ih]; simp [atF, hj]
theorem find_rowsH {v : Nat → Nat} {xs : Nat → List Int} {n s : Nat} (h : s < n) (l : List (Nat × PObj)) : find (20 + s) (rowsH v xs n ++ l) = some (.arr 2 1 (v s) none ((xs s).map I64)) := find_rowsF l (List.mem_range.2 h)
theorem find_rowsN {v : Nat → Nat} {xs : Nat → List Int} {n k : Nat} (hn : n ≤ 8) (h : 28 ≤ k) (l : List (Nat × PObj)) : find k (rowsH v xs n ++ l) = find k l := find_rowsR l fun j hj => by have := List.mem_range.1 hj; omega
theorem upd_rowsN {v : Nat → Nat} {xs : Nat → List Int} {n k : Nat} {o : PObj} (hn : n ≤ 8) (h : 28 ≤ k) (l : List (Nat × PObj)) : upd k o (rowsH v xs n ++ l) = rowsH v xs n ++ upd k o l := upd_rowsR l fun j hj => by have := List.mem_range.1 hj; omega
theorem del_rowsN {v : Nat → Nat} {xs : Nat → List Int} {n k : Nat} (hn : n ≤ 8) (h : 28 ≤ k) (l : List (Nat × PObj)) : del k (rowsH v xs n ++ l) = rowsH v xs n ++ del k l := del_rowsR l fun j hj => by have := List.mem_range.1 hj; omega
theorem upd_rowsH {v : Nat → Nat} {xs : Nat → List Int} {n s w : Nat} {ys : List Int} (h : s < n) (l : List (Nat × PObj)) : upd (20 + s) (.arr 2 1 w none (ys.map I64)) (rowsH v xs n ++ l) = rowsH (atF v s w) (atF xs s ys) n ++ l := upd_rowsF l List.nodup_range (List.mem_range.2 h)
theorem viewH_append {V : Turn} {s : St} {kept : List Nat} {N : Nat} {m : List (Nat × PObj)} : ∀ {l : List (Nat × PObj)}, viewH V s kept N l → viewH V s kept N m → viewH V s kept N (l ++ m)
  | [], _, h => h
  | (k, o) :: l, h, h' => by
    simp only [List.cons_append, viewH] at h ⊢
    exact ⟨h.1, viewH_append h.2 h'⟩
theorem viewH_rows {s : St} {kept : List Nat} {N : Nat} {v : Nat → Nat} {xs : Nat → List Int} (hN : 28 ≤ N) : ∀ {js : List Nat}, (∀ j ∈ js, j < 8 ∧ find (20 + j) s.heap = some (.arr 2 1 (v j) none ((xs j).map I64))) → viewH V0 s kept N (rowsF v xs js)
  | [], _ => trivial
  | j :: js, h => by
    obtain ⟨h1, h2⟩ := h j (by simp)
    simp only [rowsF, List.map_cons, rowO, viewH, V0, List.contains_nil, Bool.false_eq_true, if_false]
    refine ⟨⟨by omega, ?_⟩, viewH_rows hN fun i hi => h i (by simp [hi])⟩
    rw [h2]; simp [viewO]
theorem viewL_cells {h : List (Nat × PObj)} {kept : List Nat} {N : Nat} {v : Nat → Nat} {xs : Nat → List Int} (hN : 28 ≤ N) : ∀ {js : List Nat}, (∀ j ∈ js, j < 8) → viewL V0 h kept N (js.map (cellR v xs)) (js.map (cellR v xs))
  | [], _ => by simp [viewL]
  | j :: js, hj => by
    have h1 := hj j (by simp)
    simp only [List.map_cons, viewL]
    refine ⟨?_, viewL_cells hN fun i hi => hj i (by simp [hi])⟩
    simp [cellR, viewP, V0]; omega
/-- The rows, frozen. -/
def dataR (xs : Nat → List Int) (n : Nat) : List PVal := (List.range n).map fun j => .d (.slc 1 ((xs j).map I64))
theorem dataR_drop {xs : Nat → List Int} {n s : Nat} (h : s < n) : (dataR xs n).drop s = .d (.slc 1 ((xs s).map I64)) :: (dataR xs n).drop (s + 1) := by
  rw [List.drop_eq_getElem_cons (by simp [dataR]; omega)]
  simp [dataR]
theorem dataR_len (xs : Nat → List Int) (n : Nat) : (dataR xs n).length = n := by simp [dataR]
theorem dataR_view (V : Turn) (h : List (Nat × PObj)) (kept : List Nat) (N : Nat) (xs : Nat → List Int) (n : Nat) : viewL V h kept N (dataR xs n) (dataR xs n) := by
  have := viewL_ds V h kept N ((List.range n).map fun j => D.slc 1 ((xs j).map I64))
  simpa [dataR, List.map_map, Function.comp_def] using this
theorem viewL_freeze {h : List (Nat × PObj)} {kept : List Nat} {N : Nat} {v : Nat → Nat} {xs : Nat → List Int} (hk : ∀ k ∈ kept, 28 ≤ k) : ∀ {js : List Nat}, (∀ j ∈ js, j < 8 ∧ find (20 + j) h = some (.arr 2 1 (v j) none ((xs j).map I64))) → viewL V0 h kept N (js.map (cellR v xs)) (js.map fun j => .d (.slc 1 ((xs j).map I64)))
  | [], _ => by simp [viewL]
  | j :: js, hj => by
    obtain ⟨h1, h2⟩ := hj j (by simp)
    simp only [List.map_cons, viewL]
    refine ⟨?_, viewL_freeze hk fun i hi => hj i (by simp [hi])⟩
    simp only [cellR, viewP, PVal.toD, h2]
    have hd : disj [20 + j] kept = true := by
      simp only [disj, List.all_cons, List.all_nil, Bool.and_true, Bool.not_eq_true', List.contains_eq_mem]
      simp only [decide_eq_false_iff_not]
      intro hm
      have := hk _ hm; omega
    rw [if_pos ⟨trivial, trivial, by simp⟩, show List.take (xs j).length (List.drop 0 (List.map I64 (xs j))) = List.map I64 (xs j) from List.take_of_length_le (by simp)]
    exact ⟨subD_refl _, hd⟩
theorem order_of8 {ops : Array Oper} {f : Nat → List Foot} {s : Nat} (hs : s < 8) (h : ((List.range 8).all fun s => orderOK ops (f s)) = true) : orderOK ops (f s) = true := List.all_eq_true.1 h s (List.mem_range.2 hs)
/-- The rows of nil are one's own. -/
def VT (n : Nat) : Turn := ⟨fun k => k, fun _ => none, (List.range n).map (20 + ·)⟩
theorem viewH_80 {s : St} {kept : List Nat} {v : Nat → Nat} {xs : Nat → List Int} {n : Nat} (hn : n ≤ 8) (h : ∃ l, s.heap = rowsH v xs n ++ l ∧ find 65 l = some (.box (cellsR v xs n))) : viewH V0 s kept 88 (rowsH v xs n ++ [(65, .box (cellsR v xs n))]) := by
  obtain ⟨l, h1, h2⟩ := h
  refine viewH_append (viewH_rows (by decide) fun j hj => ?_) ?_
  · have := List.mem_range.1 hj
    exact ⟨by omega, by rw [h1]; exact find_rowsH this l⟩
  · simp only [viewH, V0, List.contains_nil, Bool.false_eq_true, if_false]
    refine ⟨⟨by decide, ?_⟩, trivial⟩
    rw [h1, find_rowsN hn (by decide), h2]
    simp only [viewO, true_and]
    exact viewL_cells (by decide) fun j hj => by have := List.mem_range.1 hj; omega
theorem viewH_80c {s : St} {v : Nat → Nat} {xs : Nat → List Int} {n : Nat} {o o' : PObj} (hn : n ≤ 8) (h : ∃ l, s.heap = rowsH v xs n ++ l ∧ find 65 l = some (.box (cellsR v xs n)) ∧ find 93 l = some o') (ho : ∀ kept, viewO V0 s.heap kept 264 93 o' o) :
    viewH V0 s [65, 93] 264 [(65, .box (dataR xs n)), (93, o)] := by
  obtain ⟨l, h1, h2, h3⟩ := h
  simp only [viewH, V0, List.contains_nil, Bool.false_eq_true, if_false]
  refine ⟨⟨by decide, ?_⟩, ⟨by decide, ?_⟩, trivial⟩
  · rw [h1, find_rowsN hn (by decide), h2]
    simp only [viewO, true_and]
    refine viewL_freeze (by simp) fun j hj => ?_
    have := List.mem_range.1 hj
    exact ⟨by omega, find_rowsH this l⟩
  · have := ho [65, 93]
    rw [h1, find_rowsN hn (by decide), h3, ← h1]
    exact this
/-- What is laid down of the first i. -/
def outsP (n i : Nat) (l : List Line) : List Int := outs i l ++ List.replicate (n - i) 0
theorem outsP_len {n i : Nat} (h : i ≤ n) (l : List Line) : (outsP n i l).length = n := by simp [outsP, outs_len]; omega
theorem outsP_set {n i : Nat} (h : i < n) (l : List Line) : (outsP n i l).set i (netL i l) = outsP n (i + 1) l := by
  unfold outsP
  rw [outs_succ, List.set_append_right _ _ (by rw [outs_len]; exact Nat.le_refl _), outs_len, Nat.sub_self, show n - i = (n - (i + 1)) + 1 by omega, List.replicate_succ, List.set_cons_zero]
  simp
theorem outsP_all (n : Nat) (l : List Line) : outsP n n l = outs n l := by simp [outsP]
theorem netsV_bad {n : Int} {l : List Line} (h : netsE n l ≠ 0) : netsD n l = .tup [.slc 1 [], I64 (netsE n l)] := by
  unfold netsD netsV; rw [if_neg h]; rfl
theorem netsV_ok {n : Nat} {l : List Line} (hn : n ≤ 8) (h : fitV n none l = 0) : netsD n l = .tup [.slc 1 ((outs n l).map I64), I64 0] := by
  have he : netsE n l = 0 := by
    unfold netsE; rw [if_neg (by simp only [Bool.or_eq_true, decide_eq_true_eq]; omega), h]
  unfold netsD netsV; rw [if_pos he, he]; rfl
theorem map_snoc (l : List Int) (x : Int) : (l ++ [x]).map I64 = l.map I64 ++ [I64 x] := by simp

end Go.Proofs.Ytdodgbhodkcckaa.Pv
