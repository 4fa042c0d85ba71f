/- A part of the proof: the machine of plain values and walks of functions. -/
import Derived.KernelRfl
import Derived.Test.YtdodgbhodkcckaaCp3
section
set_option linter.unusedVariables false
set_option linter.unusedSimpArgs false
set_option autoImplicit false
set_option maxRecDepth 100000
namespace Go.Proofs.Ytdodgbhodkcckaa.Pv
open Go Go.RowKit
structure LineOK (n : Int) (x : Line) : Prop where
  s : 0 ≤ x.seller ∧ x.seller < n
  b : 0 ≤ x.buyer ∧ x.buyer < n
  sb : x.seller ≠ x.buyer
  m : 1 ≤ x.number ∧ x.number ≤ 1048576
  a : 1 ≤ x.amount ∧ x.amount ≤ 1125899906842624
theorem badL_ok {n : Int} {x : Line} : badL n x = false ↔ LineOK n x := by
  unfold badL
  simp only [Bool.or_eq_false_iff, decide_eq_false_iff_not, beq_eq_false_iff_ne]
  constructor
  · rintro ⟨⟨⟨⟨⟨⟨⟨⟨h1, h2⟩, h3⟩, h4⟩, h5⟩, h6⟩, h7⟩, h8⟩, h9⟩
    constructor <;> omega
  · rintro ⟨h1, h2, h3, h4, h5⟩
    refine ⟨⟨⟨⟨⟨⟨⟨⟨?_, ?_⟩, ?_⟩, ?_⟩, ?_⟩, ?_⟩, ?_⟩, ?_⟩, ?_⟩ <;> omega
theorem fit_ok {n : Int} : ∀ {l : List Line} {p : Option Line}, fitV n p l = 0 → ∀ x ∈ l, LineOK n x
  | [], _, _, x, h => by cases h
  | y :: l, p, h, x, hx => by
    rw [fitV] at h
    split at h
    · cases h
    · rename_i hb
      split at h
      · cases h
      · rcases List.mem_cons.1 hx with rfl | hx
        · exact badL_ok.1 (by simpa using hb)
        · exact fit_ok h x hx
def flow1 (j : Int) (x : Line) : List Int := if x.seller = j then [x.amount] else if x.buyer = j then [-x.amount] else []
def flows (j : Int) : List Line → List Int
  | [] => []
  | x :: l => flow1 j x ++ flows j l
theorem flows_append (j : Int) : ∀ l m : List Line, flows j (l ++ m) = flows j l ++ flows j m
  | [], m => rfl
  | x :: l, m => by simp only [List.cons_append, flows, flows_append j l m, List.append_assoc]
theorem flows_take {j : Int} {l : List Line} {i : Nat} {x : Line} (h : l[i]? = some x) : flows j (l.take (i + 1)) = flows j (l.take i) ++ flow1 j x := by
  rw [List.take_add_one, h, flows_append]; simp [flows]
theorem flow1_len (j : Int) (x : Line) : (flow1 j x).length ≤ 1 := by unfold flow1; split <;> (try split) <;> simp
theorem flows_len (j : Int) : ∀ l : List Line, (flows j l).length ≤ l.length
  | [] => Nat.le_refl _
  | x :: l => by have h1 := flow1_len j x; have h2 := flows_len j l; simp only [flows, List.length_append, List.length_cons]; omega
theorem flows_in {n j : Int} : ∀ {l : List Line}, (∀ x ∈ l, LineOK n x) → ∀ a ∈ flows j l, -1125899906842624 ≤ a ∧ a ≤ 1125899906842624
  | [], _, a, h => by simp [flows] at h
  | x :: l, hl, a, h => by
    rw [flows, List.mem_append] at h
    rcases h with h | h
    · have := (hl x (by simp)).a
      unfold flow1 at h
      split at h
      · obtain rfl : a = x.amount := by simpa using h
        omega
      · split at h
        · obtain rfl : a = -x.amount := by simpa using h
          omega
        · cases h
    · exact flows_in (fun y hy => hl y (by simp [hy])) a h
theorem sumOf_in {l : List Int} (h : ∀ a ∈ l, -1125899906842624 ≤ a ∧ a ≤ 1125899906842624) : -(1125899906842624 * (l.length : Int)) ≤ sumOf l ∧ sumOf l ≤ 1125899906842624 * (l.length : Int) := by
  induction l with
  | nil => simp [sumOf]
  | cons a l ih =>
    have h1 := h a (by simp)
    have h2 := ih fun b hb => h b (by simp [hb])
    rw [sumOf_cons, List.length_cons]
    omega
def netL (j : Int) (l : List Line) : Int := sumOf (flows j l)
theorem netL_in {n j : Int} {l : List Line} (h : ∀ x ∈ l, LineOK n x) (hl : l.length ≤ 1000) : -1125899906842624000 ≤ netL j l ∧ netL j l ≤ 1125899906842624000 := by
  have h1 := sumOf_in (flows_in (j := j) h)
  have h2 := flows_len j l
  unfold netL
  omega
def outs (n : Nat) (l : List Line) : List Int := (List.range n).map fun j : Nat => netL j l
theorem outs_len (n : Nat) (l : List Line) : (outs n l).length = n := by simp [outs]
theorem outs_succ (n : Nat) (l : List Line) : outs (n + 1) l = outs n l ++ [netL n l] := by simp [outs, List.range_succ]
def netsE (n : Int) (l : List Line) : Int := if (decide (n < 0) || decide (8 < n)) = true then 1 else fitV n none l
def netsV (n : Int) (l : List Line) : List Int := if netsE n l = 0 then outs n.toNat l else []
def netsD (n : Int) (l : List Line) : D := .tup [.slc 1 ((netsV n l).map I64), I64 (netsE n l)]
def cellR (v : Nat → Nat) (xs : Nat → List Int) (j : Nat) : PVal := .own (20 + j) (v j) 1 0 (xs j).length
def cellsR (v : Nat → Nat) (xs : Nat → List Int) (n : Nat) : List PVal := (List.range n).map (cellR v xs)
def rowO (v : Nat → Nat) (xs : Nat → List Int) (j : Nat) : Nat × PObj := (20 + j, .arr 2 1 (v j) none ((xs j).map I64))
def rowsF (v : Nat → Nat) (xs : Nat → List Int) : List Nat → List (Nat × PObj) := fun js => js.map (rowO v xs)
def rowsH (v : Nat → Nat) (xs : Nat → List Int) (n : Nat) : List (Nat × PObj) := rowsF v xs (List.range n)
def atF {α : Type} (f : Nat → α) (i : Nat) (x : α) : Nat → α := fun j => if j = i then x else f j
theorem cellsR_len (v : Nat → Nat) (xs : Nat → List Int) (n : Nat) : (cellsR v xs n).length = n := by simp [cellsR]
theorem cellsR_get {v : Nat → Nat} {xs : Nat → List Int} {n s : Nat} (h : s < n) : (cellsR v xs n)[s]? = some (cellR v xs s) := by simp [cellsR, h]
theorem cellsR_drop {v : Nat → Nat} {xs : Nat → List Int} {n s : Nat} (h : s < n) : (cellsR v xs n).drop s = .own (20 + s) (v s) 1 0 (xs s).length :: (cellsR v xs n).drop (s + 1) := by
  have h2 := cellsR_len v xs n
  rw [List.drop_eq_getElem_cons (by omega)]
  simp [cellsR, cellR]
theorem cellsR_put {v : Nat → Nat} {xs : Nat → List Int} {n s : Nat} (h : s < n) (w : Nat) (ys : List Int) : (cellsR v xs n).take s ++ .own (20 + s) w 1 0 ys.length :: (cellsR v xs n).drop (s + 1) = cellsR (atF v s w) (atF xs s ys) n := by
  have hl := cellsR_len v xs n
  apply List.ext_getElem?
  intro i
  rcases Nat.lt_trichotomy i s with hi | hi | hi
  · rw [List.getElem?_append_left (by simp; omega), List.getElem?_take, if_pos hi, cellsR_get (by omega), cellsR_get (by omega)]
    simp only [cellR, atF, if_neg (show ¬ i = s by omega)]
  · subst hi
    rw [List.getElem?_append_right (by rw [List.length_take]; omega), cellsR_get h]
    simp only [List.length_take, hl, cellR, atF, if_true]
    rw [Nat.min_eq_left (by omega), Nat.sub_self]; rfl
  · rw [List.getElem?_append_right (by simp; omega)]
    simp only [List.length_take, hl, Nat.min_eq_left (Nat.le_of_lt h)]
    rw [show i - s = (i - s - 1) + 1 by omega, List.getElem?_cons_succ, List.getElem?_drop, show s + 1 + (i - s - 1) = i by omega]
    rcases Nat.lt_or_ge i n with hn | hn
    · rw [cellsR_get hn, cellsR_get hn]
      simp only [cellR, atF, if_neg (show ¬ i = s by omega)]
    · rw [List.getElem?_eq_none (by omega), List.getElem?_eq_none (by rw [cellsR_len]; omega)]
theorem find_rowsF {v : Nat → Nat} {xs : Nat → List Int} {s : Nat} (l : List (Nat × PObj)) : ∀ {js : List Nat}, s ∈ js → find (20 + s) (rowsF v xs js ++ l) = some (.arr 2 1 (v s) none ((xs s).map I64))
  | j :: js, h => by
    simp only [rowsF, List.map_cons, List.cons_append, rowO, find]
    by_cases e : s = j
    · subst e; simp
    · rw [if_neg (by omega)]
      exact find_rowsF l ((List.mem_cons.1 h).resolve_left e)
theorem find_rowsR {v : Nat → Nat} {xs : Nat → List Int} {k : Nat} (l : List (Nat × PObj)) : ∀ {js : List Nat}, (∀ j ∈ js, k ≠ 20 + j) → find k (rowsF v xs js ++ l) = find k l
  | [], _ => rfl
  | j :: js, h => by
    simp only [rowsF, List.map_cons, List.cons_append, rowO, find]
    rw [if_neg (h j (by simp))]
    exact find_rowsR l fun i hi => h i (by simp [hi])
theorem upd_rowsR {v : Nat → Nat} {xs : Nat → List Int} {k : Nat} {o : PObj} (l : List (Nat × PObj)) : ∀ {js : List Nat}, (∀ j ∈ js, k ≠ 20 + j) → upd k o (rowsF v xs js ++ l) = rowsF v xs js ++ upd k o l
  | [], _ => rfl
  | j :: js, h => by
    simp only [rowsF, List.map_cons, List.cons_append, rowO, upd]
    rw [if_neg (h j (by simp))]
    exact congrArg _ (upd_rowsR l fun i hi => h i (by simp [hi]))
theorem del_rowsR {v : Nat → Nat} {xs : Nat → List Int} {k : Nat} (l : List (Nat × PObj)) : ∀ {js : List Nat}, (∀ j ∈ js, k ≠ 20 + j) → del k (rowsF v xs js ++ l) = rowsF v xs js ++ del k l
  | [], _ => rfl
  | j :: js, h => by
    simp only [rowsF, List.map_cons, List.cons_append, rowO, del]
    rw [if_neg (h j (by simp))]
    exact congrArg _ (del_rowsR l fun i hi => h i (by simp [hi]))
theorem rowsF_same {v v' : Nat → Nat} {xs xs' : Nat → List Int} : ∀ {js : List Nat}, (∀ j ∈ js, v' j = v j ∧ xs' j = xs j) → rowsF v' xs' js = rowsF v xs js
  | [], _ => rfl
  | j :: js, h => by
    simp only [rowsF, List.map_cons, rowO, (h j (by simp)).1, (h j (by simp)).2]
    exact congrArg _ (rowsF_same fun i hi => h i (by simp [hi]))
theorem upd_rowsF {v : Nat → Nat} {xs : Nat → List Int} {s w : Nat} {ys : List Int} (l : List (Nat × PObj)) : ∀ {js : List Nat}, js.Nodup → s ∈ js → upd (20 + s) (.arr 2 1 w none (ys.map I64)) (rowsF v xs js ++ l) = rowsF (atF v s w) (atF xs s ys) js ++ l
  | j :: js, hn, h => by
    obtain ⟨h1, h2⟩ := List.nodup_cons.1 hn
    simp only [rowsF, List.map_cons, List.cons_append, rowO, upd]
    by_cases e : s = j
    · subst e
      rw [if_pos rfl]
      have hs := rowsF_same (v := v) (xs := xs) (v' := atF v s w) (xs' := atF xs s ys) (js := js) fun i hi => by
        have : i ≠ s := fun e => h1 (e ▸ hi)
        simp [atF, this]
      unfold rowsF at hs
      rw [hs]; simp [atF]
    · rw [if_neg (by omega)]
      have ih := upd_rowsF (v := v) (xs := xs) (w := w) (ys := ys) l h2 ((List.mem_cons.1 h).resolve_left e)
      simp only [rowsF] at ih
      have hj : j ≠ s := fun h => e h.symm
      rw [ih]; simp [atF, hj]
theorem find_rowsH {v : Nat → Nat} {xs : Nat → List Int} {n s : Nat} (h : s < n) (l : List (Nat × PObj)) : find (20 + s) (rowsH v xs n ++ l) = some (.arr 2 1 (v s) none ((xs s).map I64)) := find_rowsF l (List.mem_range.2 h)
theorem find_rowsN {v : Nat → Nat} {xs : Nat → List Int} {n k : Nat} (hn : n ≤ 8) (h : 28 ≤ k) (l : List (Nat × PObj)) : find k (rowsH v xs n ++ l) = find k l := find_rowsR l fun j hj => by have := List.mem_range.1 hj; omega
theorem upd_rowsN {v : Nat → Nat} {xs : Nat → List Int} {n k : Nat} {o : PObj} (hn : n ≤ 8) (h : 28 ≤ k) (l : List (Nat × PObj)) : upd k o (rowsH v xs n ++ l) = rowsH v xs n ++ upd k o l := upd_rowsR l fun j hj => by have := List.mem_range.1 hj; omega
theorem del_rowsN {v : Nat → Nat} {xs : Nat → List Int} {n k : Nat} (hn : n ≤ 8) (h : 28 ≤ k) (l : List (Nat × PObj)) : del k (rowsH v xs n ++ l) = rowsH v xs n ++ del k l := del_rowsR l fun j hj => by have := List.mem_range.1 hj; omega
theorem upd_rowsH {v : Nat → Nat} {xs : Nat → List Int} {n s w : Nat} {ys : List Int} (h : s < n) (l : List (Nat × PObj)) : upd (20 + s) (.arr 2 1 w none (ys.map I64)) (rowsH v xs n ++ l) = rowsH (atF v s w) (atF xs s ys) n ++ l := upd_rowsF l List.nodup_range (List.mem_range.2 h)
theorem viewH_append {V : Turn} {s : St} {kept : List Nat} {N : Nat} {m : List (Nat × PObj)} : ∀ {l : List (Nat × PObj)}, viewH V s kept N l → viewH V s kept N m → viewH V s kept N (l ++ m)
  | [], _, h => h
  | (k, o) :: l, h, h' => by
    simp only [List.cons_append, viewH] at h ⊢
    exact ⟨h.1, viewH_append h.2 h'⟩
theorem viewH_rows {s : St} {kept : List Nat} {N : Nat} {v : Nat → Nat} {xs : Nat → List Int} (hN : 28 ≤ N) : ∀ {js : List Nat}, (∀ j ∈ js, j < 8 ∧ find (20 + j) s.heap = some (.arr 2 1 (v j) none ((xs j).map I64))) → viewH V0 s kept N (rowsF v xs js)
  | [], _ => trivial
  | j :: js, h => by
    obtain ⟨h1, h2⟩ := h j (by simp)
    simp only [rowsF, List.map_cons, rowO, viewH, V0, List.contains_nil, Bool.false_eq_true, if_false]
    refine ⟨⟨by omega, ?_⟩, viewH_rows hN fun i hi => h i (by simp [hi])⟩
    rw [h2]; simp [viewO]
theorem viewL_cells {h : List (Nat × PObj)} {kept : List Nat} {N : Nat} {v : Nat → Nat} {xs : Nat → List Int} (hN : 28 ≤ N) : ∀ {js : List Nat}, (∀ j ∈ js, j < 8) → viewL V0 h kept N (js.map (cellR v xs)) (js.map (cellR v xs))
  | [], _ => by simp [viewL]
  | j :: js, hj => by
    have h1 := hj j (by simp)
    simp only [List.map_cons, viewL]
    refine ⟨?_, viewL_cells hN fun i hi => hj i (by simp [hi])⟩
    simp [cellR, viewP, V0]; omega
def dataR (xs : Nat → List Int) (n : Nat) : List PVal := (List.range n).map fun j => .d (.slc 1 ((xs j).map I64))
theorem dataR_drop {xs : Nat → List Int} {n s : Nat} (h : s < n) : (dataR xs n).drop s = .d (.slc 1 ((xs s).map I64)) :: (dataR xs n).drop (s + 1) := by
  rw [List.drop_eq_getElem_cons (by simp [dataR]; omega)]
  simp [dataR]
theorem dataR_len (xs : Nat → List Int) (n : Nat) : (dataR xs n).length = n := by simp [dataR]
theorem dataR_view (V : Turn) (h : List (Nat × PObj)) (kept : List Nat) (N : Nat) (xs : Nat → List Int) (n : Nat) : viewL V h kept N (dataR xs n) (dataR xs n) := by
  have := viewL_ds V h kept N ((List.range n).map fun j => D.slc 1 ((xs j).map I64))
  simpa [dataR, List.map_map, Function.comp_def] using this
theorem viewL_freeze {h : List (Nat × PObj)} {kept : List Nat} {N : Nat} {v : Nat → Nat} {xs : Nat → List Int} (hk : ∀ k ∈ kept, 28 ≤ k) : ∀ {js : List Nat}, (∀ j ∈ js, j < 8 ∧ find (20 + j) h = some (.arr 2 1 (v j) none ((xs j).map I64))) → viewL V0 h kept N (js.map (cellR v xs)) (js.map fun j => .d (.slc 1 ((xs j).map I64)))
  | [], _ => by simp [viewL]
  | j :: js, hj => by
    obtain ⟨h1, h2⟩ := hj j (by simp)
    simp only [List.map_cons, viewL]
    refine ⟨?_, viewL_freeze hk fun i hi => hj i (by simp [hi])⟩
    simp only [cellR, viewP, PVal.toD, h2]
    have hd : disj [20 + j] kept = true := by
      simp only [disj, List.all_cons, List.all_nil, Bool.and_true, Bool.not_eq_true', List.contains_eq_mem]
      simp only [decide_eq_false_iff_not]
      intro hm
      have := hk _ hm; omega
    rw [if_pos ⟨trivial, trivial, by simp⟩, show List.take (xs j).length (List.drop 0 (List.map I64 (xs j))) = List.map I64 (xs j) from List.take_of_length_le (by simp)]
    exact ⟨subD_refl _, hd⟩
def VT (n : Nat) : Turn := ⟨fun k => k, fun _ => none, (List.range n).map (20 + ·)⟩
theorem viewH_80 {s : St} {kept : List Nat} {v : Nat → Nat} {xs : Nat → List Int} {n : Nat} (hn : n ≤ 8) (h : ∃ l, s.heap = rowsH v xs n ++ l ∧ find 65 l = some (.box (cellsR v xs n))) : viewH V0 s kept 88 (rowsH v xs n ++ [(65, .box (cellsR v xs n))]) := by
  obtain ⟨l, h1, h2⟩ := h
  refine viewH_append (viewH_rows (by decide) fun j hj => ?_) ?_
  · have := List.mem_range.1 hj
    exact ⟨by omega, by rw [h1]; exact find_rowsH this l⟩
  · simp only [viewH, V0, List.contains_nil, Bool.false_eq_true, if_false]
    refine ⟨⟨by decide, ?_⟩, trivial⟩
    rw [h1, find_rowsN hn (by decide), h2]
    simp only [viewO, true_and]
    exact viewL_cells (by decide) fun j hj => by have := List.mem_range.1 hj; omega
theorem viewH_80c {s : St} {v : Nat → Nat} {xs : Nat → List Int} {n : Nat} {o o' : PObj} (hn : n ≤ 8) (h : ∃ l, s.heap = rowsH v xs n ++ l ∧ find 65 l = some (.box (cellsR v xs n)) ∧ find 93 l = some o') (ho : ∀ kept, viewO V0 s.heap kept 264 93 o' o) :
    viewH V0 s [65, 93] 264 [(65, .box (dataR xs n)), (93, o)] := by
  obtain ⟨l, h1, h2, h3⟩ := h
  simp only [viewH, V0, List.contains_nil, Bool.false_eq_true, if_false]
  refine ⟨⟨by decide, ?_⟩, ⟨by decide, ?_⟩, trivial⟩
  · rw [h1, find_rowsN hn (by decide), h2]
    simp only [viewO, true_and]
    refine viewL_freeze (by simp) fun j hj => ?_
    have := List.mem_range.1 hj
    exact ⟨by omega, find_rowsH this l⟩
  · have := ho [65, 93]
    rw [h1, find_rowsN hn (by decide), h3, ← h1]
    exact this
def outsP (n i : Nat) (l : List Line) : List Int := outs i l ++ List.replicate (n - i) 0
theorem outsP_len {n i : Nat} (h : i ≤ n) (l : List Line) : (outsP n i l).length = n := by simp [outsP, outs_len]; omega
theorem outsP_set {n i : Nat} (h : i < n) (l : List Line) : (outsP n i l).set i (netL i l) = outsP n (i + 1) l := by
  unfold outsP
  rw [outs_succ, List.set_append_right _ _ (by rw [outs_len]; exact Nat.le_refl _), outs_len, Nat.sub_self, show n - i = (n - (i + 1)) + 1 by omega, List.replicate_succ, List.set_cons_zero]
  simp
theorem outsP_all (n : Nat) (l : List Line) : outsP n n l = outs n l := by simp [outsP]
theorem netsV_bad {n : Int} {l : List Line} (h : netsE n l ≠ 0) : netsD n l = .tup [.slc 1 [], I64 (netsE n l)] := by
  unfold netsD netsV; rw [if_neg h]; rfl
theorem netsV_ok {n : Nat} {l : List Line} (hn : n ≤ 8) (h : fitV n none l = 0) : netsD n l = .tup [.slc 1 ((outs n l).map I64), I64 0] := by
  have he : netsE n l = 0 := by
    unfold netsE; rw [if_neg (by simp only [Bool.or_eq_true, decide_eq_true_eq]; omega), h]
  unfold netsD netsV; rw [if_pos he, he]; rfl
theorem map_snoc (l : List Int) (x : Int) : (l ++ [x]).map I64 = l.map I64 ++ [I64 x] := by simp
end Go.Proofs.Ytdodgbhodkcckaa.Pv
end
section
set_option linter.unusedVariables false
set_option linter.unusedSimpArgs false
set_option autoImplicit false
set_option maxRecDepth 100000
namespace Go.Proofs.Ytdodgbhodkcckaa.Pv
open Go Go.RowKit
def flowsT (l : List Line) (i : Nat) : Nat → List Int := fun j => flows j (l.take i)
def L80a (N : Nat) (l : List Line) (v : Nat → Nat) (i : Nat) : St := ⟨[(30, pint .i64 i), (29, pint .i64 l.length), (28, .d (.slc 4 (linesD l))), (7, .own 65 0 1 0 N), (0, pint .i64 N)], rowsH v (flowsT l i) N ++ [(65, .box (cellsR v (flowsT l i) N))], 88⟩
def L80c (N : Nat) (l : List Line) (i : Nat) : St := ⟨[(68, pint .i64 i), (67, pint .i64 N), (10, .own 93 0 1 0 N), (7, .own 65 0 1 0 N)], [(65, .box (dataR (fun j => flows j l) N)), (93, .arr 2 1 0 none ((outsP N i l).map I64))], 264⟩
set_option maxHeartbeats 16000000 in
theorem run80 (n : Int) (l : List Line) (hl : l.length ≤ 1000) : Runs Try.prog 80 [pint .i64 n, .d (.slc 4 (linesD l))] [] (.d (netsD n l)) [] := by
  have hlen := lines_len l
  have r82 := run82 n l hl
  by_cases hr : 0 ≤ n ∧ n ≤ 8
  · have c0 : (decide (n < 0) || decide (8 < n)) = false := by
      rw [Bool.or_eq_false_iff, decide_eq_false_iff_not, decide_eq_false_iff_not]; omega
    by_cases he : fitV n none l = 0
    · obtain ⟨N, rfl⟩ : ∃ N : Nat, n = (N : Int) := ⟨n.toNat, by omega⟩
      have hN : N ≤ 8 := by omega
      rw [he] at r82
      rw [netsV_ok hN he]
      have hok := fit_ok he
      refine Runs.of (kit Try.prog) Try.func80 rfl rfl (by rw [Try.ntmps80]; exact of_decide_eq_true rfl) ?_; rw [Try.ntmps80, Try.results80]
      repeat' (first|((first|refine goA rfl fun K hK=>?_|refine goB rfl fun K hK=>?_|refine goC rfl rfl fun K hK=>?_|refine goD rfl rfl fun K hK=>?_);simp (dsimp:=false) only [↓gq,↓stepP,↓stepG,go_sem,c0,hlen,bne_self_eq_false])|refine Pwp.seq ?_|refine Pwp.block ?_|(refine Pwp.exit ?_;simp only [thenS,blockS,if_true,if_false,reduceIte,Nat.reduceEqDiff,Nat.add_one_ne_zero,reduceCtorEq])|(refine Pwp.skip ?_;simp only [thenS,blockS])|(refine Pwp.cond rfl True.intro (fun h=>?_) (fun h=>?_)<;>(try (cases h;done))<;>(try simp only [h]))|refine Pwp.ret ?_|(refine hK _ ?_;clear hK K)|(refine hK _ _ rfl ?_;clear hK K)|(refine Or.inr (hK _ ?_))|(refine CallK.give (ds:=[I64 N, .slc 4 (linesD l)]) rfl (r82) (by simp) ?_)|refine CallG.off ?_|with_reducible refine Or.inl ?_|simp only [thenS,blockS]|with_reducible refine And.intro ?_ ?_|with_reducible exact True.intro|simp (dsimp:=false) only [↓gq,↓stepP,↓stepG,go_sem,c0,hlen,bne_self_eq_false])
      all_goals (try (first|(intro hg;simp [hg];done)|exact of_decide_eq_true rfl|(cases h;done)))
      all_goals (try (first | (simp; done) | (simp [maxLen]; omega) | omega))
      have h8 : N = 0 ∨ N = 1 ∨ N = 2 ∨ N = 3 ∨ N = 4 ∨ N = 5 ∨ N = 6 ∨ N = 7 ∨ N = 8 := by omega
      refine Pwp.rangeI l.length (fun i s => ∃ v, s = L80a N l v i) (s0 := L80a N l (fun _ => 0) 0) (by
        clear hok he r82 c0 hr
        rcases h8 with rfl | rfl | rfl | rfl | rfl | rfl | rfl | rfl | rfl
        · exact Sub.view (VT 0) (by simp [L80a]) rfl (by simp [L80a,VT,rowsH,rowsF,rowO,cellsR,cellR,flowsT,flows,hlen,List.replicate,List.range,List.range.loop]) (by simp [L80a,VT,rowsH,rowsF,rowO,cellsR,cellR,flowsT,flows,hlen,List.replicate,List.range,List.range.loop])
        · exact Sub.view (VT 1) (by simp [L80a]) rfl (by simp [L80a,VT,rowsH,rowsF,rowO,cellsR,cellR,flowsT,flows,hlen,List.replicate,List.range,List.range.loop]) (by simp [L80a,VT,rowsH,rowsF,rowO,cellsR,cellR,flowsT,flows,hlen,List.replicate,List.range,List.range.loop])
        · exact Sub.view (VT 2) (by simp [L80a]) rfl (by simp [L80a,VT,rowsH,rowsF,rowO,cellsR,cellR,flowsT,flows,hlen,List.replicate,List.range,List.range.loop]) (by simp [L80a,VT,rowsH,rowsF,rowO,cellsR,cellR,flowsT,flows,hlen,List.replicate,List.range,List.range.loop])
        · exact Sub.view (VT 3) (by simp [L80a]) rfl (by simp [L80a,VT,rowsH,rowsF,rowO,cellsR,cellR,flowsT,flows,hlen,List.replicate,List.range,List.range.loop]) (by simp [L80a,VT,rowsH,rowsF,rowO,cellsR,cellR,flowsT,flows,hlen,List.replicate,List.range,List.range.loop])
        · exact Sub.view (VT 4) (by simp [L80a]) rfl (by simp [L80a,VT,rowsH,rowsF,rowO,cellsR,cellR,flowsT,flows,hlen,List.replicate,List.range,List.range.loop]) (by simp [L80a,VT,rowsH,rowsF,rowO,cellsR,cellR,flowsT,flows,hlen,List.replicate,List.range,List.range.loop])
        · exact Sub.view (VT 5) (by simp [L80a]) rfl (by simp [L80a,VT,rowsH,rowsF,rowO,cellsR,cellR,flowsT,flows,hlen,List.replicate,List.range,List.range.loop]) (by simp [L80a,VT,rowsH,rowsF,rowO,cellsR,cellR,flowsT,flows,hlen,List.replicate,List.range,List.range.loop])
        · exact Sub.view (VT 6) (by simp [L80a]) rfl (by simp [L80a,VT,rowsH,rowsF,rowO,cellsR,cellR,flowsT,flows,hlen,List.replicate,List.range,List.range.loop]) (by simp [L80a,VT,rowsH,rowsF,rowO,cellsR,cellR,flowsT,flows,hlen,List.replicate,List.range,List.range.loop])
        · exact Sub.view (VT 7) (by simp [L80a]) rfl (by simp [L80a,VT,rowsH,rowsF,rowO,cellsR,cellR,flowsT,flows,hlen,List.replicate,List.range,List.range.loop]) (by simp [L80a,VT,rowsH,rowsF,rowO,cellsR,cellR,flowsT,flows,hlen,List.replicate,List.range,List.range.loop])
        · exact Sub.view (VT 8) (by simp [L80a]) rfl (by simp [L80a,VT,rowsH,rowsF,rowO,cellsR,cellR,flowsT,flows,hlen,List.replicate,List.range,List.range.loop]) (by simp [L80a,VT,rowsH,rowsF,rowO,cellsR,cellR,flowsT,flows,hlen,List.replicate,List.range,List.range.loop])) ⟨_, rfl⟩ ?_ ?_
      · rintro i st hi ⟨v, rfl⟩
        obtain ⟨x, hx, hm⟩ := at_lt hi
        have hg := lines_get hx
        have c1 := dlt hi
        have w := wrap_succ (i := i) (by omega)
        have hxo := hok x hm
        obtain ⟨xs, xn, xb, xa⟩ := x
        obtain ⟨q1, q2, q3, q4, q5⟩ := hxo
        simp only at q1 q2 q3 q4 q5 hg
        obtain ⟨s, rfl⟩ : ∃ s : Nat, xs = (s : Int) := ⟨xs.toNat, by omega⟩
        obtain ⟨b, rfl⟩ : ∃ b : Nat, xb = (b : Int) := ⟨xb.toNat, by omega⟩
        have hsb : s ≠ b := fun h => q3 (by rw [h])
        have hs : s < N := by omega
        have hb : b < N := by omega
        have hs8 : s < 8 := by omega
        have hb8 : b < 8 := by omega
        have fN := fun (v : Nat → Nat) (xs : Nat → List Int) (k : Nat) (h : 28 ≤ k) (l : List (Nat × PObj)) => find_rowsN (v := v) (xs := xs) hN h l
        have uN := fun (v : Nat → Nat) (xs : Nat → List Int) (k : Nat) (o : PObj) (h : 28 ≤ k) (l : List (Nat × PObj)) => upd_rowsN (v := v) (xs := xs) (o := o) hN h l
        have dN := fun (v : Nat → Nat) (xs : Nat → List Int) (k : Nat) (h : 28 ≤ k) (l : List (Nat × PObj)) => del_rowsN (v := v) (xs := xs) hN h l
        have fs := fun (v : Nat → Nat) (xs : Nat → List Int) (l : List (Nat × PObj)) => find_rowsH (v := v) (xs := xs) hs l
        have fb := fun (v : Nat → Nat) (xs : Nat → List Int) (l : List (Nat × PObj)) => find_rowsH (v := v) (xs := xs) hb l
        have us := fun (v : Nat → Nat) (xs : Nat → List Int) (w : Nat) (ys : List Int) (l : List (Nat × PObj)) => upd_rowsH (v := v) (xs := xs) (w := w) (ys := ys) hs l
        have ub := fun (v : Nat → Nat) (xs : Nat → List Int) (w : Nat) (ys : List Int) (l : List (Nat × PObj)) => upd_rowsH (v := v) (xs := xs) (w := w) (ys := ys) hb l
        have ds := fun (v : Nat → Nat) (xs : Nat → List Int) => cellsR_drop (v := v) (xs := xs) hs
        have db := fun (v : Nat → Nat) (xs : Nat → List Int) => cellsR_drop (v := v) (xs := xs) hb
        have cl := cellsR_len
        have ps := fun (v : Nat → Nat) (xs : Nat → List Int) (a : Int) => cellsR_put (v := v) (xs := xs) hs (v s + 1) (xs s ++ [a])
        have pb := fun (v : Nat → Nat) (xs : Nat → List Int) (a : Int) => cellsR_put (v := v) (xs := xs) hb (v b + 1) (xs b ++ [a])
        simp only [List.length_append, List.length_cons, List.length_nil, Nat.zero_add] at ps pb
        have ps2 : ∀ (v : Nat → Nat) (xs : Nat → List Int) (a : Int), List.take s (cellsR v xs N) ++ [PVal.own (20 + s) (v s + 1) 1 0 ((xs s).length + 1)] ++ List.drop (s + 1) (cellsR v xs N) = cellsR (atF v s (v s + 1)) (atF xs s (xs s ++ [a])) N := fun v xs a => by rw [List.append_assoc]; exact ps v xs a
        have pb2 : ∀ (v : Nat → Nat) (xs : Nat → List Int) (a : Int), List.take b (cellsR v xs N) ++ [PVal.own (20 + b) (v b + 1) 1 0 ((xs b).length + 1)] ++ List.drop (b + 1) (cellsR v xs N) = cellsR (atF v b (v b + 1)) (atF xs b (xs b ++ [a])) N := fun v xs a => by rw [List.append_assoc]; exact pb v xs a
        have psA := fun v xs => ps2 v xs xa
        have pbB : ∀ (v : Nat → Nat) (xs : Nat → List Int) (w : Nat) (ys : List Int), List.take b (cellsR (atF v s w) (atF xs s ys) N) ++ [PVal.own (20 + b) (v b + 1) 1 0 ((xs b).length + 1)] ++ List.drop (b + 1) (cellsR (atF v s w) (atF xs s ys) N) = cellsR (atF (atF v s w) b (v b + 1)) (atF (atF xs s ys) b (xs b ++ [-xa])) N := fun v xs w ys => by
          have := pb2 (atF v s w) (atF xs s ys) (-xa)
          simpa only [atF, if_neg (Ne.symm hsb)] using this
        have pbA := fun v xs => pb2 v xs (-xa)
        have ne1 : ∀ k, 28 ≤ k → (20 + s = k) = False := fun k hk => by simp; omega
        have ne2 : ∀ k, 28 ≤ k → (k = 20 + s) = False := fun k hk => by simp; omega
        have ne3 : ∀ k, 28 ≤ k → (20 + b = k) = False := fun k hk => by simp; omega
        have ne4 : ∀ k, 28 ≤ k → (k = 20 + b) = False := fun k hk => by simp; omega
        have nb1 : ∀ k, 28 ≤ k → (20 + s == k) = false := fun k hk => by simp; omega
        have nb2 : ∀ k, 28 ≤ k → (20 + b == k) = false := fun k hk => by simp; omega
        have htk : ∀ l : List Int, (l.map I64).take l.length = l.map I64 := fun l => List.take_of_length_le (by simp)
        have hms : ∀ (l : List Int) (a : Int), l.map I64 ++ [I64 a] = (l ++ [a]).map I64 := fun l a => (map_snoc l a).symm
        have hlm : ∀ l : List Int, (l.map I64).length = l.length := fun l => List.length_map ..
        have hng : IntKind.wrap .i64 (-xa) = -xa := wrap_of (by omega) (by omega)
        have hng0 : IntKind.wrap .i64 (0 - xa) = -xa := by rw [Int.zero_sub]; exact hng
        have at1 : ∀ (f : Nat → Nat) (x : Nat), atF f s x b = f b := fun f x => by simp [atF, Ne.symm hsb]
        have at2 : ∀ (f : Nat → List Int) (x : List Int), atF f s x b = f b := fun f x => by simp [atF, Ne.symm hsb]
        have hfs := flows_len (s : Int) (l.take i)
        have hfb := flows_len (b : Int) (l.take i)
        rw [List.length_take, Nat.min_eq_left (Nat.le_of_lt hi)] at hfs hfb
        have hlS : (flowsT l i s).length ≤ i := hfs
        have hlB : (flowsT l i b).length ≤ i := hfb
        have ts1 := Int.toNat_natCast s
        have tb1 := Int.toNat_natCast b
        have hnx : atF (atF (flowsT l i) s (flowsT l i s ++ [xa])) b (flowsT l i b ++ [-xa]) = flowsT l (i + 1) := by
          funext j
          have e := flows_take (j := (j : Int)) hx
          unfold flowsT
          rw [e]
          unfold atF flow1
          by_cases h1 : j = b
          · subst h1
            rw [if_pos rfl, if_neg (by simp only; omega), if_pos rfl]
          · rw [if_neg h1]
            by_cases h2 : j = s
            · subst h2
              rw [if_pos rfl, if_pos rfl]
            · rw [if_neg h2, if_neg (by simp only; omega), if_neg (by simp only; omega), List.append_nil]
        unfold L80a
        repeat' (first|((first|refine goA rfl fun K hK=>?_|refine goB rfl fun K hK=>?_|refine goC rfl rfl fun K hK=>?_|refine goD rfl rfl fun K hK=>?_);simp (dsimp:=false) only [↓gq,↓stepP,↓stepG,go_sem,hg,c1,w,hlen,fN,uN,dN,fs,fb,us,ub,ds,db,cl,psA,pbA,pbB,ne1,ne2,ne3,ne4,nb1,nb2,htk,hms,hlm,hng,hng0,at1,at2,Nat.mul_one,hs,hb])|refine Pwp.seq ?_|refine Pwp.block ?_|(refine Pwp.exit ?_;simp only [thenS,blockS,if_true,if_false,reduceIte,Nat.reduceEqDiff,Nat.add_one_ne_zero,reduceCtorEq])|(refine Pwp.skip ?_;simp only [thenS,blockS])|(refine Pwp.cond rfl True.intro (fun h=>?_) (fun h=>?_)<;>(try (cases h;done))<;>(try simp only [h]))|refine Pwp.ret ?_|(refine hK _ ?_;clear hK K)|(refine hK _ _ rfl ?_;clear hK K)|(refine hK _ _ ?_ ?_)|refine CallG.off ?_|with_reducible refine Or.inl ?_|simp only [thenS,blockS]|with_reducible refine And.intro ?_ ?_|with_reducible exact True.intro|simp (dsimp:=false) only [↓gq,↓stepP,↓stepG,go_sem,hg,c1,w,hlen,fN,uN,dN,fs,fb,us,ub,ds,db,cl,psA,pbA,pbB,ne1,ne2,ne3,ne4,nb1,nb2,htk,hms,hlm,hng,hng0,at1,at2,Nat.mul_one,hs,hb])
        all_goals (try (first|(intro hg;simp [hg];done)|exact of_decide_eq_true rfl|(cases h;done)))
        all_goals (try (first | (simp; done) | (simp [maxLen]; omega) | omega))
        · obtain h | h | h | h | h | h | h | h : s = 0 ∨ s = 1 ∨ s = 2 ∨ s = 3 ∨ s = 4 ∨ s = 5 ∨ s = 6 ∨ s = 7 := by omega
          · clear hnx psA pbA ps pb ps2 pb2 pbB
            rw [h]
            exact of_decide_eq_true (Eq.refl true)
          · clear hnx psA pbA ps pb ps2 pb2 pbB
            rw [h]
            exact of_decide_eq_true (Eq.refl true)
          · clear hnx psA pbA ps pb ps2 pb2 pbB
            rw [h]
            exact of_decide_eq_true (Eq.refl true)
          · clear hnx psA pbA ps pb ps2 pb2 pbB
            rw [h]
            exact of_decide_eq_true (Eq.refl true)
          · clear hnx psA pbA ps pb ps2 pb2 pbB
            rw [h]
            exact of_decide_eq_true (Eq.refl true)
          · clear hnx psA pbA ps pb ps2 pb2 pbB
            rw [h]
            exact of_decide_eq_true (Eq.refl true)
          · clear hnx psA pbA ps pb ps2 pb2 pbB
            rw [h]
            exact of_decide_eq_true (Eq.refl true)
          · clear hnx psA pbA ps pb ps2 pb2 pbB
            rw [h]
            exact of_decide_eq_true (Eq.refl true)
        · obtain h | h | h | h | h | h | h | h : b = 0 ∨ b = 1 ∨ b = 2 ∨ b = 3 ∨ b = 4 ∨ b = 5 ∨ b = 6 ∨ b = 7 := by omega
          · clear hnx psA pbA ps pb ps2 pb2 pbB
            rw [h]
            exact of_decide_eq_true (Eq.refl true)
          · clear hnx psA pbA ps pb ps2 pb2 pbB
            rw [h]
            exact of_decide_eq_true (Eq.refl true)
          · clear hnx psA pbA ps pb ps2 pb2 pbB
            rw [h]
            exact of_decide_eq_true (Eq.refl true)
          · clear hnx psA pbA ps pb ps2 pb2 pbB
            rw [h]
            exact of_decide_eq_true (Eq.refl true)
          · clear hnx psA pbA ps pb ps2 pb2 pbB
            rw [h]
            exact of_decide_eq_true (Eq.refl true)
          · clear hnx psA pbA ps pb ps2 pb2 pbB
            rw [h]
            exact of_decide_eq_true (Eq.refl true)
          · clear hnx psA pbA ps pb ps2 pb2 pbB
            rw [h]
            exact of_decide_eq_true (Eq.refl true)
          · clear hnx psA pbA ps pb ps2 pb2 pbB
            rw [h]
            exact of_decide_eq_true (Eq.refl true)
        rw [hnx]
        generalize atF (atF v s _) b _ = v2
        exact ⟨L80a N l v2 (i + 1), Sub.same (by simp [L80a]) (viewH_80 hN ⟨_, rfl, by simp [find]⟩) (by simp [viewT, St.ev, viewP, L80a, V0, find, PVal.toD, subD, subV, subD_refl, disj, PVal.ids]), v2, rfl⟩
      · rintro st ⟨v, rfl⟩
        have c1 := dge (Nat.le_refl l.length)
        have hft : flowsT l l.length = fun j : Nat => flows j l := by funext j; simp [flowsT]
        have uN := fun (v : Nat → Nat) (xs : Nat → List Int) (k : Nat) (o : PObj) (h : 28 ≤ k) (l : List (Nat × PObj)) => upd_rowsN (v := v) (xs := xs) (o := o) hN h l
        unfold L80a
        rw [hft]
        repeat' (first|((first|refine goA rfl fun K hK=>?_|refine goB rfl fun K hK=>?_|refine goC rfl rfl fun K hK=>?_|refine goD rfl rfl fun K hK=>?_);simp (dsimp:=false) only [↓gq,↓stepP,↓stepG,go_sem,c1,hlen,uN])|refine Pwp.seq ?_|refine Pwp.block ?_|(refine Pwp.exit ?_;simp only [thenS,blockS,if_true,if_false,reduceIte,Nat.reduceEqDiff,Nat.add_one_ne_zero,reduceCtorEq])|(refine Pwp.skip ?_;simp only [thenS,blockS])|(refine Pwp.cond rfl True.intro (fun h=>?_) (fun h=>?_)<;>(try (cases h;done))<;>(try simp only [h]))|refine Pwp.ret ?_|(refine hK _ ?_;clear hK K)|(refine hK _ _ rfl ?_;clear hK K)|refine CallG.off ?_|with_reducible refine Or.inl ?_|simp only [thenS,blockS]|with_reducible refine And.intro ?_ ?_|with_reducible exact True.intro|simp (dsimp:=false) only [↓gq,↓stepP,↓stepG,go_sem,c1,hlen,uN])
        all_goals (try (first|(intro hg;simp [hg];done)|exact of_decide_eq_true rfl|(cases h;done)))
        all_goals (try (first | (simp; done) | (simp [maxLen]; omega) | omega))
        refine Pwp.range N (S := L80c N l) (Sub.same (by simp [L80c]) (viewH_80c hN ⟨_, rfl, by simp [find], by simp [find]; rfl⟩ (fun kept => by simp [viewO, V0, outsP, outs])) (by simp [viewT, St.ev, viewP, L80c, V0, find, PVal.toD, subD, subV, subD_refl, disj, PVal.ids])) (fun i hi => ?_) ?_
        · have c2 := dlt hi
          have w := wrap_succ (i := i) (by omega)
          have hfl := flows_len (i : Int) l
          have hin := flows_in (j := (i : Int)) hok
          have hni := netL_in (j := (i : Int)) hok hl
          have r105 := run105 (flows i l) (by omega) (fun a ha => by have := hin a ha; simp [In64]; omega)
          rw [if_pos (In64.fits (by unfold netL at hni; simp [In64]; omega))] at r105
          change Runs Try.prog 105 _ _ (.d (.tup [I64 (netL i l), I64 0])) _ at r105
          have dd := dataR_drop (xs := fun j => flows j l) hi
          have dl := dataR_len (fun j => flows j l) N
          have ol := outsP_len (Nat.le_of_lt hi) l
          have olm : ((outsP N i l).map I64).length = N := by rw [List.length_map]; exact ol
          have hset : ((outsP N i l).map I64).set i (I64 (netL i l)) = (outsP N (i + 1) l).map I64 := by rw [← List.map_set, outsP_set hi]
          have hgt : ((outsP N i l).map I64)[i]? = some (.v (.int .i64 0)) := by
            unfold outsP
            rw [List.getElem?_map, List.getElem?_append_right (by rw [outs_len]; exact Nat.le_refl _), outs_len, Nat.sub_self, List.getElem?_replicate, if_pos (by omega)]
            rfl
          change ((outsP N i l).map I64).set i (.v (.int .i64 (netL i l))) = _ at hset
          unfold L80c
          repeat' (first|((first|refine goA rfl fun K hK=>?_|refine goB rfl fun K hK=>?_|refine goC rfl rfl fun K hK=>?_|refine goD rfl rfl fun K hK=>?_);simp (dsimp:=false) only [↓gq,↓stepP,↓stepG,go_sem,c2,w,dd,dl,olm,hset,hgt,Nat.mul_one,bne_self_eq_false])|refine Pwp.seq ?_|refine Pwp.block ?_|(refine Pwp.exit ?_;simp only [thenS,blockS,if_true,if_false,reduceIte,Nat.reduceEqDiff,Nat.add_one_ne_zero,reduceCtorEq])|(refine Pwp.skip ?_;simp only [thenS,blockS])|(refine Pwp.cond rfl True.intro (fun h=>?_) (fun h=>?_)<;>(try (cases h;done))<;>(try simp only [h]))|refine Pwp.ret ?_|(refine hK _ ?_;clear hK K)|(refine hK _ _ rfl ?_;clear hK K)|(refine CallK.give (ds:=[.slc 1 ((flows i l).map I64)]) rfl (r105) (by simp) ?_)|refine CallG.off ?_|with_reducible refine Or.inl ?_|simp only [thenS,blockS]|with_reducible refine And.intro ?_ ?_|with_reducible exact True.intro|simp (dsimp:=false) only [↓gq,↓stepP,↓stepG,go_sem,c2,w,dd,dl,olm,hset,hgt,Nat.mul_one,bne_self_eq_false])
          all_goals (try (first|(intro hg;simp [hg];done)|exact of_decide_eq_true rfl|(cases h;done)))
          all_goals (try (first | (simp; done) | (simp [maxLen]; omega) | omega))
          exact Sub.view V0 (by simp [L80c]) rfl (by simp [L80c,dataR_view,hset]) (by simp [L80c,dataR_view,hset])
        · have c2 := dge (Nat.le_refl N)
          have ol := outsP_len (Nat.le_refl N) l
          have htk : ((outsP N N l).map I64).take N = (outsP N N l).map I64 := List.take_of_length_le (by simp [ol])
          have hlm : ((outsP N N l).map I64).length = N := by rw [List.length_map]; exact ol
          unfold L80c
          repeat' (first|((first|refine goA rfl fun K hK=>?_|refine goB rfl fun K hK=>?_|refine goC rfl rfl fun K hK=>?_|refine goD rfl rfl fun K hK=>?_);simp (dsimp:=false) only [↓gq,↓stepP,↓stepG,go_sem,c2])|refine Pwp.seq ?_|refine Pwp.block ?_|(refine Pwp.exit ?_;simp only [thenS,blockS,if_true,if_false,reduceIte,Nat.reduceEqDiff,Nat.add_one_ne_zero,reduceCtorEq])|(refine Pwp.skip ?_;simp only [thenS,blockS])|(refine Pwp.cond rfl True.intro (fun h=>?_) (fun h=>?_)<;>(try (cases h;done))<;>(try simp only [h]))|refine Pwp.ret ?_|(refine hK _ ?_;clear hK K)|(refine hK _ _ rfl ?_;clear hK K)|refine CallG.off ?_|with_reducible refine Or.inl ?_|simp only [thenS,blockS]|with_reducible refine And.intro ?_ ?_|with_reducible exact True.intro|simp (dsimp:=false) only [↓gq,↓stepP,↓stepG,go_sem,c2])
          all_goals (try (first|(intro hg;simp [hg];done)|exact of_decide_eq_true rfl|(cases h;done)))
          (refine Fin.data (.inr rfl) (by simp (dsimp:=false) only [↓gq,↓stepP,↓stepG,go_sem,resL,htk,hlm]; rfl) (by simp only [and_self]) (by simp (dsimp:=false) only [↓gq,↓stepP,↓stepG,go_sem,resP,Nat.le_refl,List.take_length,htk,hlm]; try rfl) ?_)
          rw [outsP_all]
          exact subD_refl _
    · have hE : netsE n l = fitV n none l := by unfold netsE; rw [c0]; simp
      rw [netsV_bad (by rw [hE]; exact he), hE]
      have n1 : (fitV n none l != 0) = true := by simpa using he
      refine Runs.of (kit Try.prog) Try.func80 rfl rfl (by rw [Try.ntmps80]; exact of_decide_eq_true rfl) ?_; rw [Try.ntmps80, Try.results80]
      repeat' (first|((first|refine goA rfl fun K hK=>?_|refine goB rfl fun K hK=>?_|refine goC rfl rfl fun K hK=>?_|refine goD rfl rfl fun K hK=>?_);simp (dsimp:=false) only [↓gq,↓stepP,↓stepG,go_sem,c0,n1])|refine Pwp.seq ?_|refine Pwp.block ?_|(refine Pwp.exit ?_;simp only [thenS,blockS,if_true,if_false,reduceIte,Nat.reduceEqDiff,Nat.add_one_ne_zero,reduceCtorEq])|(refine Pwp.skip ?_;simp only [thenS,blockS])|(refine Pwp.cond rfl True.intro (fun h=>?_) (fun h=>?_)<;>(try (cases h;done))<;>(try simp only [h]))|refine Pwp.ret ?_|(refine hK _ ?_;clear hK K)|(refine hK _ _ rfl ?_;clear hK K)|(refine CallK.give (ds:=[I64 n, .slc 4 (linesD l)]) rfl (r82) (by simp) ?_)|refine CallG.off ?_|with_reducible refine Or.inl ?_|simp only [thenS,blockS]|with_reducible refine And.intro ?_ ?_|with_reducible exact True.intro|simp (dsimp:=false) only [↓gq,↓stepP,↓stepG,go_sem,c0,n1])
      all_goals (try (first|(intro hg;simp [hg];done)|exact of_decide_eq_true rfl|(cases h;done)))
      (refine Fin.data (.inr rfl) (by simp (dsimp:=false) only [↓gq,↓stepP,↓stepG,go_sem,resL]; rfl) (by simp only [and_self]) (by simp (dsimp:=false) only [↓gq,↓stepP,↓stepG,go_sem,resP,Nat.le_refl,List.take_length]; try rfl) ?_)
      simp [subD, subL, subV]
  · have c0 : (decide (n < 0) || decide (8 < n)) = true := by
      rw [Bool.or_eq_true, decide_eq_true_eq, decide_eq_true_eq]; omega
    have hE : netsE n l = 1 := by unfold netsE; rw [c0]; simp
    rw [netsV_bad (by rw [hE]; simp), hE]
    refine Runs.of (kit Try.prog) Try.func80 rfl rfl (by rw [Try.ntmps80]; exact of_decide_eq_true rfl) ?_; rw [Try.ntmps80, Try.results80]
    repeat' (first|((first|refine goA rfl fun K hK=>?_|refine goB rfl fun K hK=>?_|refine goC rfl rfl fun K hK=>?_|refine goD rfl rfl fun K hK=>?_);simp (dsimp:=false) only [↓gq,↓stepP,↓stepG,go_sem,c0])|refine Pwp.seq ?_|refine Pwp.block ?_|(refine Pwp.exit ?_;simp only [thenS,blockS,if_true,if_false,reduceIte,Nat.reduceEqDiff,Nat.add_one_ne_zero,reduceCtorEq])|(refine Pwp.skip ?_;simp only [thenS,blockS])|(refine Pwp.cond rfl True.intro (fun h=>?_) (fun h=>?_)<;>(try (cases h;done))<;>(try simp only [h]))|refine Pwp.ret ?_|(refine hK _ ?_;clear hK K)|(refine hK _ _ rfl ?_;clear hK K)|refine CallG.off ?_|with_reducible refine Or.inl ?_|simp only [thenS,blockS]|with_reducible refine And.intro ?_ ?_|with_reducible exact True.intro|simp (dsimp:=false) only [↓gq,↓stepP,↓stepG,go_sem,c0])
    all_goals (try (first|(intro hg;simp [hg];done)|exact of_decide_eq_true rfl|(cases h;done)))
    (refine Fin.data (.inr rfl) (by simp (dsimp:=false) only [↓gq,↓stepP,↓stepG,go_sem,resL]; rfl) (by simp only [and_self]) (by simp (dsimp:=false) only [↓gq,↓stepP,↓stepG,go_sem,resP,Nat.le_refl,List.take_length]; try rfl) ?_)
    simp [subD, subL, subV]
end Go.Proofs.Ytdodgbhodkcckaa.Pv
end
section
set_option linter.unusedVariables false
set_option linter.unusedSimpArgs false
set_option autoImplicit false
set_option maxRecDepth 100000
namespace Go.Proofs.Ytdodgbhodkcckaa.Pv
open Go Go.RowKit
theorem CallK.rowClo {P : Program} {fid : Nat} {nid : Nat → Nat} {st : St} {K : Eff → Prop} {i1 i2 v1 s1 l1 e1 : Nat} {f : Fn} {r1 : Option Nat} {els1 cs : List D} {r : PVal} {h' : List (Nat × PObj)}
    (hr : Runs P fid [.own 0 v1 s1 0 l1, .clo f [] [.ref 1 0]] [(0, .arr e1 s1 v1 r1 els1), (1, .box (cs.map .d))] r h') (h1 : find i1 st.heap = some (.arr e1 s1 v1 r1 els1)) (h2 : find i2 st.heap = some (.box (cs.map .d))) (hne : i1 ≠ i2) (hn : (h'.map (·.1)).Nodup)
    (hK : K ⟨r.shift (rename [i1, i2] nid), [i1, i2], shiftH (rename [i1, i2] nid) h'⟩) : CallK P fid nid st [.own i1 v1 s1 0 l1, .clo f [] [.ref i2 0]] K := by
  have sh : ∀ (ρ : Nat → Nat) (l : List D), shiftL ρ (l.map .d) = l.map .d := by
    intro ρ l
    induction l with
    | nil => rfl
    | cons a l ih => simp only [List.map_cons, shiftL, PVal.shift, ih]
  refine ⟨[i1, i2], _, _, r, h', false, ?_, hr, ⟨by simp [hne], by simp, rfl, ?_⟩, ⟨hn, by simp [frozen, PVal.ids]⟩, .inr (.inl (by simp [frozen, PVal.ids])), by simpa using hK⟩
  · simp [argsP, argP, PVal.shift, shiftL, rename]
  · simp [PObj.shift, h1, h2, sh]
def notMine (me : Int) (x : Line) : Bool := x.seller != me && x.buyer != me
def mineL (me : Int) (l : List Line) : List Line := l.filter fun x => !notMine me x
set_option maxHeartbeats 8000000 in
theorem run147 (me : Int) (x : Line) : Runs Try.prog 147 [.d x.d, .ref 0 0] [(0, .box [.d (I64 me)])] (pbool (notMine me x)) [(0, .box [.d (I64 me)])] := by
  unfold Line.d Line.cells notMine
  refine Runs.of (kit Try.prog) Try.func147 rfl rfl (by rw [Try.ntmps147]; exact of_decide_eq_true rfl) ?_; rw [Try.ntmps147, Try.results147]
  repeat' (first|((first|refine goA rfl fun K hK=>?_|refine goB rfl fun K hK=>?_|refine goC rfl rfl fun K hK=>?_|refine goD rfl rfl fun K hK=>?_);simp (dsimp:=false) only [↓gq,↓stepP,↓stepG,go_sem])|refine Pwp.seq ?_|refine Pwp.block ?_|(refine Pwp.exit ?_;simp only [thenS,blockS,if_true,if_false,reduceIte,Nat.reduceEqDiff,Nat.add_one_ne_zero,reduceCtorEq])|(refine Pwp.skip ?_;simp only [thenS,blockS])|(refine Pwp.cond rfl True.intro (fun h=>?_) (fun h=>?_)<;>(try (cases h;done))<;>(try simp only [h]))|refine Pwp.ret ?_|(refine hK _ ?_;clear hK K)|(refine hK _ _ rfl ?_;clear hK K)|refine CallG.off ?_|with_reducible refine Or.inl ?_|simp only [thenS,blockS]|with_reducible refine And.intro ?_ ?_|with_reducible exact True.intro|simp (dsimp:=false) only [↓gq,↓stepP,↓stepG,go_sem])
  all_goals (try (first|(intro hg;simp [hg];done)|exact of_decide_eq_true rfl|(cases h;done)))
  refine Fin.dataV V0 (.inr rfl) (by simp (dsimp:=false) only [↓gq,↓stepP,↓stepG,go_sem,resL]; rfl) (by simp only [and_self]) rfl (by simp [viewH, viewP, viewL, viewO, V0, keptOf, find, PVal.toD, subD_refl, disj, PVal.ids]) (by simp [resP, viewP, V0, keptOf, find, PVal.toD, subD_refl, disj, PVal.ids])
def idxM (me : Int) : Nat → List Line → Int
  | _, [] => -1
  | i, y :: l => if notMine me y = true then i else idxM me (i + 1) l
def L200 (me : Int) (l : List Line) (i : Nat) : St := ⟨[(8, pint .i64 i), (7, pint .i64 l.length), (1, .clo (.func 147) [] [.ref 1 0]), (0, .own 0 0 4 0 l.length)], [(0, .arr 142 4 0 none (linesD l)), (1, .box [.d (I64 me)])], 24⟩
set_option maxHeartbeats 8000000 in
theorem run200 (me : Int) (l : List Line) (hl : l.length ≤ 1000) : Runs Try.prog 200 [.own 0 0 4 0 l.length, .clo (.func 147) [] [.ref 1 0]] [(0, .arr 142 4 0 none (linesD l)), (1, .box [.d (I64 me)])] (pint .i64 (idxM me 0 l)) [(0, .arr 142 4 0 none (linesD l)), (1, .box [.d (I64 me)])] := by
  have hlen := lines_len l
  refine Runs.of (kit Try.prog) Try.func200 rfl rfl (by rw [Try.ntmps200]; exact of_decide_eq_true rfl) ?_; rw [Try.ntmps200, Try.results200]
  repeat' (first|((first|refine goA rfl fun K hK=>?_|refine goB rfl fun K hK=>?_|refine goC rfl rfl fun K hK=>?_|refine goD rfl rfl fun K hK=>?_);simp (dsimp:=false) only [↓gq,↓stepP,↓stepG,go_sem,hlen])|refine Pwp.seq ?_|refine Pwp.block ?_|(refine Pwp.exit ?_;simp only [thenS,blockS,if_true,if_false,reduceIte,Nat.reduceEqDiff,Nat.add_one_ne_zero,reduceCtorEq])|(refine Pwp.skip ?_;simp only [thenS,blockS])|(refine Pwp.cond rfl True.intro (fun h=>?_) (fun h=>?_)<;>(try (cases h;done))<;>(try simp only [h]))|refine Pwp.ret ?_|(refine hK _ ?_;clear hK K)|(refine hK _ _ rfl ?_;clear hK K)|refine CallG.off ?_|with_reducible refine Or.inl ?_|simp only [thenS,blockS]|with_reducible refine And.intro ?_ ?_|with_reducible exact True.intro|simp (dsimp:=false) only [↓gq,↓stepP,↓stepG,go_sem,hlen])
  all_goals (try (first|(intro hg;simp [hg];done)|exact of_decide_eq_true rfl|(cases h;done)))
  refine Pwp.rangeI l.length (fun i s => idxM me i (l.drop i) = idxM me 0 l ∧ s = L200 me l i) (s0 := L200 me l 0) (Sub.view V0 (by simp [L200]) rfl (by simp [L200,hlen]) (by simp [L200,hlen])) ⟨rfl, rfl⟩ ?_ ?_
  · rintro i s hi ⟨hp, rfl⟩
    obtain ⟨y, hy, hm⟩ := at_lt hi
    have hg := lines_get hy
    have c1 := dlt hi
    have w := wrap_succ (i := i) (by omega)
    have r147 := run147 me y
    rw [drop_cons hy, idxM] at hp
    unfold L200
    cases hc : notMine me y with
    | true =>
      rw [hc, if_pos rfl] at hp
      rw [hc] at r147
      repeat' (first|((first|refine goA rfl fun K hK=>?_|refine goB rfl fun K hK=>?_|refine goC rfl rfl fun K hK=>?_|refine goD rfl rfl fun K hK=>?_);simp (dsimp:=false) only [↓gq,↓stepP,↓stepG,go_sem,hg,c1,w,hlen,hi])|refine Pwp.seq ?_|refine Pwp.block ?_|(refine Pwp.exit ?_;simp only [thenS,blockS,if_true,if_false,reduceIte,Nat.reduceEqDiff,Nat.add_one_ne_zero,reduceCtorEq])|(refine Pwp.skip ?_;simp only [thenS,blockS])|(refine Pwp.cond rfl True.intro (fun h=>?_) (fun h=>?_)<;>(try (cases h;done))<;>(try simp only [h]))|refine Pwp.ret ?_|(refine hK _ ?_;clear hK K)|(refine hK _ _ rfl ?_;clear hK K)|(refine CallK.capt (cs:=[I64 me]) r147 rfl (subD_refl _) rfl rfl ?_)|refine CallG.off ?_|with_reducible refine Or.inl ?_|simp only [thenS,blockS]|with_reducible refine And.intro ?_ ?_|with_reducible exact True.intro|simp (dsimp:=false) only [↓gq,↓stepP,↓stepG,go_sem,hg,c1,w,hlen,hi])
      all_goals (try (first|(intro hg;simp [hg];done)|exact of_decide_eq_true rfl|(cases h;done)))
      refine Fin.dataV V0 (.inr rfl) (by simp (dsimp:=false) only [↓gq,↓stepP,↓stepG,go_sem,resL]; rfl) (by simp only [and_self]) rfl (by simp [viewH, viewP, viewL, viewO, V0, keptOf, find, PVal.toD, subD_refl, disj, PVal.ids]) (by simp [resP, viewP, V0, keptOf, find, PVal.toD, subD_refl, disj, PVal.ids, ← hp])
    | false =>
      rw [hc, if_neg (by simp)] at hp
      rw [hc] at r147
      repeat' (first|((first|refine goA rfl fun K hK=>?_|refine goB rfl fun K hK=>?_|refine goC rfl rfl fun K hK=>?_|refine goD rfl rfl fun K hK=>?_);simp (dsimp:=false) only [↓gq,↓stepP,↓stepG,go_sem,hg,c1,w,hlen,hi])|refine Pwp.seq ?_|refine Pwp.block ?_|(refine Pwp.exit ?_;simp only [thenS,blockS,if_true,if_false,reduceIte,Nat.reduceEqDiff,Nat.add_one_ne_zero,reduceCtorEq])|(refine Pwp.skip ?_;simp only [thenS,blockS])|(refine Pwp.cond rfl True.intro (fun h=>?_) (fun h=>?_)<;>(try (cases h;done))<;>(try simp only [h]))|refine Pwp.ret ?_|(refine hK _ ?_;clear hK K)|(refine hK _ _ rfl ?_;clear hK K)|(refine CallK.capt (cs:=[I64 me]) r147 rfl (subD_refl _) rfl rfl ?_)|refine CallG.off ?_|with_reducible refine Or.inl ?_|simp only [thenS,blockS]|with_reducible refine And.intro ?_ ?_|with_reducible exact True.intro|simp (dsimp:=false) only [↓gq,↓stepP,↓stepG,go_sem,hg,c1,w,hlen,hi])
      all_goals (try (first|(intro hg;simp [hg];done)|exact of_decide_eq_true rfl|(cases h;done)))
      exact ⟨_, Sub.view V0 (by simp [L200]) rfl (by simp [L200]) (by simp [L200]), hp, rfl⟩
  · rintro s ⟨hp, rfl⟩
    have c1 := dge (Nat.le_refl l.length)
    rw [List.drop_length, idxM] at hp
    unfold L200
    repeat' (first|((first|refine goA rfl fun K hK=>?_|refine goB rfl fun K hK=>?_|refine goC rfl rfl fun K hK=>?_|refine goD rfl rfl fun K hK=>?_);simp (dsimp:=false) only [↓gq,↓stepP,↓stepG,go_sem,c1,hlen])|refine Pwp.seq ?_|refine Pwp.block ?_|(refine Pwp.exit ?_;simp only [thenS,blockS,if_true,if_false,reduceIte,Nat.reduceEqDiff,Nat.add_one_ne_zero,reduceCtorEq])|(refine Pwp.skip ?_;simp only [thenS,blockS])|(refine Pwp.cond rfl True.intro (fun h=>?_) (fun h=>?_)<;>(try (cases h;done))<;>(try simp only [h]))|refine Pwp.ret ?_|(refine hK _ ?_;clear hK K)|(refine hK _ _ rfl ?_;clear hK K)|refine CallG.off ?_|with_reducible refine Or.inl ?_|simp only [thenS,blockS]|with_reducible refine And.intro ?_ ?_|with_reducible exact True.intro|simp (dsimp:=false) only [↓gq,↓stepP,↓stepG,go_sem,c1,hlen])
    all_goals (try (first|(intro hg;simp [hg];done)|exact of_decide_eq_true rfl|(cases h;done)))
    refine Fin.dataV V0 (.inr rfl) (by simp (dsimp:=false) only [↓gq,↓stepP,↓stepG,go_sem,resL]; rfl) (by simp only [and_self]) rfl (by simp [viewH, viewP, viewL, viewO, V0, keptOf, find, PVal.toD, subD_refl, disj, PVal.ids]) (by simp [resP, viewP, V0, keptOf, find, PVal.toD, subD_refl, disj, PVal.ids, ← hp])
theorem idx_split (me : Int) : ∀ (l : List Line) (i : Nat), (idxM me i l = -1 ∧ mineL me l = l) ∨ ∃ (k : Nat) (y : Line), idxM me i l = ((i + k : Nat) : Int) ∧ l[k]? = some y ∧ notMine me y = true ∧ mineL me (l.take k) = l.take k
  | [], i => .inl ⟨rfl, rfl⟩
  | x :: l, i => by
    rw [idxM]
    cases hx : notMine me x with
    | true => exact .inr ⟨0, x, by simp, by simp, hx, by simp [mineL]⟩
    | false =>
      rw [if_neg (by simp)]
      rcases idx_split me l (i + 1) with ⟨h1, h2⟩ | ⟨k, y, h1, h2, h3, h4⟩
      · refine .inl ⟨h1, ?_⟩
        unfold mineL at h2 ⊢
        rw [List.filter_cons, hx, h2]; rfl
      · refine .inr ⟨k + 1, y, by rw [h1]; congr 1; omega, by simpa using h2, h3, ?_⟩
        unfold mineL at h4 ⊢
        rw [List.take_succ_cons, List.filter_cons, hx, h4]; rfl
theorem mine_take {me : Int} {l : List Line} {j : Nat} {x : Line} (h : l[j]? = some x) : mineL me (l.take (j + 1)) = mineL me (l.take j) ++ if notMine me x = true then [] else [x] := by
  unfold mineL
  rw [List.take_add_one, h]
  simp only [Option.toList, List.filter_append, List.filter_cons, List.filter_nil]
  cases notMine me x <;> simp
def delL (me : Int) (l : List Line) (j : Nat) : List Line := mineL me (l.take j) ++ l.drop (mineL me (l.take j)).length
def kN (me : Int) (l : List Line) (j : Nat) : Nat := (mineL me (l.take j)).length
theorem kN_le (me : Int) (l : List Line) (j : Nat) : kN me l j ≤ j := by
  have := List.length_filter_le (fun x => !notMine me x) (l.take j)
  rw [List.length_take] at this
  unfold kN mineL; omega
theorem kN_len (me : Int) (l : List Line) (j : Nat) : kN me l j ≤ l.length := by
  have := List.length_filter_le (fun x => !notMine me x) (l.take j)
  rw [List.length_take] at this
  unfold kN mineL; omega
theorem delL_len (me : Int) (l : List Line) (j : Nat) : (delL me l j).length = l.length := by
  have := kN_len me l j
  unfold kN at this
  unfold delL; simp; omega
theorem delL_get {me : Int} {l : List Line} {j : Nat} {x : Line} (h : l[j]? = some x) : (delL me l j)[j]? = some x := by
  have := kN_le me l j
  unfold kN at this
  unfold delL
  rw [List.getElem?_append_right this, List.getElem?_drop, show (mineL me (l.take j)).length + (j - (mineL me (l.take j)).length) = j by omega]
  exact h
theorem delL_at {me : Int} {l : List Line} {j : Nat} (h : kN me l j < l.length) : ∃ y, (delL me l j)[kN me l j]? = some y := by
  have := delL_len me l j
  exact ⟨_, List.getElem?_eq_getElem (by omega)⟩
theorem delL_in {me : Int} {l : List Line} {j : Nat} {x : Line} (h : l[j]? = some x) (hx : notMine me x = false) (hk : kN me l j < l.length) : (delL me l j).set (kN me l j) x = delL me l (j + 1) := by
  have e := mine_take (me := me) h
  rw [hx, if_neg (by simp)] at e
  unfold delL
  rw [e]
  unfold kN at hk ⊢
  rw [List.set_append_right _ _ (Nat.le_refl _), Nat.sub_self, List.drop_eq_getElem_cons hk, List.set_cons_zero]
  simp
theorem kN_in {me : Int} {l : List Line} {j : Nat} {x : Line} (h : l[j]? = some x) (hx : notMine me x = false) : kN me l (j + 1) = kN me l j + 1 := by
  have e := mine_take (me := me) h
  rw [hx, if_neg (by simp)] at e
  unfold kN; rw [e]; simp
theorem delL_out {me : Int} {l : List Line} {j : Nat} {x : Line} (h : l[j]? = some x) (hx : notMine me x = true) : delL me l (j + 1) = delL me l j ∧ kN me l (j + 1) = kN me l j := by
  have e := mine_take (me := me) h
  rw [hx, if_pos rfl, List.append_nil] at e
  unfold delL kN
  rw [e]; exact ⟨rfl, rfl⟩
def L146 (me : Int) (l : List Line) (j : Nat) : St := ⟨[(6, pint .i64 j), (5, pint .i64 (kN me l j)), (1, .clo (.func 147) [] [.ref 1 0]), (0, .own 0 0 4 0 l.length)], [(0, .arr 142 4 0 none (linesD (delL me l j))), (1, .box [.d (I64 me)])], 48⟩
def zeroLine : Line := ⟨0, 0, 0, 0⟩
def doneL (me : Int) (l : List Line) : List Line := mineL me l ++ List.replicate (l.length - (mineL me l).length) zeroLine
theorem done_row (me : Int) (l : List Line) : List.take (kN me l l.length) (linesD (delL me l l.length)) ++ List.replicate (l.length - kN me l l.length) (D.agg [D.v (Value.int IntKind.i64 0), D.v (Value.int IntKind.i64 0), D.v (Value.int IntKind.i64 0), D.v (Value.int IntKind.i64 0)]) ++ List.drop (kN me l l.length + (l.length - kN me l l.length)) (linesD (delL me l l.length)) = linesD (doneL me l) := by
  have h1 := kN_len me l l.length
  have h2 := lines_len (delL me l l.length)
  have h3 := delL_len me l l.length
  rw [List.drop_of_length_le (by omega), List.append_nil]
  unfold doneL linesD kN delL
  rw [List.take_length, List.map_append, List.map_append, List.take_left' (by simp), List.map_replicate]
  rfl
set_option maxHeartbeats 16000000 in
theorem run146 (me : Int) (l : List Line) (hl : l.length ≤ 1000) : Runs Try.prog 146 [.own 0 0 4 0 l.length, .clo (.func 147) [] [.ref 1 0]] [(0, .arr 142 4 0 none (linesD l)), (1, .box [.d (I64 me)])] (.own 0 0 4 0 (mineL me l).length) [(0, .arr 142 4 0 none (linesD (doneL me l))), (1, .box [.d (I64 me)])] := by
  have hlen := lines_len l
  have r200 := run200 me l hl
  rcases idx_split me l 0 with ⟨h1, h2⟩ | ⟨i0, y, h1, h2, h3, h4⟩
  · rw [h1] at r200
    have hd : doneL me l = l := by unfold doneL; rw [h2]; simp
    rw [hd, h2]
    refine Runs.of (kit Try.prog) Try.func146 rfl rfl (by rw [Try.ntmps146]; exact of_decide_eq_true rfl) ?_; rw [Try.ntmps146, Try.results146]
    repeat' (first|((first|refine goA rfl fun K hK=>?_|refine goB rfl fun K hK=>?_|refine goC rfl rfl fun K hK=>?_|refine goD rfl rfl fun K hK=>?_);simp (dsimp:=false) only [↓gq,↓stepP,↓stepG,go_sem])|refine Pwp.seq ?_|refine Pwp.block ?_|(refine Pwp.exit ?_;simp only [thenS,blockS,if_true,if_false,reduceIte,Nat.reduceEqDiff,Nat.add_one_ne_zero,reduceCtorEq])|(refine Pwp.skip ?_;simp only [thenS,blockS])|(refine Pwp.cond rfl True.intro (fun h=>?_) (fun h=>?_)<;>(try (cases h;done))<;>(try simp only [h]))|refine Pwp.ret ?_|(refine hK _ ?_;clear hK K)|(refine hK _ _ rfl ?_;clear hK K)|(refine CallK.rowClo (cs:=[I64 me]) r200 rfl rfl (of_decide_eq_true rfl) (by simp) ?_)|refine CallG.off ?_|with_reducible refine Or.inl ?_|simp only [thenS,blockS]|with_reducible refine And.intro ?_ ?_|with_reducible exact True.intro|simp (dsimp:=false) only [↓gq,↓stepP,↓stepG,go_sem])
    all_goals (try (first|(intro hg;simp [hg];done)|exact of_decide_eq_true rfl|(cases h;done)))
    refine Fin.valV V0 (.inr rfl) (by simp (dsimp:=false) only [↓gq,↓stepP,↓stepG,go_sem,resL]; rfl) (by simp only [and_self]) rfl (by simp [viewH, viewP, viewL, viewO, V0, keptOf, find, PVal.toD, subD_refl, disj, PVal.ids]) (by simp [resP, viewP, V0, keptOf, find, PVal.toD, subD_refl, disj, PVal.ids])
  · rw [Nat.zero_add] at h1
    rw [h1] at r200
    have hi0 : i0 < l.length := (List.getElem?_eq_some_iff.1 h2).1
    have n1 : (((i0 : Nat) : Int) == -1) = false := by rw [beq_eq_false_iff_ne]; omega
    have w0 := wrap_succ (i := i0) (by omega)
    have hk0 : kN me l (i0 + 1) = i0 := by
      have := (delL_out h2 h3).2
      rw [this]; unfold kN; rw [h4, List.length_take]; omega
    have hd0 : delL me l (i0 + 1) = l := by
      rw [(delL_out h2 h3).1]; unfold delL; rw [h4, List.length_take, Nat.min_eq_left (by omega), List.take_append_drop]
    refine Runs.of (kit Try.prog) Try.func146 rfl rfl (by rw [Try.ntmps146]; exact of_decide_eq_true rfl) ?_; rw [Try.ntmps146, Try.results146]
    repeat' (first|((first|refine goA rfl fun K hK=>?_|refine goB rfl fun K hK=>?_|refine goC rfl rfl fun K hK=>?_|refine goD rfl rfl fun K hK=>?_);simp (dsimp:=false) only [↓gq,↓stepP,↓stepG,go_sem,n1,w0])|refine Pwp.seq ?_|refine Pwp.block ?_|(refine Pwp.exit ?_;simp only [thenS,blockS,if_true,if_false,reduceIte,Nat.reduceEqDiff,Nat.add_one_ne_zero,reduceCtorEq])|(refine Pwp.skip ?_;simp only [thenS,blockS])|(refine Pwp.cond rfl True.intro (fun h=>?_) (fun h=>?_)<;>(try (cases h;done))<;>(try simp only [h]))|refine Pwp.ret ?_|(refine hK _ ?_;clear hK K)|(refine hK _ _ rfl ?_;clear hK K)|(refine CallK.rowClo (cs:=[I64 me]) r200 rfl rfl (of_decide_eq_true rfl) (by simp) ?_)|refine CallG.off ?_|with_reducible refine Or.inl ?_|simp only [thenS,blockS]|with_reducible refine And.intro ?_ ?_|with_reducible exact True.intro|simp (dsimp:=false) only [↓gq,↓stepP,↓stepG,go_sem,n1,w0])
    all_goals (try (first|(intro hg;simp [hg];done)|exact of_decide_eq_true rfl|(cases h;done)))
    refine Pwp.range (l.length - (i0 + 1)) (S := fun i => L146 me l (i0 + 1 + i)) (Sub.view V0 (by simp [L146]) rfl (by simp [L146,hk0,hd0]) (by simp [L146,hk0,hd0])) (fun i hi => ?_) ?_
    · obtain ⟨x, hx, hm⟩ := at_lt (l := l) (i := i0 + 1 + i) (by omega)
      have hji : i0 + 1 + (i + 1) = i0 + 1 + i + 1 := by omega
      rw [hji]
      have hjl : i0 + 1 + i < l.length := by omega
      have hj0 : i0 < i0 + 1 + i := by omega
      generalize i0 + 1 + i = j at *
      have hkj := kN_le me l j
      have hkl : kN me l j < l.length := by omega
      obtain ⟨z, hz⟩ := delL_at hkl
      have hgj := lines_get (delL_get (me := me) hx)
      have hgz := lines_get hz
      have c1 := dlt hjl
      have w := wrap_succ (i := j) (by omega)
      have wk := wrap_succ (i := kN me l j) (by omega)
      have r147 := run147 me x
      have hll := lines_len (delL me l j)
      have hdl := delL_len me l j
      unfold L146
      cases hc : notMine me x with
      | true =>
        rw [hc] at r147
        obtain ⟨e1, e2⟩ := delL_out (me := me) hx hc
        repeat' (first|((first|refine goA rfl fun K hK=>?_|refine goB rfl fun K hK=>?_|refine goC rfl rfl fun K hK=>?_|refine goD rfl rfl fun K hK=>?_);simp (dsimp:=false) only [↓gq,↓stepP,↓stepG,go_sem,hgj,c1,w,hjl])|refine Pwp.seq ?_|refine Pwp.block ?_|(refine Pwp.exit ?_;simp only [thenS,blockS,if_true,if_false,reduceIte,Nat.reduceEqDiff,Nat.add_one_ne_zero,reduceCtorEq])|(refine Pwp.skip ?_;simp only [thenS,blockS])|(refine Pwp.cond rfl True.intro (fun h=>?_) (fun h=>?_)<;>(try (cases h;done))<;>(try simp only [h]))|refine Pwp.ret ?_|(refine hK _ ?_;clear hK K)|(refine hK _ _ rfl ?_;clear hK K)|(refine CallK.capt (cs:=[I64 me]) r147 rfl (subD_refl _) rfl rfl ?_)|refine CallG.off ?_|with_reducible refine Or.inl ?_|simp only [thenS,blockS]|with_reducible refine And.intro ?_ ?_|with_reducible exact True.intro|simp (dsimp:=false) only [↓gq,↓stepP,↓stepG,go_sem,hgj,c1,w,hjl])
        all_goals (try (first|(intro hg;simp [hg];done)|exact of_decide_eq_true rfl|(cases h;done)))
        exact Sub.view V0 (by simp [L146]) rfl (by simp [L146,e1,e2]) (by simp [L146,e1,e2])
      | false =>
        rw [hc] at r147
        have e1 := delL_in (me := me) hx hc hkl
        have e2 := kN_in (me := me) hx hc
        have e3 : (linesD (delL me l j)).set (kN me l j) (D.agg [I64 x.seller, I64 x.number, I64 x.buyer, I64 x.amount]) = linesD (delL me l (j + 1)) := by
          rw [← e1]; unfold linesD; rw [List.map_set]; rfl
        repeat' (first|((first|refine goA rfl fun K hK=>?_|refine goB rfl fun K hK=>?_|refine goC rfl rfl fun K hK=>?_|refine goD rfl rfl fun K hK=>?_);simp (dsimp:=false) only [↓gq,↓stepP,↓stepG,go_sem,hgj,hgz,c1,w,wk,hjl,hkl])|refine Pwp.seq ?_|refine Pwp.block ?_|(refine Pwp.exit ?_;simp only [thenS,blockS,if_true,if_false,reduceIte,Nat.reduceEqDiff,Nat.add_one_ne_zero,reduceCtorEq])|(refine Pwp.skip ?_;simp only [thenS,blockS])|(refine Pwp.cond rfl True.intro (fun h=>?_) (fun h=>?_)<;>(try (cases h;done))<;>(try simp only [h]))|refine Pwp.ret ?_|(refine hK _ ?_;clear hK K)|(refine hK _ _ rfl ?_;clear hK K)|(refine CallK.capt (cs:=[I64 me]) r147 rfl (subD_refl _) rfl rfl ?_)|refine CallG.off ?_|with_reducible refine Or.inl ?_|simp only [thenS,blockS]|with_reducible refine And.intro ?_ ?_|with_reducible exact True.intro|simp (dsimp:=false) only [↓gq,↓stepP,↓stepG,go_sem,hgj,hgz,c1,w,wk,hjl,hkl])
        all_goals (try (first|(intro hg;simp [hg];done)|exact of_decide_eq_true rfl|(cases h;done)))
        exact Sub.view V0 (by simp [L146]) rfl (by simp [L146,e2,e3]) (by simp [L146,e2,e3])
    · rw [show i0 + 1 + (l.length - (i0 + 1)) = l.length by omega]
      have c1 := dge (Nat.le_refl l.length)
      unfold L146
      repeat' (first|((first|refine goA rfl fun K hK=>?_|refine goB rfl fun K hK=>?_|refine goC rfl rfl fun K hK=>?_|refine goD rfl rfl fun K hK=>?_);simp (dsimp:=false) only [↓gq,↓stepP,↓stepG,go_sem,c1])|refine Pwp.seq ?_|refine Pwp.block ?_|(refine Pwp.exit ?_;simp only [thenS,blockS,if_true,if_false,reduceIte,Nat.reduceEqDiff,Nat.add_one_ne_zero,reduceCtorEq])|(refine Pwp.skip ?_;simp only [thenS,blockS])|(refine Pwp.cond rfl True.intro (fun h=>?_) (fun h=>?_)<;>(try (cases h;done))<;>(try simp only [h]))|refine Pwp.ret ?_|(refine hK _ ?_;clear hK K)|(refine hK _ _ rfl ?_;clear hK K)|refine CallG.off ?_|with_reducible refine Or.inl ?_|simp only [thenS,blockS]|with_reducible refine And.intro ?_ ?_|with_reducible exact True.intro|simp (dsimp:=false) only [↓gq,↓stepP,↓stepG,go_sem,c1])
      all_goals (try (first|(intro hg;simp [hg];done)|exact of_decide_eq_true rfl|(cases h;done)))
      all_goals (try (first | exact Int.ofNat_le.2 (kN_len me l l.length) | exact Int.le_refl _ | (rw [lines_len, delL_len]; exact kN_len me l l.length)))
      rw [done_row, show kN me l l.length = (mineL me l).length by unfold kN; rw [List.take_length]]
      refine Fin.valV V0 (.inr rfl) (by simp (dsimp:=false) only [↓gq,↓stepP,↓stepG,go_sem,resL]; rfl) (by simp only [and_self]) rfl (by simp [viewH, viewP, viewL, viewO, V0, keptOf, find, PVal.toD, subD_refl, disj, PVal.ids]) (by simp [resP, viewP, V0, keptOf, find, PVal.toD, subD_refl, disj, PVal.ids])
theorem lines_one (l : List Line) : ∀ d ∈ linesD l, d.cells.all D.one = true := by
  intro d hd
  obtain ⟨x, _, rfl⟩ := List.mem_map.1 hd
  rfl
theorem done_take (me : Int) (l : List Line) : (linesD (doneL me l)).take (mineL me l).length = linesD (mineL me l) := by
  unfold doneL linesD; rw [List.map_append, List.take_left' (by simp)]
set_option maxHeartbeats 8000000 in
theorem run88d (me : Int) (l : List Line) (hl : l.length ≤ 1000) : Runs Try.prog 88 [pint .i64 me, .d (.slc 4 (linesD l))] [] (.d (.slc 4 (linesD (mineL me l)))) [] := by
  have htk := done_take me l
  have hle : (mineL me l).length ≤ (linesD (doneL me l)).length := by rw [lines_len]; unfold doneL; simp
  have hlen := lines_len l
  have r133 := run133 (linesD l) (lines_one l) (by omega)
  rw [hlen] at r133
  have r146 := run146 me l hl
  refine Runs.of (kit Try.prog) Try.func88 rfl rfl (by rw [Try.ntmps88]; exact of_decide_eq_true rfl) ?_; rw [Try.ntmps88, Try.results88]
  repeat' (first|((first|refine goA rfl fun K hK=>?_|refine goB rfl fun K hK=>?_|refine goC rfl rfl fun K hK=>?_|refine goD rfl rfl fun K hK=>?_);simp (dsimp:=false) only [↓gq,↓stepP,↓stepG,go_sem])|refine Pwp.seq ?_|refine Pwp.block ?_|(refine Pwp.exit ?_;simp only [thenS,blockS,if_true,if_false,reduceIte,Nat.reduceEqDiff,Nat.add_one_ne_zero,reduceCtorEq])|(refine Pwp.skip ?_;simp only [thenS,blockS])|(refine Pwp.cond rfl True.intro (fun h=>?_) (fun h=>?_)<;>(try (cases h;done))<;>(try simp only [h]))|refine Pwp.ret ?_|(refine hK _ ?_;clear hK K)|(refine hK _ _ rfl ?_;clear hK K)|(refine CallK.rowClo (cs:=[I64 me]) r146 rfl rfl (of_decide_eq_true rfl) (by simp) ?_)|(refine CallK.give (ds:=[.slc 4 (linesD l)]) rfl (r133) (by simp) ?_)|refine CallG.off ?_|with_reducible refine Or.inl ?_|simp only [thenS,blockS]|with_reducible refine And.intro ?_ ?_|with_reducible exact True.intro|simp (dsimp:=false) only [↓gq,↓stepP,↓stepG,go_sem])
  all_goals (try (first|(intro hg;simp [hg];done)|exact of_decide_eq_true rfl|(cases h;done)))
  (refine Fin.data (.inr rfl) (by simp (dsimp:=false) only [↓gq,↓stepP,↓stepG,go_sem,resL,htk,hle]; rfl) (by simp only [and_self]) (by simp (dsimp:=false) only [↓gq,↓stepP,↓stepG,go_sem,resP,Nat.le_refl,List.take_length,htk,hle]; try rfl) ?_)
  exact subD_refl _
end Go.Proofs.Ytdodgbhodkcckaa.Pv
end
section
set_option linter.unusedVariables false
set_option linter.unusedSimpArgs false
set_option autoImplicit false
set_option maxRecDepth 100000
namespace Go.Proofs.Ytdodgbhodkcckaa.Pv
open Go Go.RowKit
structure RDesk where
  me : Int
  far : Int
  items : List Item
  orders : List Order
def RDesk.cells (d : RDesk) : List D := [I64 d.me, I64 d.far, .slc 8 (itemsD d.items), .slc 3 (ordersD d.orders)]
def RDesk.d (d : RDesk) : D := .agg d.cells
def isNm (s n : Int) (y : Item) : Bool := y.seller == s && y.number == n
def fndV (s n : Int) : Nat → List Item → Int
  | _, [] => -1
  | i, y :: l => if isNm s n y = true then i else fndV s n (i + 1) l
def keepL2 (l : List Item) (x : Item) : List Item := if fndV x.seller x.number 0 l < 0 then l ++ [x] else l.set (fndV x.seller x.number 0 l).toNat x
def RDesk.keep (d : RDesk) (x : Item) : RDesk := { d with items := keepL2 d.items x }
end Go.Proofs.Ytdodgbhodkcckaa.Pv
end
section
set_option linter.unusedVariables false
set_option linter.unusedSimpArgs false
set_option autoImplicit false
set_option maxRecDepth 100000
namespace Go.Proofs.Ytdodgbhodkcckaa.Pv
open Go Go.RowKit
structure VMsg where
  kind : Int
  seller : Int
  number : Int
  buyer : Int
  currency : Int
  round : Int
  cycle : Int
  amount : Int
  yes : Bool
  ls : List Line
  ns : List Int
def VMsg.msg (m : VMsg) : Msg := ⟨m.kind, m.seller, m.number, m.buyer, m.currency, m.round, m.cycle, m.amount, m.yes, .slc 4 (linesD m.ls), .slc 1 (m.ns.map I64)⟩
structure VW where
  from' : Int
  m : VMsg
def VW.d (w : VW) : D := .agg (I64 w.from' :: w.m.msg.cells)
def vwsD (ws : List VW) : List D := ws.map VW.d
theorem vws_len (ws : List VW) : (vwsD ws).length = ws.length := by simp [vwsD]
theorem vws_get {ws : List VW} {i : Nat} {w : VW} (h : ws[i]? = some w) : (vwsD ws)[i]? = some (.agg [I64 w.from', I64 w.m.kind, I64 w.m.seller, I64 w.m.number, I64 w.m.buyer, I64 w.m.currency, I64 w.m.round, I64 w.m.cycle, I64 w.m.amount, .v (.bool w.m.yes), .slc 4 (linesD w.m.ls), .slc 1 (w.m.ns.map I64)]) := by
  simp [vwsD, h, VW.d, Msg.cells, VMsg.msg]
end Go.Proofs.Ytdodgbhodkcckaa.Pv
end
section
set_option linter.unusedVariables false
set_option linter.unusedSimpArgs false
set_option autoImplicit false
set_option maxRecDepth 100000
namespace Go.Proofs.Ytdodgbhodkcckaa.Pv
open Go Go.RowKit
theorem CallG.offB {P : Program} {fid : Nat} {st : St} {qs : List PVal} {G : Prop} {K : Eff → Prop} (hK : K ⟨.gd false (.d (.v (.bool false))), [], []⟩) : CallG P fid false st qs G K :=
  ⟨[], .v (.bool false), fun h => (Bool.false_ne_true h).elim, .inr rfl, hK⟩
theorem bits_at {m : Nat} (h : m < 256) : ∃ b : UInt8, (⟨#[0, 1, 2, 2, 3, 3, 3, 3, 4, 4, 4, 4, 4, 4, 4, 4, 5, 5, 5, 5, 5, 5, 5, 5, 5, 5, 5, 5, 5, 5, 5, 5, 6, 6, 6, 6, 6, 6, 6, 6, 6, 6, 6, 6, 6, 6, 6, 6, 6, 6, 6, 6, 6, 6, 6, 6, 6, 6, 6, 6, 6, 6, 6, 6, 7, 7, 7, 7, 7, 7, 7, 7, 7, 7, 7, 7, 7, 7, 7, 7, 7, 7, 7, 7, 7, 7, 7, 7, 7, 7, 7, 7, 7, 7, 7, 7, 7, 7, 7, 7, 7, 7, 7, 7, 7, 7, 7, 7, 7, 7, 7, 7, 7, 7, 7, 7, 7, 7, 7, 7, 7, 7, 7, 7, 7, 7, 7, 7, 8, 8, 8, 8, 8, 8, 8, 8, 8, 8, 8, 8, 8, 8, 8, 8, 8, 8, 8, 8, 8, 8, 8, 8, 8, 8, 8, 8, 8, 8, 8, 8, 8, 8, 8, 8, 8, 8, 8, 8, 8, 8, 8, 8, 8, 8, 8, 8, 8, 8, 8, 8, 8, 8, 8, 8, 8, 8, 8, 8, 8, 8, 8, 8, 8, 8, 8, 8, 8, 8, 8, 8, 8, 8, 8, 8, 8, 8, 8, 8, 8, 8, 8, 8, 8, 8, 8, 8, 8, 8, 8, 8, 8, 8, 8, 8, 8, 8, 8, 8, 8, 8, 8, 8, 8, 8, 8, 8, 8, 8, 8, 8, 8, 8, 8, 8, 8, 8, 8, 8, 8, 8, 8, 8, 8, 8, 8, 8]⟩ : ByteArray)[m]? = some b ∧ (0 < m → b.toNat ≠ 0) := by
  have key : ((List.range 256).all fun m => match (⟨#[0, 1, 2, 2, 3, 3, 3, 3, 4, 4, 4, 4, 4, 4, 4, 4, 5, 5, 5, 5, 5, 5, 5, 5, 5, 5, 5, 5, 5, 5, 5, 5, 6, 6, 6, 6, 6, 6, 6, 6, 6, 6, 6, 6, 6, 6, 6, 6, 6, 6, 6, 6, 6, 6, 6, 6, 6, 6, 6, 6, 6, 6, 6, 6, 7, 7, 7, 7, 7, 7, 7, 7, 7, 7, 7, 7, 7, 7, 7, 7, 7, 7, 7, 7, 7, 7, 7, 7, 7, 7, 7, 7, 7, 7, 7, 7, 7, 7, 7, 7, 7, 7, 7, 7, 7, 7, 7, 7, 7, 7, 7, 7, 7, 7, 7, 7, 7, 7, 7, 7, 7, 7, 7, 7, 7, 7, 7, 7, 8, 8, 8, 8, 8, 8, 8, 8, 8, 8, 8, 8, 8, 8, 8, 8, 8, 8, 8, 8, 8, 8, 8, 8, 8, 8, 8, 8, 8, 8, 8, 8, 8, 8, 8, 8, 8, 8, 8, 8, 8, 8, 8, 8, 8, 8, 8, 8, 8, 8, 8, 8, 8, 8, 8, 8, 8, 8, 8, 8, 8, 8, 8, 8, 8, 8, 8, 8, 8, 8, 8, 8, 8, 8, 8, 8, 8, 8, 8, 8, 8, 8, 8, 8, 8, 8, 8, 8, 8, 8, 8, 8, 8, 8, 8, 8, 8, 8, 8, 8, 8, 8, 8, 8, 8, 8, 8, 8, 8, 8, 8, 8, 8, 8, 8, 8, 8, 8, 8, 8, 8, 8, 8, 8, 8, 8, 8, 8]⟩ : ByteArray)[m]? with | some b => decide (0 < m → b.toNat ≠ 0) | none => false) = true := by decide +kernel
  have := List.all_eq_true.1 key m (List.mem_range.2 h)
  split at this
  · rename_i b hb
    exact ⟨b, hb, of_decide_eq_true this⟩
  · cases this
theorem wrap8 {m : Nat} (h : m < 256) : (IntKind.wrap .u8 (m : Int)) = (m : Int) := by
  have e2 : IntKind.u8.bits = 8 := rfl
  have e5 : IntKind.u8.signed = false := rfl
  have e : ((2 : Int) ^ 8) = 256 := by decide
  unfold IntKind.wrap
  rw [e2, e5, e]
  simp only [Bool.false_and, Bool.false_eq_true, if_false]
  exact Int.emod_eq_of_lt (by omega) (by omega)
set_option maxHeartbeats 8000000 in
theorem run244 (n : Nat) (hn : n < 65536) : ∃ k : Int, (0 < n → k ≠ 0) ∧ Runs Try.prog 244 [pint .u64 n] [] (pint .i64 k) [] := by
  have c1 : decide ((4294967296 : Int) ≤ (n : Int)) = false := by rw [decide_eq_false_iff_not]; omega
  have c2 : decide ((65536 : Int) ≤ (n : Int)) = false := by rw [decide_eq_false_iff_not]; omega
  by_cases h : 256 ≤ n
  · have c3 : decide ((256 : Int) ≤ (n : Int)) = true := decide_eq_true (by omega)
    obtain ⟨b, hb, h0⟩ := bits_at (m := n / 256) (by omega)
    have hw : IntKind.wrap .u8 ((n : Int).fdiv (2 ^ min 8 64)) = ((n / 256 : Nat) : Int) := by
      have : (n : Int).fdiv (2 ^ min 8 64) = ((n / 256 : Nat) : Int) := by
        have e : ((2 : Int) ^ (min 8 64)) = 256 := by decide
        rw [e, Int.fdiv_eq_ediv_of_nonneg _ (by decide)]; omega
      rw [this, wrap8 (by omega)]
    have ht := Int.toNat_natCast (n / 256)
    have hp : (0 : Int) ≤ ((n / 256 : Nat) : Int) := by omega
    have h0 := h0 (by omega)
    have hbl : b.toNat < 256 := b.toNat_lt
    have w1 : IntKind.wrap .i64 8 = 8 := wrap_of (by omega) (by omega)
    have w2 : IntKind.wrap .i64 (b.toNat : Int) = (b.toNat : Int) := wrap_of (by omega) (by omega)
    have w3 : IntKind.wrap .i64 (8 + (b.toNat : Int)) = 8 + (b.toNat : Int) := wrap_of (by omega) (by omega)
    refine ⟨8 + (b.toNat : Int), by omega, ?_⟩
    refine Runs.of (kit Try.prog) Try.func244 rfl rfl (by rw [Try.ntmps244]; exact of_decide_eq_true rfl) ?_; rw [Try.ntmps244, Try.results244]
    repeat' (first|((first|refine goA rfl fun K hK=>?_|refine goB rfl fun K hK=>?_|refine goC rfl rfl fun K hK=>?_|refine goD rfl rfl fun K hK=>?_);simp (dsimp:=false) only [↓gq,↓stepP,↓stepG,go_sem,c1,c2,c3,hw,ht,hb,hp,w1,w2,w3])|refine Pwp.seq ?_|refine Pwp.block ?_|(refine Pwp.exit ?_;simp only [thenS,blockS,if_true,if_false,reduceIte,Nat.reduceEqDiff,Nat.add_one_ne_zero,reduceCtorEq])|(refine Pwp.skip ?_;simp only [thenS,blockS])|(refine Pwp.cond rfl True.intro (fun h=>?_) (fun h=>?_)<;>(try (cases h;done))<;>(try simp only [h]))|refine Pwp.ret ?_|(refine hK _ ?_;clear hK K)|(refine hK _ _ rfl ?_;clear hK K)|refine CallG.off ?_|with_reducible refine Or.inl ?_|simp only [thenS,blockS]|with_reducible refine And.intro ?_ ?_|with_reducible exact True.intro|simp (dsimp:=false) only [↓gq,↓stepP,↓stepG,go_sem,c1,c2,c3,hw,ht,hb,hp,w1,w2,w3])
    all_goals (try (first|(intro hg;simp [hg];done)|exact of_decide_eq_true rfl|(cases h;done)))
    (refine Fin.data (.inr rfl) (by simp (dsimp:=false) only [↓gq,↓stepP,↓stepG,go_sem,resL]; rfl) (by simp only [and_self]) (by simp (dsimp:=false) only [↓gq,↓stepP,↓stepG,go_sem,resP,Nat.le_refl,List.take_length]; try rfl) ?_)
    exact subD_refl _
  · have c3 : decide ((256 : Int) ≤ (n : Int)) = false := by rw [decide_eq_false_iff_not]; omega
    obtain ⟨b, hb, h0⟩ := bits_at (m := n) (by omega)
    have hw := wrap8 (m := n) (by omega)
    have ht := Int.toNat_natCast n
    have hp : (0 : Int) ≤ (n : Int) := by omega
    have hbl : b.toNat < 256 := b.toNat_lt
    have w2 : IntKind.wrap .i64 (b.toNat : Int) = (b.toNat : Int) := wrap_of (by omega) (by omega)
    have w3 : IntKind.wrap .i64 (0 + (b.toNat : Int)) = (b.toNat : Int) := by rw [Int.zero_add]; exact wrap_of (by omega) (by omega)
    refine ⟨(b.toNat : Int), by omega, ?_⟩
    refine Runs.of (kit Try.prog) Try.func244 rfl rfl (by rw [Try.ntmps244]; exact of_decide_eq_true rfl) ?_; rw [Try.ntmps244, Try.results244]
    repeat' (first|((first|refine goA rfl fun K hK=>?_|refine goB rfl fun K hK=>?_|refine goC rfl rfl fun K hK=>?_|refine goD rfl rfl fun K hK=>?_);simp (dsimp:=false) only [↓gq,↓stepP,↓stepG,go_sem,c1,c2,c3,hw,ht,hb,hp,w2,w3])|refine Pwp.seq ?_|refine Pwp.block ?_|(refine Pwp.exit ?_;simp only [thenS,blockS,if_true,if_false,reduceIte,Nat.reduceEqDiff,Nat.add_one_ne_zero,reduceCtorEq])|(refine Pwp.skip ?_;simp only [thenS,blockS])|(refine Pwp.cond rfl True.intro (fun h=>?_) (fun h=>?_)<;>(try (cases h;done))<;>(try simp only [h]))|refine Pwp.ret ?_|(refine hK _ ?_;clear hK K)|(refine hK _ _ rfl ?_;clear hK K)|refine CallG.off ?_|with_reducible refine Or.inl ?_|simp only [thenS,blockS]|with_reducible refine And.intro ?_ ?_|with_reducible exact True.intro|simp (dsimp:=false) only [↓gq,↓stepP,↓stepG,go_sem,c1,c2,c3,hw,ht,hb,hp,w2,w3])
    all_goals (try (first|(intro hg;simp [hg];done)|exact of_decide_eq_true rfl|(cases h;done)))
    (refine Fin.data (.inr rfl) (by simp (dsimp:=false) only [↓gq,↓stepP,↓stepG,go_sem,resL]; rfl) (by simp only [and_self]) (by simp (dsimp:=false) only [↓gq,↓stepP,↓stepG,go_sem,resP,Nat.le_refl,List.take_length]; try rfl) ?_)
    exact subD_refl _
theorem run199 (n : Nat) (hn : n < 65536) : ∃ k : Int, (0 < n → k ≠ 0) ∧ Runs Try.prog 199 [pint .u64 n] [] (pint .i64 k) [] := by
  obtain ⟨k, h0, r⟩ := run244 n hn
  refine ⟨k, h0, ?_⟩
  refine Runs.of (kit Try.prog) Try.func199 rfl rfl (by rw [Try.ntmps199]; exact of_decide_eq_true rfl) ?_; rw [Try.ntmps199, Try.results199]
  repeat' (first|((first|refine goA rfl fun K hK=>?_|refine goB rfl fun K hK=>?_|refine goC rfl rfl fun K hK=>?_|refine goD rfl rfl fun K hK=>?_);simp (dsimp:=false) only [↓gq,↓stepP,↓stepG,go_sem])|refine Pwp.seq ?_|refine Pwp.block ?_|(refine Pwp.exit ?_;simp only [thenS,blockS,if_true,if_false,reduceIte,Nat.reduceEqDiff,Nat.add_one_ne_zero,reduceCtorEq])|(refine Pwp.skip ?_;simp only [thenS,blockS])|(refine Pwp.cond rfl True.intro (fun h=>?_) (fun h=>?_)<;>(try (cases h;done))<;>(try simp only [h]))|refine Pwp.ret ?_|(refine hK _ ?_;clear hK K)|(refine hK _ _ rfl ?_;clear hK K)|(refine CallK.toD (ds:=[.v (.int .u64 n)]) rfl (r) rfl ?_)|refine CallG.off ?_|with_reducible refine Or.inl ?_|simp only [thenS,blockS]|with_reducible refine And.intro ?_ ?_|with_reducible exact True.intro|simp (dsimp:=false) only [↓gq,↓stepP,↓stepG,go_sem])
  all_goals (try (first|(intro hg;simp [hg];done)|exact of_decide_eq_true rfl|(cases h;done)))
  (refine Fin.data (.inr rfl) (by simp (dsimp:=false) only [↓gq,↓stepP,↓stepG,go_sem,resL]; rfl) (by simp only [and_self]) (by simp (dsimp:=false) only [↓gq,↓stepP,↓stepG,go_sem,resP,Nat.le_refl,List.take_length]; try rfl) ?_)
  exact subD_refl _
def Sorts (l : List Line) : Prop := ∀ k : Int, (0 < l.length → k ≠ 0) → Runs Try.prog 198 [.d (.slc 4 (linesD l)), pint .i64 0, pint .i64 l.length, pint .i64 k, .d cmpD] [] (.d (.tup [])) []
theorem run143 (l : List Line) (hl : l.length ≤ 1000) (hs : Sorts l) : Runs Try.prog 143 [.d (.slc 4 (linesD l)), .d cmpD] [] (.d (.tup [])) [] := by
  have hlen := lines_len l
  obtain ⟨k, h0, r⟩ := run199 l.length (by omega)
  have rs := hs k h0
  have w : IntKind.wrap .u64 (l.length : Int) = (l.length : Int) := by
    have e2 : IntKind.u64.bits = 64 := rfl
    have e5 : IntKind.u64.signed = false := rfl
    have e : ((2 : Int) ^ 64) = 18446744073709551616 := by decide
    unfold IntKind.wrap
    rw [e2, e5, e]
    simp only [Bool.false_and, Bool.false_eq_true, if_false]
    exact Int.emod_eq_of_lt (by omega) (by omega)
  refine Runs.of (kit Try.prog) Try.func143 rfl rfl (by rw [Try.ntmps143]; exact of_decide_eq_true rfl) ?_; rw [Try.ntmps143, Try.results143]
  repeat' (first|((first|refine goA rfl fun K hK=>?_|refine goB rfl fun K hK=>?_|refine goC rfl rfl fun K hK=>?_|refine goD rfl rfl fun K hK=>?_);simp (dsimp:=false) only [↓gq,↓stepP,↓stepG,go_sem,hlen,w])|refine Pwp.seq ?_|refine Pwp.block ?_|(refine Pwp.exit ?_;simp only [thenS,blockS,if_true,if_false,reduceIte,Nat.reduceEqDiff,Nat.add_one_ne_zero,reduceCtorEq])|(refine Pwp.skip ?_;simp only [thenS,blockS])|(refine Pwp.cond rfl True.intro (fun h=>?_) (fun h=>?_)<;>(try (cases h;done))<;>(try simp only [h]))|refine Pwp.ret ?_|(refine hK _ ?_;clear hK K)|(refine hK _ _ rfl ?_;clear hK K)|(refine CallK.toD (ds:=[.v (.int .u64 l.length)]) rfl (r) rfl ?_)|(refine CallK.toD (ds:=[.slc 4 (linesD l), I64 0, I64 l.length, I64 k, cmpD]) rfl (rs) rfl ?_)|refine CallG.off ?_|with_reducible refine Or.inl ?_|simp only [thenS,blockS]|with_reducible refine And.intro ?_ ?_|with_reducible exact True.intro|simp (dsimp:=false) only [↓gq,↓stepP,↓stepG,go_sem,hlen,w])
  all_goals (try (first|(intro hg;simp [hg];done)|exact of_decide_eq_true rfl|(cases h;done)))
  (refine Fin.data (.inl rfl) (by simp (dsimp:=false) only [↓gq,↓stepP,↓stepG,go_sem,resL]; rfl) (by simp only [and_self]) (by simp (dsimp:=false) only [↓gq,↓stepP,↓stepG,go_sem,resP,Nat.le_refl,List.take_length]; try rfl) ?_)
  exact subD_refl _
def offersD (offs : List (List Line)) : List D := offs.map fun o => .slc 4 (linesD o)
theorem offers_len (offs : List (List Line)) : (offersD offs).length = offs.length := by simp [offersD]
theorem offers_get {offs : List (List Line)} {i : Nat} {o : List Line} (h : offs[i]? = some o) : (offersD offs)[i]? = some (.slc 4 (linesD o)) := by simp [offersD, h]
theorem offers_none {offs : List (List Line)} {i : Nat} (h : offs.length ≤ i) : (offersD offs)[i]? = none := by simp [offersD]; omega
def offered (offs : List (List Line)) (me : Nat) (x : Line) : Bool := ((((x.seller == (me : Int) && decide (0 ≤ x.buyer)) && decide (x.buyer < (offs.length : Int))) && x.buyer != (me : Int)) && decide (x ∈ offs.getD x.buyer.toNat []))
def bothR (offs : List (List Line)) : Nat → List (List Line) → List Line
  | _, [] => []
  | me, o :: os => o.filter (offered offs me) ++ bothR offs (me + 1) os
def bothL (offs : List (List Line)) : List Line := bothR offs 0 offs
theorem bothR_snoc (offs : List (List Line)) (o : List Line) : ∀ (os : List (List Line)) (me : Nat), bothR offs me (os ++ [o]) = bothR offs me os ++ o.filter (offered offs (me + os.length))
  | [], me => by simp [bothR]
  | p :: os, me => by
    simp only [List.cons_append, bothR, bothR_snoc offs o os (me + 1), List.append_assoc, List.length_cons]
    rw [show me + 1 + os.length = me + (os.length + 1) by omega]
theorem bothR_take {offs : List (List Line)} {i : Nat} {o : List Line} (h : offs[i]? = some o) : bothR offs 0 (offs.take (i + 1)) = bothR offs 0 (offs.take i) ++ o.filter (offered offs i) := by
  have hi := (List.getElem?_eq_some_iff.1 h).1
  rw [List.take_add_one, h]
  simp only [Option.toList]
  rw [bothR_snoc, List.length_take, Nat.min_eq_left (by omega), Nat.zero_add]
def bothI (offs : List (List Line)) (i : Nat) (o : List Line) (k : Nat) : List Line := bothR offs 0 (offs.take i) ++ (o.take k).filter (offered offs i)
theorem bothI_succ (offs : List (List Line)) (i : Nat) {o : List Line} {k : Nat} {x : Line} (h : o[k]? = some x) : bothI offs i o (k + 1) = bothI offs i o k ++ if offered offs i x = true then [x] else [] := by
  unfold bothI
  rw [List.take_add_one, h]
  simp only [Option.toList, List.filter_append, List.append_assoc]
  congr 2
  simp only [List.filter_cons, List.filter_nil]
def sumLen : List (List Line) → Nat
  | [] => 0
  | o :: os => o.length + sumLen os
theorem both_len (offs : List (List Line)) : ∀ (os : List (List Line)) (me : Nat), (bothR offs me os).length ≤ sumLen os
  | [], me => Nat.le_refl _
  | o :: os, me => by
    have h1 := both_len offs os (me + 1)
    have h2 := List.length_filter_le (offered offs me) o
    simp only [bothR, List.length_append, sumLen]; omega
theorem sumLen_take : ∀ {os : List (List Line)} {i : Nat} {o : List Line}, os[i]? = some o → sumLen (os.take i) + o.length ≤ sumLen os
  | [], i, o, h => by simp at h
  | p :: os, 0, o, h => by simp at h; subst h; simp [sumLen]
  | p :: os, i + 1, o, h => by
    have := sumLen_take (os := os) (i := i) (o := o) (by simpa using h)
    simp only [List.take_succ_cons, sumLen]; omega
theorem bothI_len {offs : List (List Line)} {i : Nat} {o : List Line} (h : offs[i]? = some o) (k : Nat) : (bothI offs i o k).length ≤ sumLen offs := by
  have h1 := both_len offs (offs.take i) 0
  have h2 := List.length_filter_le (offered offs i) (o.take k)
  have h3 := sumLen_take h
  rw [List.length_take] at h2
  unfold bothI
  rw [List.length_append]; omega
def L85a (offs : List (List Line)) (i : Nat) : St := ⟨[(10, pint .i64 i), (9, pint .i64 offs.length), (8, .d (.slc 1 (offersD offs))), (3, .own 12 0 4 0 (bothR offs 0 (offs.take i)).length), (0, .d (.slc 1 (offersD offs)))],
  [(12, .arr 142 4 0 none (linesD (bothR offs 0 (offs.take i))))], 28⟩
def L85b (offs : List (List Line)) (i : Nat) (o : List Line) (k : Nat) : St := ⟨[(17, pint .i64 k), (16, pint .i64 o.length), (15, .d (.slc 4 (linesD o))), (10, pint .i64 i), (9, pint .i64 offs.length), (8, .d (.slc 1 (offersD offs))), (4, pint .i64 i), (3, .own 12 0 4 0 (bothI offs i o k).length), (0, .d (.slc 1 (offersD offs)))],
  [(12, .arr 142 4 0 none (linesD (bothI offs i o k)))], 64⟩
theorem lines_append (l m : List Line) : linesD (l ++ m) = linesD l ++ linesD m := by simp [linesD]
set_option maxHeartbeats 16000000 in
theorem run85 (offs : List (List Line)) (ho : offs.length ≤ 100) (hl : sumLen offs ≤ 1000) (hs : Sorts (bothL offs)) (hio : InOrd (bothL offs)) : Runs Try.prog 85 [.d (.slc 1 (offersD offs))] [] (.d (.slc 4 (linesD (bothL offs)))) [] := by
  have hlen := offers_len offs
  refine Runs.of (kit Try.prog) Try.func85 rfl rfl (by rw [Try.ntmps85]; exact of_decide_eq_true rfl) ?_; rw [Try.ntmps85, Try.results85]
  repeat' (first|((first|refine goA rfl fun K hK=>?_|refine goB rfl fun K hK=>?_|refine goC rfl rfl fun K hK=>?_|refine goD rfl rfl fun K hK=>?_);simp (dsimp:=false) only [↓gq,↓stepP,↓stepG,go_sem,hlen])|refine Pwp.seq ?_|refine Pwp.block ?_|(refine Pwp.exit ?_;simp only [thenS,blockS,if_true,if_false,reduceIte,Nat.reduceEqDiff,Nat.add_one_ne_zero,reduceCtorEq])|(refine Pwp.skip ?_;simp only [thenS,blockS])|(refine Pwp.cond rfl True.intro (fun h=>?_) (fun h=>?_)<;>(try (cases h;done))<;>(try simp only [h]))|refine Pwp.ret ?_|(refine hK _ ?_;clear hK K)|(refine hK _ _ rfl ?_;clear hK K)|refine CallG.off ?_|with_reducible refine Or.inl ?_|simp only [thenS,blockS]|with_reducible refine And.intro ?_ ?_|with_reducible exact True.intro|simp (dsimp:=false) only [↓gq,↓stepP,↓stepG,go_sem,hlen])
  all_goals (try (first|(intro hg;simp [hg];done)|exact of_decide_eq_true rfl|(cases h;done)))
  refine Pwp.range offs.length (S := L85a offs) (Sub.view (VN 12) (by simp [L85a]) rfl (by simp [L85a,bothR,linesD]) (by simp [L85a,bothR,linesD])) (fun i hi => ?_) ?_
  · obtain ⟨o, hx, hm⟩ := at_lt hi
    have hg := offers_get hx
    have c1 := dlt hi
    have w := wrap_succ (i := i) (by omega)
    have hlo := lines_len o
    have hlo2 := sumLen_take hx
    unfold L85a
    repeat' (first|((first|refine goA rfl fun K hK=>?_|refine goB rfl fun K hK=>?_|refine goC rfl rfl fun K hK=>?_|refine goD rfl rfl fun K hK=>?_);simp (dsimp:=false) only [↓gq,↓stepP,↓stepG,go_sem,hg,c1,hlo,hlen])|refine Pwp.seq ?_|refine Pwp.block ?_|(refine Pwp.exit ?_;simp only [thenS,blockS,if_true,if_false,reduceIte,Nat.reduceEqDiff,Nat.add_one_ne_zero,reduceCtorEq])|(refine Pwp.skip ?_;simp only [thenS,blockS])|(refine Pwp.cond rfl True.intro (fun h=>?_) (fun h=>?_)<;>(try (cases h;done))<;>(try simp only [h]))|refine Pwp.ret ?_|(refine hK _ ?_;clear hK K)|(refine hK _ _ rfl ?_;clear hK K)|refine CallG.off ?_|with_reducible refine Or.inl ?_|simp only [thenS,blockS]|with_reducible refine And.intro ?_ ?_|with_reducible exact True.intro|simp (dsimp:=false) only [↓gq,↓stepP,↓stepG,go_sem,hg,c1,hlo,hlen])
    all_goals (try (first|(intro hg;simp [hg];done)|exact of_decide_eq_true rfl|(cases h;done)))
    refine Pwp.range o.length (S := L85b offs i o) (Sub.view V0 (by simp [L85b]) rfl (by simp [L85b,bothI]) (by simp [L85b,bothI])) (fun k hk => ?_) ?_
    · obtain ⟨x, hxk, hxm⟩ := at_lt hk
      have hgk := lines_get hxk
      have c2 := dlt hk
      have w2 := wrap_succ (i := k) (by omega)
      have hsucc := bothI_succ offs i hxk
      have hll := lines_len (bothI offs i o k)
      have hol := bothI_len hx k
      have htk : (linesD (bothI offs i o k)).take (bothI offs i o k).length = linesD (bothI offs i o k) := List.take_of_length_le (by omega)
      unfold L85b
      by_cases hb : x.buyer < 0
      · have c3 : decide (0 ≤ x.buyer) = false := by rw [decide_eq_false_iff_not]; omega
        have ho0 : x.buyer.toNat = 0 := by omega
        obtain ⟨p, hp, _⟩ := at_lt (l := offs) (i := 0) (by omega)
        have hgp := offers_get hp
        have hf : offered offs i x = false := by simp [offered, c3]
        rw [hf, if_neg (by simp), List.append_nil] at hsucc
        repeat' (first|((first|refine goA rfl fun K hK=>?_|refine goB rfl fun K hK=>?_|refine goC rfl rfl fun K hK=>?_|refine goD rfl rfl fun K hK=>?_);simp (dsimp:=false) only [↓gq,↓stepP,↓stepG,go_sem,hgk,c2,w2,hlo,hlen,c3,ho0,hgp,Bool.and_false,Bool.false_and])|refine Pwp.seq ?_|refine Pwp.block ?_|(refine Pwp.exit ?_;simp only [thenS,blockS,if_true,if_false,reduceIte,Nat.reduceEqDiff,Nat.add_one_ne_zero,reduceCtorEq])|(refine Pwp.skip ?_;simp only [thenS,blockS])|(refine Pwp.cond rfl True.intro (fun h=>?_) (fun h=>?_)<;>(try (cases h;done))<;>(try simp only [h]))|refine Pwp.ret ?_|(refine hK _ ?_;clear hK K)|(refine hK _ _ rfl ?_;clear hK K)|(refine CallG.offB ?_)|refine CallG.off ?_|with_reducible refine Or.inl ?_|simp only [thenS,blockS]|with_reducible refine And.intro ?_ ?_|with_reducible exact True.intro|simp (dsimp:=false) only [↓gq,↓stepP,↓stepG,go_sem,hgk,c2,w2,hlo,hlen,c3,ho0,hgp,Bool.and_false,Bool.false_and])
        all_goals (try (first|(intro hg;simp [hg];done)|exact of_decide_eq_true rfl|(cases h;done)))
        exact Sub.view V0 (by simp [L85b]) rfl (by simp [L85b,hsucc]) (by simp [L85b,hsucc])
      · have c3 : decide (0 ≤ x.buyer) = true := by rw [decide_eq_true_eq]; omega
        by_cases hn : x.buyer < offs.length
        · have c4 : decide (x.buyer < (offs.length : Int)) = true := decide_eq_true hn
          obtain ⟨p, hp, _⟩ := at_lt (l := offs) (i := x.buyer.toNat) (by omega)
          have hgp := offers_get hp
          have hD : offs.getD x.buyer.toNat [] = p := by rw [List.getD_eq_getElem?_getD, hp]; rfl
          have hpl := sumLen_take hp
          have r142 := run142 p x (by omega)
          cases hf : offered offs i x with
          | true =>
            rw [hf, if_pos rfl] at hsucc
            unfold offered at hf
            rw [hD, c3, c4, Bool.and_true, Bool.and_true] at hf
            repeat' (first|((first|refine goA rfl fun K hK=>?_|refine goB rfl fun K hK=>?_|refine goC rfl rfl fun K hK=>?_|refine goD rfl rfl fun K hK=>?_);simp (dsimp:=false) only [↓gq,↓stepP,↓stepG,go_sem,hgk,c2,w2,hlo,hlen,c3,c4,hgp,hf,htk,hll,Bool.and_true])|refine Pwp.seq ?_|refine Pwp.block ?_|(refine Pwp.exit ?_;simp only [thenS,blockS,if_true,if_false,reduceIte,Nat.reduceEqDiff,Nat.add_one_ne_zero,reduceCtorEq])|(refine Pwp.skip ?_;simp only [thenS,blockS])|(refine Pwp.cond rfl True.intro (fun h=>?_) (fun h=>?_)<;>(try (cases h;done))<;>(try simp only [h]))|refine Pwp.ret ?_|(refine hK _ ?_;clear hK K)|(refine hK _ _ rfl ?_;clear hK K)|(refine CallG.toD (ds:=[.slc 4 (linesD p), x.d]) rfl (r142) rfl ?_ ?_)|refine CallG.off ?_|with_reducible refine Or.inl ?_|simp only [thenS,blockS]|with_reducible refine And.intro ?_ ?_|with_reducible exact True.intro|simp (dsimp:=false) only [↓gq,↓stepP,↓stepG,go_sem,hgk,c2,w2,hlo,hlen,c3,c4,hgp,hf,htk,hll,Bool.and_true])
            all_goals (try (first|(intro hg;simp [hg];done)|exact of_decide_eq_true rfl|(cases h;done)))
            all_goals (try (first | exact fun hg => ⟨hg, by omega⟩ | (simp; done) | (simp [maxLen]; omega) | omega))
            exact Sub.view (VR 12 1) (by simp [L85b]) rfl (by simp [L85b,hsucc,lines_append,linesD,Line.d,Line.cells]) (by simp [L85b,hsucc,lines_append,linesD,Line.d,Line.cells])
          | false =>
            rw [hf, if_neg (by simp), List.append_nil] at hsucc
            unfold offered at hf
            rw [hD, c3, c4, Bool.and_true, Bool.and_true] at hf
            repeat' (first|((first|refine goA rfl fun K hK=>?_|refine goB rfl fun K hK=>?_|refine goC rfl rfl fun K hK=>?_|refine goD rfl rfl fun K hK=>?_);simp (dsimp:=false) only [↓gq,↓stepP,↓stepG,go_sem,hgk,c2,w2,hlo,hlen,c3,c4,hgp,hf,Bool.and_true])|refine Pwp.seq ?_|refine Pwp.block ?_|(refine Pwp.exit ?_;simp only [thenS,blockS,if_true,if_false,reduceIte,Nat.reduceEqDiff,Nat.add_one_ne_zero,reduceCtorEq])|(refine Pwp.skip ?_;simp only [thenS,blockS])|(refine Pwp.cond rfl True.intro (fun h=>?_) (fun h=>?_)<;>(try (cases h;done))<;>(try simp only [h]))|refine Pwp.ret ?_|(refine hK _ ?_;clear hK K)|(refine hK _ _ rfl ?_;clear hK K)|(refine CallG.toD (ds:=[.slc 4 (linesD p), x.d]) rfl (r142) rfl ?_ ?_)|refine CallG.off ?_|with_reducible refine Or.inl ?_|simp only [thenS,blockS]|with_reducible refine And.intro ?_ ?_|with_reducible exact True.intro|simp (dsimp:=false) only [↓gq,↓stepP,↓stepG,go_sem,hgk,c2,w2,hlo,hlen,c3,c4,hgp,hf,Bool.and_true])
            all_goals (try (first|(intro hg;simp [hg];done)|exact of_decide_eq_true rfl|(cases h;done)))
            all_goals (try (first | exact fun hg => ⟨hg, by omega⟩ | (simp; done) | (simp [maxLen]; omega) | omega))
            exact Sub.view V0 (by simp [L85b]) rfl (by simp [L85b,hsucc]) (by simp [L85b,hsucc])
        · have c4 : decide (x.buyer < (offs.length : Int)) = false := decide_eq_false hn
          have hgp := offers_none (offs := offs) (i := x.buyer.toNat) (by omega)
          have hf : offered offs i x = false := by simp [offered, c4]
          rw [hf, if_neg (by simp), List.append_nil] at hsucc
          repeat' (first|((first|refine goA rfl fun K hK=>?_|refine goB rfl fun K hK=>?_|refine goC rfl rfl fun K hK=>?_|refine goD rfl rfl fun K hK=>?_);simp (dsimp:=false) only [↓gq,↓stepP,↓stepG,go_sem,hgk,c2,w2,hlo,hlen,c3,c4,hgp,Bool.and_false,Bool.false_and])|refine Pwp.seq ?_|refine Pwp.block ?_|(refine Pwp.exit ?_;simp only [thenS,blockS,if_true,if_false,reduceIte,Nat.reduceEqDiff,Nat.add_one_ne_zero,reduceCtorEq])|(refine Pwp.skip ?_;simp only [thenS,blockS])|(refine Pwp.cond rfl True.intro (fun h=>?_) (fun h=>?_)<;>(try (cases h;done))<;>(try simp only [h]))|refine Pwp.ret ?_|(refine hK _ ?_;clear hK K)|(refine hK _ _ rfl ?_;clear hK K)|(refine CallG.offB ?_)|refine CallG.off ?_|with_reducible refine Or.inl ?_|simp only [thenS,blockS]|with_reducible refine And.intro ?_ ?_|with_reducible exact True.intro|simp (dsimp:=false) only [↓gq,↓stepP,↓stepG,go_sem,hgk,c2,w2,hlo,hlen,c3,c4,hgp,Bool.and_false,Bool.false_and])
          all_goals (try (first|(intro hg;simp [hg];done)|exact of_decide_eq_true rfl|(cases h;done)))
          exact Sub.view V0 (by simp [L85b]) rfl (by simp [L85b,hsucc]) (by simp [L85b,hsucc])
    · have c2 := dge (Nat.le_refl o.length)
      have hend : bothI offs i o o.length = bothR offs 0 (offs.take (i + 1)) := by unfold bothI; rw [List.take_length, bothR_take hx]
      unfold L85b
      rw [hend]
      repeat' (first|((first|refine goA rfl fun K hK=>?_|refine goB rfl fun K hK=>?_|refine goC rfl rfl fun K hK=>?_|refine goD rfl rfl fun K hK=>?_);simp (dsimp:=false) only [↓gq,↓stepP,↓stepG,go_sem,c2,w])|refine Pwp.seq ?_|refine Pwp.block ?_|(refine Pwp.exit ?_;simp only [thenS,blockS,if_true,if_false,reduceIte,Nat.reduceEqDiff,Nat.add_one_ne_zero,reduceCtorEq])|(refine Pwp.skip ?_;simp only [thenS,blockS])|(refine Pwp.cond rfl True.intro (fun h=>?_) (fun h=>?_)<;>(try (cases h;done))<;>(try simp only [h]))|refine Pwp.ret ?_|(refine hK _ ?_;clear hK K)|(refine hK _ _ rfl ?_;clear hK K)|refine CallG.off ?_|with_reducible refine Or.inl ?_|simp only [thenS,blockS]|with_reducible refine And.intro ?_ ?_|with_reducible exact True.intro|simp (dsimp:=false) only [↓gq,↓stepP,↓stepG,go_sem,c2,w])
      all_goals (try (first|(intro hg;simp [hg];done)|exact of_decide_eq_true rfl|(cases h;done)))
      exact Sub.view V0 (by simp [L85a]) rfl (by simp [L85a]) (by simp [L85a])
  · have c1 := dge (Nat.le_refl offs.length)
    have hend : bothR offs 0 (offs.take offs.length) = bothL offs := by rw [List.take_length]; rfl
    have hbl : (bothL offs).length ≤ 1000 := by have := both_len offs offs 0; unfold bothL; omega
    have hll := lines_len (bothL offs)
    have htk : (linesD (bothL offs)).take (bothL offs).length = linesD (bothL offs) := List.take_of_length_le (by omega)
    have r143 := run143 (bothL offs) hbl hs
    have r144 := run144 (bothL offs) hbl hio
    unfold L85a
    rw [hend]
    repeat' (first|((first|refine goA rfl fun K hK=>?_|refine goB rfl fun K hK=>?_|refine goC rfl rfl fun K hK=>?_|refine goD rfl rfl fun K hK=>?_);simp (dsimp:=false) only [↓gq,↓stepP,↓stepG,go_sem,c1])|refine Pwp.seq ?_|refine Pwp.block ?_|(refine Pwp.exit ?_;simp only [thenS,blockS,if_true,if_false,reduceIte,Nat.reduceEqDiff,Nat.add_one_ne_zero,reduceCtorEq])|(refine Pwp.skip ?_;simp only [thenS,blockS])|(refine Pwp.cond rfl True.intro (fun h=>?_) (fun h=>?_)<;>(try (cases h;done))<;>(try simp only [h]))|refine Pwp.ret ?_|(refine hK _ ?_;clear hK K)|(refine hK _ _ rfl ?_;clear hK K)|(refine CallK.toD (ds:=[.slc 4 (linesD (bothL offs)), cmpD]) (by simp [toDL, PVal.toD, find, htk, hll]) r143 rfl ?_)|(refine CallK.giveO rfl hll.symm r144 (by simp) ?_)|refine CallG.off ?_|with_reducible refine Or.inl ?_|simp only [thenS,blockS]|with_reducible refine And.intro ?_ ?_|with_reducible exact True.intro|simp (dsimp:=false) only [↓gq,↓stepP,↓stepG,go_sem,c1])
    all_goals (try (first|(intro hg;simp [hg];done)|exact of_decide_eq_true rfl|(cases h;done)))
    (refine Fin.data (.inr rfl) (by simp (dsimp:=false) only [↓gq,↓stepP,↓stepG,go_sem,resL]; rfl) (by simp only [and_self]) (by simp (dsimp:=false) only [↓gq,↓stepP,↓stepG,go_sem,resP,Nat.le_refl,List.take_length]; try rfl) ?_)
    exact subD_refl _
end Go.Proofs.Ytdodgbhodkcckaa.Pv
end
section
set_option linter.unusedVariables false
set_option linter.unusedSimpArgs false
set_option autoImplicit false
set_option maxRecDepth 100000
namespace Go.Proofs.Ytdodgbhodkcckaa.Pv
open Go Go.RowKit
theorem shiftL_ds (ρ : Nat → Nat) : ∀ l : List D, shiftL ρ (l.map .d) = l.map .d
  | [] => rfl
  | a :: l => by simp only [List.map_cons, shiftL, PVal.shift, shiftL_ds ρ l]
theorem argsP_ds {h : List (Nat × PObj)} {ρ : Nat → Nat} {qs ps : List PVal} (hq : argsP h ρ qs ps) : ∀ l : List D, argsP h ρ (l.map .d ++ qs) (l.map .d ++ ps)
  | [] => hq
  | a :: l => by
    simp only [List.map_cons, List.cons_append, argsP]
    exact ⟨by simp [argP, PVal.toD, subD_refl], argsP_ds hq l⟩
theorem frozen_ds {qs ps : List PVal} (hq : frozen qs ps = []) : ∀ l : List D, frozen (l.map .d ++ qs) (l.map .d ++ ps) = []
  | [] => hq
  | a :: l => by
    simp only [List.map_cons, List.cons_append, frozen, PVal.ids, List.nil_append]
    exact frozen_ds hq l
theorem CallK.captL {P : Program} {fid : Nat} {nid : Nat → Nat} {st : St} {K : Eff → Prop} {pre post : List D} {r : D} {id : Nat} {cs : List D} (hr : Runs P fid (pre.map .d ++ .ref 0 0 :: post.map .d) [(0, .box (cs.map .d))] (.d r) [(0, .box (cs.map .d))]) (hf : find id st.heap = some (.box (cs.map .d)))
    (hK : K ⟨.d r, [id], [(id, .box (cs.map .d))]⟩) : CallK P fid nid st (pre.map .d ++ .ref id 0 :: post.map .d) K := by
  have e1 : ∀ ρ : Nat → Nat, argsP st.heap ρ (post.map .d) (post.map .d) := fun ρ => by
    have := argsP_ds (h := st.heap) (ρ := ρ) (qs := []) (ps := []) (by simp [argsP]) post
    simpa using this
  have e2 : frozen (post.map .d) (post.map .d) = [] := by
    have := frozen_ds (qs := []) (ps := []) rfl post
    simpa using this
  have e3 : frozen (pre.map .d ++ .ref id 0 :: post.map .d) (pre.map .d ++ .ref 0 0 :: post.map .d) = [] := frozen_ds (by simp only [frozen]; exact e2) pre
  refine ⟨[id], _, _, _, _, false, ?_, hr, ⟨by simp, by simp, rfl, ?_⟩, ⟨by simp, by simp [e3]⟩, .inr (.inl (by simp [e3])), ?_⟩
  · refine argsP_ds ?_ pre
    simp only [argsP]
    exact ⟨by simp [argP, PVal.shift, rename], e1 _⟩
  · simp [PObj.shift, shiftL_ds, hf]
  · simpa [PVal.shift, shiftH, PObj.shift, shiftL_ds, rename] using hK
theorem ahead_trans {x y z : Line} (h1 : ahead x y = true) (h2 : ahead y z = true) : ahead x z = true := by
  unfold ahead at *
  simp only [Bool.or_eq_true, decide_eq_true_eq, Bool.and_eq_true, beq_iff_eq] at *
  omega
theorem ord_far {l : List Line} (ho : InOrd l) {i : Nat} {x : Line} (hx : l[i]? = some x) : ∀ (d : Nat) {y : Line}, l[i + 1 + d]? = some y → ahead x y = true
  | 0, y, hy => ho i x y hx hy
  | d + 1, y, hy => by
    have hlt : i + 1 + d < l.length := by have := (List.getElem?_eq_some_iff.1 hy).1; omega
    have hz : l[i + 1 + d]? = some l[i + 1 + d] := List.getElem?_eq_getElem hlt
    exact ahead_trans (ord_far ho hx d hz) (ho (i + 1 + d) _ y hz hy)
theorem ord_lt {l : List Line} (ho : InOrd l) {i j : Nat} (hij : i < j) {x y : Line} (hx : l[i]? = some x) (hy : l[j]? = some y) : ahead x y = true :=
  ord_far ho hx (j - i - 1) (by rw [show i + 1 + (j - i - 1) = j by omega]; exact hy)
set_option maxHeartbeats 8000000 in
theorem run260 (l : List Line) (ho : InOrd l) (a b : Nat) (hab : a < b) (hb : b < l.length) : Runs Try.prog 260 [.d (.slc 4 (linesD l)), pint .i64 a, pint .i64 b, .ref 0 0, .d cmpD] [(0, .box [.d (I64 0)])] (.d (.tup [I64 a, I64 b])) [(0, .box [.d (I64 0)])] := by
  obtain ⟨x, hx, _⟩ := at_lt (l := l) (i := a) (by omega)
  obtain ⟨y, hy, _⟩ := at_lt hb
  have hgx := lines_get hx
  have hgy := lines_get hy
  have hnb := not_back (ord_lt ho hab hx hy)
  have r139 := run139 y x
  have ta := Int.toNat_natCast a
  have tb := Int.toNat_natCast b
  have pa : (0 : Int) ≤ (a : Int) := by omega
  have pb : (0 : Int) ≤ (b : Int) := by omega
  refine Runs.of (kit Try.prog) Try.func260 rfl rfl (by rw [Try.ntmps260]; exact of_decide_eq_true rfl) ?_; rw [Try.ntmps260, Try.results260]
  repeat' (first|((first|refine goA rfl fun K hK=>?_|refine goB rfl fun K hK=>?_|refine goC rfl rfl fun K hK=>?_|refine goD rfl rfl fun K hK=>?_);simp (dsimp:=false) only [↓gq,↓stepP,↓stepG,go_sem,hgx,hgy,hnb,ta,tb,pa,pb])|refine Pwp.seq ?_|refine Pwp.block ?_|(refine Pwp.exit ?_;simp only [thenS,blockS,if_true,if_false,reduceIte,Nat.reduceEqDiff,Nat.add_one_ne_zero,reduceCtorEq])|(refine Pwp.skip ?_;simp only [thenS,blockS])|(refine Pwp.cond rfl True.intro (fun h=>?_) (fun h=>?_)<;>(try (cases h;done))<;>(try simp only [h]))|refine Pwp.ret ?_|(refine hK _ ?_;clear hK K)|(refine hK _ _ rfl ?_;clear hK K)|(refine CallK.toD (ds:=[y.d, x.d]) rfl (r139) rfl ?_)|refine CallG.off ?_|with_reducible refine Or.inl ?_|simp only [thenS,blockS]|with_reducible refine And.intro ?_ ?_|with_reducible exact True.intro|simp (dsimp:=false) only [↓gq,↓stepP,↓stepG,go_sem,hgx,hgy,hnb,ta,tb,pa,pb])
  all_goals (try (first|(intro hg;simp [hg];done)|exact of_decide_eq_true rfl|(cases h;done)))
  refine Fin.dataV V0 (.inr rfl) (by simp (dsimp:=false) only [↓gq,↓stepP,↓stepG,go_sem,resL]; rfl) (by simp only [and_self]) rfl (by simp [viewH, viewP, viewL, viewO, V0, keptOf, find, PVal.toD, subD_refl, disj, PVal.ids]) (by simp [resP, viewP, V0, keptOf, find, PVal.toD, toDL, subD, subD_refl, subL, subV, disj, PVal.ids, idsL])
set_option maxHeartbeats 8000000 in
theorem run257 (l : List Line) (ho : InOrd l) (a b c : Nat) (hab : a < b) (hbc : b < c) (hc : c < l.length) : Runs Try.prog 257 [.d (.slc 4 (linesD l)), pint .i64 a, pint .i64 b, pint .i64 c, .ref 0 0, .d cmpD] [(0, .box [.d (I64 0)])] (pint .i64 b) [(0, .box [.d (I64 0)])] := by
  have r1 := run260 l ho a b hab (by omega)
  have r2 := run260 l ho b c hbc hc
  refine Runs.of (kit Try.prog) Try.func257 rfl rfl (by rw [Try.ntmps257]; exact of_decide_eq_true rfl) ?_; rw [Try.ntmps257, Try.results257]
  repeat' (first|((first|refine goA rfl fun K hK=>?_|refine goB rfl fun K hK=>?_|refine goC rfl rfl fun K hK=>?_|refine goD rfl rfl fun K hK=>?_);simp (dsimp:=false) only [↓gq,↓stepP,↓stepG,go_sem])|refine Pwp.seq ?_|refine Pwp.block ?_|(refine Pwp.exit ?_;simp only [thenS,blockS,if_true,if_false,reduceIte,Nat.reduceEqDiff,Nat.add_one_ne_zero,reduceCtorEq])|(refine Pwp.skip ?_;simp only [thenS,blockS])|(refine Pwp.cond rfl True.intro (fun h=>?_) (fun h=>?_)<;>(try (cases h;done))<;>(try simp only [h]))|refine Pwp.ret ?_|(refine hK _ ?_;clear hK K)|(refine hK _ _ rfl ?_;clear hK K)|(refine CallK.captL (pre:=[.slc 4 (linesD l), I64 a, I64 b]) (post:=[cmpD]) (cs:=[I64 0]) r1 rfl ?_)|(refine CallK.captL (pre:=[.slc 4 (linesD l), I64 b, I64 c]) (post:=[cmpD]) (cs:=[I64 0]) r2 rfl ?_)|refine CallG.off ?_|with_reducible refine Or.inl ?_|simp only [thenS,blockS]|with_reducible refine And.intro ?_ ?_|with_reducible exact True.intro|simp (dsimp:=false) only [↓gq,↓stepP,↓stepG,go_sem])
  all_goals (try (first|(intro hg;simp [hg];done)|exact of_decide_eq_true rfl|(cases h;done)))
  refine Fin.dataV V0 (.inr rfl) (by simp (dsimp:=false) only [↓gq,↓stepP,↓stepG,go_sem,resL]; rfl) (by simp only [and_self]) rfl (by simp [viewH, viewP, viewL, viewO, V0, keptOf, find, PVal.toD, subD_refl, disj, PVal.ids]) (by simp [resP, viewP, V0, keptOf, find, PVal.toD, subD_refl, disj, PVal.ids])
set_option maxHeartbeats 8000000 in
theorem run256 (l : List Line) (ho : InOrd l) (a : Nat) (h1 : 1 ≤ a) (h2 : a + 1 < l.length) (hl : l.length ≤ 1000) : Runs Try.prog 256 [.d (.slc 4 (linesD l)), pint .i64 a, .ref 0 0, .d cmpD] [(0, .box [.d (I64 0)])] (pint .i64 a) [(0, .box [.d (I64 0)])] := by
  have r1 := run257 l ho (a - 1) a (a + 1) (by omega) (by omega) h2
  have w1 : IntKind.wrap .i64 ((a : Int) - 1) = ((a - 1 : Nat) : Int) := by rw [wrap_of (by omega) (by omega)]; omega
  have w2 := wrap_succ (i := a) (by omega)
  refine Runs.of (kit Try.prog) Try.func256 rfl rfl (by rw [Try.ntmps256]; exact of_decide_eq_true rfl) ?_; rw [Try.ntmps256, Try.results256]
  repeat' (first|((first|refine goA rfl fun K hK=>?_|refine goB rfl fun K hK=>?_|refine goC rfl rfl fun K hK=>?_|refine goD rfl rfl fun K hK=>?_);simp (dsimp:=false) only [↓gq,↓stepP,↓stepG,go_sem,w1,w2])|refine Pwp.seq ?_|refine Pwp.block ?_|(refine Pwp.exit ?_;simp only [thenS,blockS,if_true,if_false,reduceIte,Nat.reduceEqDiff,Nat.add_one_ne_zero,reduceCtorEq])|(refine Pwp.skip ?_;simp only [thenS,blockS])|(refine Pwp.cond rfl True.intro (fun h=>?_) (fun h=>?_)<;>(try (cases h;done))<;>(try simp only [h]))|refine Pwp.ret ?_|(refine hK _ ?_;clear hK K)|(refine hK _ _ rfl ?_;clear hK K)|(refine CallK.captL (pre:=[.slc 4 (linesD l), I64 (a - 1 : Nat), I64 a, I64 (a + 1 : Nat)]) (post:=[cmpD]) (cs:=[I64 0]) r1 rfl ?_)|refine CallG.off ?_|with_reducible refine Or.inl ?_|simp only [thenS,blockS]|with_reducible refine And.intro ?_ ?_|with_reducible exact True.intro|simp (dsimp:=false) only [↓gq,↓stepP,↓stepG,go_sem,w1,w2])
  all_goals (try (first|(intro hg;simp [hg];done)|exact of_decide_eq_true rfl|(cases h;done)))
  refine Fin.dataV V0 (.inr rfl) (by simp (dsimp:=false) only [↓gq,↓stepP,↓stepG,go_sem,resL]; rfl) (by simp only [and_self]) rfl (by simp [viewH, viewP, viewL, viewO, V0, keptOf, find, PVal.toD, subD_refl, disj, PVal.ids]) (by simp [resP, viewP, V0, keptOf, find, PVal.toD, subD_refl, disj, PVal.ids])
set_option maxHeartbeats 8000000 in
theorem run238 (l : List Line) (ho : InOrd l) (h13 : 13 ≤ l.length) (hl : l.length ≤ 1000) : Runs Try.prog 238 [.d (.slc 4 (linesD l)), pint .i64 0, pint .i64 l.length, .d cmpD] [] (.d (.tup [I64 (2 * (l.length / 4) : Nat), I64 1])) [] := by
  obtain ⟨q, hq⟩ : ∃ q, l.length / 4 = q := ⟨_, rfl⟩
  have hq4 : 4 * q ≤ l.length := by omega
  have hq3 : 3 ≤ q := by omega
  rw [hq]
  have r257 := run257 l ho q (2 * q) (3 * q) (by omega) (by omega) (by omega)
  have ri := run256 l ho q (by omega) (by omega) hl
  have rj := run256 l ho (2 * q) (by omega) (by omega) hl
  have rk := run256 l ho (3 * q) (by omega) (by omega) hl
  have w0 : IntKind.wrap .i64 ((l.length : Int) - 0) = (l.length : Int) := by rw [wrap_of (by omega) (by omega)]; omega
  have wq : IntKind.wrap .i64 ((l.length : Int).tdiv 4) = (q : Int) := by
    rw [Int.tdiv_eq_ediv_of_nonneg (by omega), wrap_of (by omega) (by omega)]; omega
  have wi : IntKind.wrap .i64 ((q : Int) * 1) = (q : Int) := by rw [Int.mul_one, wrap_of (by omega) (by omega)]
  have wj : IntKind.wrap .i64 ((q : Int) * 2) = ((2 * q : Nat) : Int) := by rw [wrap_of (by omega) (by omega)]; omega
  have wk : IntKind.wrap .i64 ((q : Int) * 3) = ((3 * q : Nat) : Int) := by rw [wrap_of (by omega) (by omega)]; omega
  have zi : ∀ m : Nat, m ≤ 1000 → IntKind.wrap .i64 (0 + (m : Int)) = (m : Int) := fun m hm => by rw [wrap_of (by omega) (by omega)]; omega
  have z1 := zi q (by omega)
  have z2 := zi (2 * q) (by omega)
  have z3 := zi (3 * q) (by omega)
  have c8 : decide ((8 : Int) ≤ (l.length : Int)) = true := decide_eq_true (by omega)
  by_cases h50 : 50 ≤ l.length
  · have c50 : decide ((50 : Int) ≤ (l.length : Int)) = true := decide_eq_true (by omega)
    refine Runs.of (kit Try.prog) Try.func238 rfl rfl (by rw [Try.ntmps238]; exact of_decide_eq_true rfl) ?_; rw [Try.ntmps238, Try.results238]
    repeat' (first|((first|refine goA rfl fun K hK=>?_|refine goB rfl fun K hK=>?_|refine goC rfl rfl fun K hK=>?_|refine goD rfl rfl fun K hK=>?_);simp (dsimp:=false) only [↓gq,↓stepP,↓stepG,go_sem,w0,wq,wi,wj,wk,z1,z2,z3,c8,c50])|refine Pwp.seq ?_|refine Pwp.block ?_|(refine Pwp.exit ?_;simp only [thenS,blockS,if_true,if_false,reduceIte,Nat.reduceEqDiff,Nat.add_one_ne_zero,reduceCtorEq])|(refine Pwp.skip ?_;simp only [thenS,blockS])|(refine Pwp.cond rfl True.intro (fun h=>?_) (fun h=>?_)<;>(try (cases h;done))<;>(try simp only [h]))|refine Pwp.ret ?_|(refine hK _ ?_;clear hK K)|(refine hK _ _ rfl ?_;clear hK K)|(refine CallK.captL (pre:=[.slc 4 (linesD l), I64 q]) (post:=[cmpD]) (cs:=[I64 0]) ri rfl ?_)|(refine CallK.captL (pre:=[.slc 4 (linesD l), I64 (2 * q : Nat)]) (post:=[cmpD]) (cs:=[I64 0]) rj rfl ?_)|(refine CallK.captL (pre:=[.slc 4 (linesD l), I64 (3 * q : Nat)]) (post:=[cmpD]) (cs:=[I64 0]) rk rfl ?_)|(refine CallK.captL (pre:=[.slc 4 (linesD l), I64 q, I64 (2 * q : Nat), I64 (3 * q : Nat)]) (post:=[cmpD]) (cs:=[I64 0]) r257 rfl ?_)|refine CallG.off ?_|with_reducible refine Or.inl ?_|simp only [thenS,blockS]|with_reducible refine And.intro ?_ ?_|with_reducible exact True.intro|simp (dsimp:=false) only [↓gq,↓stepP,↓stepG,go_sem,w0,wq,wi,wj,wk,z1,z2,z3,c8,c50])
    all_goals (try (first|(intro hg;simp [hg];done)|exact of_decide_eq_true rfl|(cases h;done)))
    (refine Fin.data (.inr rfl) (by simp (dsimp:=false) only [↓gq,↓stepP,↓stepG,go_sem,resL]; rfl) (by simp only [and_self]) (by simp (dsimp:=false) only [↓gq,↓stepP,↓stepG,go_sem,resP,Nat.le_refl,List.take_length]; try rfl) ?_)
    exact subD_refl _
  · have c50 : decide ((50 : Int) ≤ (l.length : Int)) = false := decide_eq_false (by omega)
    refine Runs.of (kit Try.prog) Try.func238 rfl rfl (by rw [Try.ntmps238]; exact of_decide_eq_true rfl) ?_; rw [Try.ntmps238, Try.results238]
    repeat' (first|((first|refine goA rfl fun K hK=>?_|refine goB rfl fun K hK=>?_|refine goC rfl rfl fun K hK=>?_|refine goD rfl rfl fun K hK=>?_);simp (dsimp:=false) only [↓gq,↓stepP,↓stepG,go_sem,w0,wq,wi,wj,wk,z1,z2,z3,c8,c50])|refine Pwp.seq ?_|refine Pwp.block ?_|(refine Pwp.exit ?_;simp only [thenS,blockS,if_true,if_false,reduceIte,Nat.reduceEqDiff,Nat.add_one_ne_zero,reduceCtorEq])|(refine Pwp.skip ?_;simp only [thenS,blockS])|(refine Pwp.cond rfl True.intro (fun h=>?_) (fun h=>?_)<;>(try (cases h;done))<;>(try simp only [h]))|refine Pwp.ret ?_|(refine hK _ ?_;clear hK K)|(refine hK _ _ rfl ?_;clear hK K)|(refine CallK.captL (pre:=[.slc 4 (linesD l), I64 q, I64 (2 * q : Nat), I64 (3 * q : Nat)]) (post:=[cmpD]) (cs:=[I64 0]) r257 rfl ?_)|refine CallG.off ?_|with_reducible refine Or.inl ?_|simp only [thenS,blockS]|with_reducible refine And.intro ?_ ?_|with_reducible exact True.intro|simp (dsimp:=false) only [↓gq,↓stepP,↓stepG,go_sem,w0,wq,wi,wj,wk,z1,z2,z3,c8,c50])
    all_goals (try (first|(intro hg;simp [hg];done)|exact of_decide_eq_true rfl|(cases h;done)))
    (refine Fin.data (.inr rfl) (by simp (dsimp:=false) only [↓gq,↓stepP,↓stepG,go_sem,resL]; rfl) (by simp only [and_self]) (by simp (dsimp:=false) only [↓gq,↓stepP,↓stepG,go_sem,resP,Nat.le_refl,List.take_length]; try rfl) ?_)
    exact subD_refl _
def L240a (l : List Line) : St := ⟨[(10, pint .i64 0), (9, pint .i64 1), (3, .d cmpD), (2, pint .i64 l.length), (1, pint .i64 0), (0, .d (.slc 4 (linesD l)))], [], 28⟩
def L240b (l : List Line) (i : Nat) : St := ⟨[(10, pint .i64 0), (9, pint .i64 (i + 1 : Nat)), (3, .d cmpD), (2, pint .i64 l.length), (1, pint .i64 0), (0, .d (.slc 4 (linesD l)))], [], 36⟩
set_option maxHeartbeats 8000000 in
theorem run240 (l : List Line) (ho : InOrd l) (h1 : 1 ≤ l.length) (hl : l.length ≤ 1000) : Runs Try.prog 240 [.d (.slc 4 (linesD l)), pint .i64 0, pint .i64 l.length, .d cmpD] [] (pbool true) [] := by
  have hlen := lines_len l
  have w1 := w11
  have w01 : IntKind.wrap .i64 (0 + 1) = 1 := wrap_of (by omega) (by omega)
  refine Runs.of (kit Try.prog) Try.func240 rfl rfl (by rw [Try.ntmps240]; exact of_decide_eq_true rfl) ?_; rw [Try.ntmps240, Try.results240]
  repeat' (first|((first|refine goA rfl fun K hK=>?_|refine goB rfl fun K hK=>?_|refine goC rfl rfl fun K hK=>?_|refine goD rfl rfl fun K hK=>?_);simp (dsimp:=false) only [↓gq,↓stepP,↓stepG,go_sem,w1,w01])|refine Pwp.seq ?_|refine Pwp.block ?_|(refine Pwp.exit ?_;simp only [thenS,blockS,if_true,if_false,reduceIte,Nat.reduceEqDiff,Nat.add_one_ne_zero,reduceCtorEq])|(refine Pwp.skip ?_;simp only [thenS,blockS])|(refine Pwp.cond rfl True.intro (fun h=>?_) (fun h=>?_)<;>(try (cases h;done))<;>(try simp only [h]))|refine Pwp.ret ?_|(refine hK _ ?_;clear hK K)|(refine hK _ _ rfl ?_;clear hK K)|refine CallG.off ?_|with_reducible refine Or.inl ?_|simp only [thenS,blockS]|with_reducible refine And.intro ?_ ?_|with_reducible exact True.intro|simp (dsimp:=false) only [↓gq,↓stepP,↓stepG,go_sem,w1,w01])
  all_goals (try (first|(intro hg;simp [hg];done)|exact of_decide_eq_true rfl|(cases h;done)))
  refine Pwp.range 0 (S := fun _ => L240a l) (Sub.view V0 (by simp [L240a]) rfl (by simp [L240a]) (by simp [L240a])) (fun j hj => absurd hj (by omega)) ?_
  unfold L240a
  repeat' (first|((first|refine goA rfl fun K hK=>?_|refine goB rfl fun K hK=>?_|refine goC rfl rfl fun K hK=>?_|refine goD rfl rfl fun K hK=>?_);simp (dsimp:=false) only [↓gq,↓stepP,↓stepG,go_sem])|refine Pwp.seq ?_|refine Pwp.block ?_|(refine Pwp.exit ?_;simp only [thenS,blockS,if_true,if_false,reduceIte,Nat.reduceEqDiff,Nat.add_one_ne_zero,reduceCtorEq])|(refine Pwp.skip ?_;simp only [thenS,blockS])|(refine Pwp.cond rfl True.intro (fun h=>?_) (fun h=>?_)<;>(try (cases h;done))<;>(try simp only [h]))|refine Pwp.ret ?_|(refine hK _ ?_;clear hK K)|(refine hK _ _ rfl ?_;clear hK K)|refine CallG.off ?_|with_reducible refine Or.inl ?_|simp only [thenS,blockS]|with_reducible refine And.intro ?_ ?_|with_reducible exact True.intro|simp (dsimp:=false) only [↓gq,↓stepP,↓stepG,go_sem])
  all_goals (try (first|(intro hg;simp [hg];done)|exact of_decide_eq_true rfl|(cases h;done)))
  refine Pwp.range (l.length - 1) (S := L240b l) (Sub.view V0 (by simp [L240b]) rfl (by simp [L240b]) (by simp [L240b])) (fun i hi => ?_) ?_
  · obtain ⟨x, hx, _⟩ := at_lt (l := l) (i := i) (by omega)
    obtain ⟨y, hy, _⟩ := at_lt (l := l) (i := i + 1) (by omega)
    have hgx := lines_get hx
    have hgy := lines_get hy
    have c1 := dlt2 (i := i) (n := l.length) (by omega)
    have w2 := wpred2 (i := i) (by omega)
    have w3 := wsucc2 (i := i) (by omega)
    have r139 := run139 y x
    have hnb := not_back (ho i x y hx hy)
    unfold L240b
    repeat' (first|((first|refine goA rfl fun K hK=>?_|refine goB rfl fun K hK=>?_|refine goC rfl rfl fun K hK=>?_|refine goD rfl rfl fun K hK=>?_);simp (dsimp:=false) only [↓gq,↓stepP,↓stepG,go_sem,c1,w2,w3,hgx,hgy,hlen,hnb])|refine Pwp.seq ?_|refine Pwp.block ?_|(refine Pwp.exit ?_;simp only [thenS,blockS,if_true,if_false,reduceIte,Nat.reduceEqDiff,Nat.add_one_ne_zero,reduceCtorEq])|(refine Pwp.skip ?_;simp only [thenS,blockS])|(refine Pwp.cond rfl True.intro (fun h=>?_) (fun h=>?_)<;>(try (cases h;done))<;>(try simp only [h]))|refine Pwp.ret ?_|(refine hK _ ?_;clear hK K)|(refine hK _ _ rfl ?_;clear hK K)|(refine CallG.toD (ds:=[y.d, x.d]) rfl (r139) rfl ?_ ?_)|refine CallG.off ?_|with_reducible refine Or.inl ?_|simp only [thenS,blockS]|with_reducible refine And.intro ?_ ?_|with_reducible exact True.intro|simp (dsimp:=false) only [↓gq,↓stepP,↓stepG,go_sem,c1,w2,w3,hgx,hgy,hlen,hnb])
    all_goals (try (first|(intro hg;simp [hg];done)|exact of_decide_eq_true rfl|(cases h;done)))
    exact Sub.view V0 (by simp [L240b]) rfl (by simp [L240b]) (by simp [L240b])
  · have e : l.length - 1 + 1 = l.length := by omega
    obtain ⟨x, hx, _⟩ := at_lt (l := l) (i := l.length - 1) (by omega)
    have hgx := lines_get hx
    have c1 := dge (Nat.le_refl l.length)
    have hn : (linesD l)[l.length]? = none := List.getElem?_eq_none (by omega)
    have w2 : IntKind.wrap .i64 ((l.length : Int) - 1) = ((l.length - 1 : Nat) : Int) := by rw [wrap_of (by omega) (by omega)]; omega
    unfold L240b
    rw [e]
    repeat' (first|((first|refine goA rfl fun K hK=>?_|refine goB rfl fun K hK=>?_|refine goC rfl rfl fun K hK=>?_|refine goD rfl rfl fun K hK=>?_);simp (dsimp:=false) only [↓gq,↓stepP,↓stepG,go_sem,c1,w2,hn,hgx,hlen,beq_self_eq_true])|refine Pwp.seq ?_|refine Pwp.block ?_|(refine Pwp.exit ?_;simp only [thenS,blockS,if_true,if_false,reduceIte,Nat.reduceEqDiff,Nat.add_one_ne_zero,reduceCtorEq])|(refine Pwp.skip ?_;simp only [thenS,blockS])|(refine Pwp.cond rfl True.intro (fun h=>?_) (fun h=>?_)<;>(try (cases h;done))<;>(try simp only [h]))|refine Pwp.ret ?_|(refine hK _ ?_;clear hK K)|(refine hK _ _ rfl ?_;clear hK K)|refine CallG.off ?_|with_reducible refine Or.inl ?_|simp only [thenS,blockS]|with_reducible refine And.intro ?_ ?_|with_reducible exact True.intro|simp (dsimp:=false) only [↓gq,↓stepP,↓stepG,go_sem,c1,w2,hn,hgx,hlen,beq_self_eq_true])
    all_goals (try (first|(intro hg;simp [hg];done)|exact of_decide_eq_true rfl|(cases h;done)))
    (refine Fin.data (.inr rfl) (by simp (dsimp:=false) only [↓gq,↓stepP,↓stepG,go_sem,resL]; rfl) (by simp only [and_self]) (by simp (dsimp:=false) only [↓gq,↓stepP,↓stepG,go_sem,resP,Nat.le_refl,List.take_length]; try rfl) ?_)
    exact subD_refl _
set_option maxHeartbeats 8000000 in
theorem sorts (l : List Line) (ho : InOrd l) (hl : l.length ≤ 1000) : Sorts l := by
  intro k hk
  by_cases h12 : l.length ≤ 12
  · exact run198s l h12 ho k
  · have hk0 := hk (by omega)
    have k1 : (k == 0) = false := by rw [beq_eq_false_iff_ne]; exact hk0
    have r238 := run238 l ho (by omega) hl
    have r240 := run240 l ho (by omega) hl
    refine Runs.of (kit Try.prog) Try.func198 rfl rfl (by rw [Try.ntmps198]; exact of_decide_eq_true rfl) ?_; rw [Try.ntmps198, Try.results198]
    repeat' (first|((first|refine goA rfl fun K hK=>?_|refine goB rfl fun K hK=>?_|refine goC rfl rfl fun K hK=>?_|refine goD rfl rfl fun K hK=>?_);simp (dsimp:=false) only [↓gq,↓stepP,↓stepG,go_sem])|refine Pwp.seq ?_|refine Pwp.block ?_|(refine Pwp.exit ?_;simp only [thenS,blockS,if_true,if_false,reduceIte,Nat.reduceEqDiff,Nat.add_one_ne_zero,reduceCtorEq])|(refine Pwp.skip ?_;simp only [thenS,blockS])|(refine Pwp.cond rfl True.intro (fun h=>?_) (fun h=>?_)<;>(try (cases h;done))<;>(try simp only [h]))|refine Pwp.ret ?_|(refine hK _ ?_;clear hK K)|(refine hK _ _ rfl ?_;clear hK K)|refine CallG.off ?_|with_reducible refine Or.inl ?_|simp only [thenS,blockS]|with_reducible refine And.intro ?_ ?_|with_reducible exact True.intro|simp (dsimp:=false) only [↓gq,↓stepP,↓stepG,go_sem])
    all_goals (try (first|(intro hg;simp [hg];done)|exact of_decide_eq_true rfl|(cases h;done)))
    refine Pwp.range 0 (S := fun _ => L198 l k) (Sub.view V0 (by simp [L198]) rfl (by simp [L198]) (by simp [L198])) (fun j hj => absurd hj (by omega)) ?_
    have w : IntKind.wrap .i64 ((l.length : Int) - 0) = (l.length : Int) := by rw [Int.sub_zero]; exact wrap_of (by omega) (by omega)
    have w2 : IntKind.wrap .i64 (l.length : Int) = (l.length : Int) := wrap_of (by omega) (by omega)
    have c : decide ((l.length : Int) ≤ 12) = false := decide_eq_false (by omega)
    unfold L198
    repeat' (first|((first|refine goA rfl fun K hK=>?_|refine goB rfl fun K hK=>?_|refine goC rfl rfl fun K hK=>?_|refine goD rfl rfl fun K hK=>?_);simp (dsimp:=false) only [↓gq,↓stepP,↓stepG,go_sem,w,w2,c,k1])|refine Pwp.seq ?_|refine Pwp.block ?_|(refine Pwp.exit ?_;simp only [thenS,blockS,if_true,if_false,reduceIte,Nat.reduceEqDiff,Nat.add_one_ne_zero,reduceCtorEq])|(refine Pwp.skip ?_;simp only [thenS,blockS])|(refine Pwp.cond rfl True.intro (fun h=>?_) (fun h=>?_)<;>(try (cases h;done))<;>(try simp only [h]))|refine Pwp.ret ?_|(refine hK _ ?_;clear hK K)|(refine hK _ _ rfl ?_;clear hK K)|(refine CallK.toD (ds:=[.slc 4 (linesD l), I64 0, I64 l.length, cmpD]) rfl (r238) rfl ?_)|(refine CallK.toD (ds:=[.slc 4 (linesD l), I64 0, I64 l.length, cmpD]) rfl (r240) rfl ?_)|refine CallG.off ?_|with_reducible refine Or.inl ?_|simp only [thenS,blockS]|with_reducible refine And.intro ?_ ?_|with_reducible exact True.intro|simp (dsimp:=false) only [↓gq,↓stepP,↓stepG,go_sem,w,w2,c,k1])
    all_goals (try (first|(intro hg;simp [hg];done)|exact of_decide_eq_true rfl|(cases h;done)))
    (refine Fin.data (.inr rfl) (by simp (dsimp:=false) only [↓gq,↓stepP,↓stepG,go_sem,resL]; rfl) (by simp only [and_self]) (by simp (dsimp:=false) only [↓gq,↓stepP,↓stepG,go_sem,resP,Nat.le_refl,List.take_length]; try rfl) ?_)
    exact subD_refl _
end Go.Proofs.Ytdodgbhodkcckaa.Pv
end
section
set_option linter.unusedVariables false
set_option linter.unusedSimpArgs false
set_option autoImplicit false
namespace Go.Proofs.Ytdodgbhodkcckaa.Dig
def digs (n : Nat) : List Nat := if h : n = 0 then [] else n % 10 :: digs (n / 10)
termination_by n
decreasing_by omega
def val : List Nat → Nat
  | [] => 0
  | d :: ds => d + 10 * val ds
def Small (l : List Nat) : Prop := ∀ d ∈ l, d < 10
def Canon (l : List Nat) : Prop := Small l ∧ l.getLast? ≠ some 0
theorem digs_zero : digs 0 = [] := by rw [digs]; simp
theorem digs_pos {n : Nat} (h : n ≠ 0) : digs n = n % 10 :: digs (n / 10) := by rw [digs]; simp [h]
theorem val_digs : ∀ n, val (digs n) = n := by
  intro n
  induction n using Nat.strongRecOn with
  | _ n ih =>
    rcases Nat.eq_zero_or_pos n with h0 | h0
    · subst h0; rw [digs_zero]; rfl
    · rw [digs_pos (by omega), val, ih (n / 10) (by omega)]; omega
theorem small_digs : ∀ n, Small (digs n) := by
  intro n
  induction n using Nat.strongRecOn with
  | _ n ih =>
    rcases Nat.eq_zero_or_pos n with h0 | h0
    · subst h0; rw [digs_zero]; intro d hd; simp at hd
    · rw [digs_pos (by omega)]
      intro d hd
      rcases List.mem_cons.1 hd with rfl | hd
      · omega
      · exact ih (n / 10) (by omega) d hd
theorem canon_digs : ∀ {l : List Nat}, Canon l → digs (val l) = l
  | [], _ => digs_zero
  | [d], h => by
    have hd := h.1 d (by simp)
    have h0 : d ≠ 0 := fun e => h.2 (by simp [e])
    have e1 : val [d] = d := by simp [val]
    rw [e1, digs_pos h0, Nat.mod_eq_of_lt hd, Nat.div_eq_of_lt hd, digs_zero]
  | d :: e :: l, h => by
    have hd := h.1 d (by simp)
    have ih := canon_digs (l := e :: l) ⟨fun x hx => h.1 x (by simp [hx]), by have := h.2; rwa [List.getLast?_cons_cons] at this⟩
    have hv : val (d :: e :: l) = d + 10 * val (e :: l) := rfl
    have hne : val (e :: l) ≠ 0 := fun hz => by rw [hz, digs_zero] at ih; cases ih
    rw [hv, digs_pos (by omega), show (d + 10 * val (e :: l)) % 10 = d by omega, show (d + 10 * val (e :: l)) / 10 = val (e :: l) by omega, ih]
def tlen (l : List Nat) : Nat → Nat
  | 0 => 0
  | n + 1 => if l[n]? = some 0 then tlen l n else n + 1
theorem val_append : ∀ (l k : List Nat), val (l ++ k) = val l + 10 ^ l.length * val k
  | [], k => by simp [val]
  | d :: l, k => by
    simp only [List.cons_append, val, val_append l k, List.length_cons, Nat.pow_succ]
    rw [Nat.mul_add, Nat.add_assoc, show 10 * (10 ^ l.length * val k) = 10 ^ l.length * 10 * val k by rw [Nat.mul_comm (10 ^ l.length) 10, Nat.mul_assoc]]
theorem tlen_spec (l : List Nat) (hs : Small l) : ∀ n, n ≤ l.length → val (l.take (tlen l n)) = val (l.take n) ∧ Canon (l.take (tlen l n))
  | 0, _ => ⟨rfl, by simp [tlen, Canon, Small]⟩
  | n + 1, hn => by
    simp only [tlen]
    have hlt : n < l.length := by omega
    split
    · rename_i h0
      obtain ⟨h1, h2⟩ := tlen_spec l hs n (by omega)
      refine ⟨?_, h2⟩
      rw [h1]
      have ht : l.take (n + 1) = l.take n ++ [0] := by
        rw [List.take_add_one, h0]; rfl
      rw [ht, val_append]; simp [val]
    · rename_i h0
      refine ⟨rfl, fun d hd => hs d (List.mem_of_mem_take hd), ?_⟩
      have ht : l.take (n + 1) = l.take n ++ [l[n]] := by
        rw [List.take_add_one, List.getElem?_eq_getElem hlt]; rfl
      rw [ht, List.getLast?_concat]
      intro e
      apply h0
      rw [List.getElem?_eq_getElem hlt]; exact e
theorem trim_eq {l : List Nat} (hs : Small l) : l.take (tlen l l.length) = digs (val l) := by
  obtain ⟨h1, h2⟩ := tlen_spec l hs l.length (Nat.le_refl _)
  rw [List.take_length] at h1
  rw [← canon_digs h2, h1]
def addL : List Nat → List Nat → Nat → List Nat
  | [], [], c => if c = 0 then [] else [c]
  | a :: aS, [], c => (a + c) % 10 :: addL aS [] ((a + c) / 10)
  | [], b :: bs, c => (b + c) % 10 :: addL [] bs ((b + c) / 10)
  | a :: aS, b :: bs, c => (a + b + c) % 10 :: addL aS bs ((a + b + c) / 10)
theorem val_addL : ∀ (a b : List Nat) (c : Nat), val (addL a b c) = val a + val b + c
  | [], [], c => by simp only [addL]; split <;> simp_all [val]
  | a :: aS, [], c => by simp only [addL, val, val_addL aS [] ((a + c) / 10)]; omega
  | [], b :: bs, c => by simp only [addL, val, val_addL [] bs ((b + c) / 10)]; omega
  | a :: aS, b :: bs, c => by simp only [addL, val, val_addL aS bs ((a + b + c) / 10)]; omega
theorem small_addL : ∀ {a b : List Nat} {c : Nat}, Small a → Small b → c ≤ 1 → Small (addL a b c)
  | [], [], c, _, _, hc => by
    simp only [addL]; split
    · intro d hd; simp at hd
    · intro d hd; simp at hd; omega
  | a :: aS, [], c, ha, hb, hc => by
    have h1 := ha a (by simp)
    have ih := small_addL (a := aS) (b := []) (c := (a + c) / 10) (fun d hd => ha d (by simp [hd])) hb (by omega)
    intro d hd
    simp only [addL] at hd
    rcases List.mem_cons.1 hd with rfl | hd
    · omega
    · exact ih d hd
  | [], b :: bs, c, ha, hb, hc => by
    have h1 := hb b (by simp)
    have ih := small_addL (a := []) (b := bs) (c := (b + c) / 10) ha (fun d hd => hb d (by simp [hd])) (by omega)
    intro d hd
    simp only [addL] at hd
    rcases List.mem_cons.1 hd with rfl | hd
    · omega
    · exact ih d hd
  | a :: aS, b :: bs, c, ha, hb, hc => by
    have h1 := ha a (by simp)
    have h2 := hb b (by simp)
    have ih := small_addL (a := aS) (b := bs) (c := (a + b + c) / 10) (fun d hd => ha d (by simp [hd])) (fun d hd => hb d (by simp [hd])) (by omega)
    intro d hd
    simp only [addL] at hd
    rcases List.mem_cons.1 hd with rfl | hd
    · omega
    · exact ih d hd
theorem length_addL : ∀ (a b : List Nat) (c : Nat), (addL a b c).length ≤ max a.length b.length + 1
  | [], [], c => by simp only [addL]; split <;> simp
  | a :: aS, [], c => by have := length_addL aS [] ((a + c) / 10); simp only [addL, List.length_cons, List.length_nil] at *; omega
  | [], b :: bs, c => by have := length_addL [] bs ((b + c) / 10); simp only [addL, List.length_cons, List.length_nil] at *; omega
  | a :: aS, b :: bs, c => by have := length_addL aS bs ((a + b + c) / 10); simp only [addL, List.length_cons] at *; omega
def subL : List Nat → List Nat → Nat → List Nat
  | [], _, _ => []
  | a :: aS, bs, c => if a < bs.headD 0 + c then (a + 10 - bs.headD 0 - c) :: subL aS bs.tail 1 else (a - bs.headD 0 - c) :: subL aS bs.tail 0
theorem val_headD (bs : List Nat) : val bs = bs.headD 0 + 10 * val bs.tail := by cases bs <;> simp [val]
theorem small_headD {bs : List Nat} (h : Small bs) : bs.headD 0 < 10 := by
  cases bs with
  | nil => simp
  | cons b bs => exact h b (by simp)
theorem small_tail {bs : List Nat} (h : Small bs) : Small bs.tail := fun d hd => h d (List.mem_of_mem_tail hd)
theorem val_subL : ∀ {a b : List Nat} {c : Nat}, Small a → Small b → c ≤ 1 → val b + c ≤ val a → val (subL a b c) + val b + c = val a
  | [], b, c, _, _, _, h => by simp only [subL, val] at *; omega
  | a :: aS, b, c, ha, hb, hc, h => by
    have h1 := ha a (by simp)
    have h2 := small_headD hb
    have hv := val_headD b
    have hs := small_tail hb
    have ha' : Small aS := fun d hd => ha d (by simp [hd])
    simp only [subL]
    simp only [val] at h
    split
    · have ih := val_subL (a := aS) (b := b.tail) (c := 1) ha' hs (by omega) (by omega)
      simp only [val]; omega
    · have ih := val_subL (a := aS) (b := b.tail) (c := 0) ha' hs (by omega) (by omega)
      simp only [val]; omega
theorem small_subL : ∀ {a b : List Nat} {c : Nat}, Small a → Small b → c ≤ 1 → Small (subL a b c)
  | [], b, c, _, _, _ => by simp only [subL]; intro d hd; simp at hd
  | a :: aS, b, c, ha, hb, hc => by
    have h1 := ha a (by simp)
    have h2 := small_headD hb
    have ha' : Small aS := fun d hd => ha d (by simp [hd])
    simp only [subL]
    intro d hd
    split at hd
    · rcases List.mem_cons.1 hd with rfl | hd
      · omega
      · exact small_subL ha' (small_tail hb) (by omega) d hd
    · rcases List.mem_cons.1 hd with rfl | hd
      · omega
      · exact small_subL ha' (small_tail hb) (by omega) d hd
theorem val_lt_pow : ∀ {l : List Nat}, Small l → val l < 10 ^ l.length
  | [], _ => by simp [val]
  | d :: l, h => by
    have h1 := h d (by simp)
    have ih := val_lt_pow (l := l) fun x hx => h x (by simp [hx])
    simp only [val, List.length_cons, Nat.pow_succ]; omega
theorem val_split (l : List Nat) (i : Nat) (hi : i < l.length) : val l = val (l.take i) + 10 ^ i * (l[i] + 10 * val (l.drop (i + 1))) := by
  conv => lhs; rw [← List.take_append_drop i l, val_append, List.drop_eq_getElem_cons hi]
  rw [List.length_take, Nat.min_eq_left (by omega)]; rfl
theorem less_at {a b : List Nat} (ha : Small a) {i : Nat} (hi : i < a.length) (hj : i < b.length) (hd : a.drop (i + 1) = b.drop (i + 1)) (h : a[i] < b[i]) : val a < val b := by
  rw [val_split a i hi, val_split b i hj, hd]
  have h1 := val_lt_pow (l := a.take i) fun d hd => ha d (List.mem_of_mem_take hd)
  rw [List.length_take, Nat.min_eq_left (by omega)] at h1
  have h2 : 10 ^ i * (a[i] + 1 + 10 * val (b.drop (i + 1))) ≤ 10 ^ i * (b[i] + 10 * val (b.drop (i + 1))) := Nat.mul_le_mul_left _ (by omega)
  have h3 : 10 ^ i * (a[i] + 1 + 10 * val (b.drop (i + 1))) = 10 ^ i * (a[i] + 10 * val (b.drop (i + 1))) + 10 ^ i := by
    rw [show a[i] + 1 + 10 * val (b.drop (i + 1)) = (a[i] + 10 * val (b.drop (i + 1))) + 1 by omega, Nat.mul_add, Nat.mul_one]
  omega
theorem digs_length_lt {m n : Nat} : (digs m).length < (digs n).length → m < n := by
  intro h
  have h1 := val_lt_pow (small_digs m)
  rw [val_digs] at h1
  -- the last digit of n is no nought
  have key : ∀ n, n ≠ 0 → 10 ^ ((digs n).length - 1) ≤ n := by
    intro n
    induction n using Nat.strongRecOn with
    | _ n ih =>
      intro hn
      rw [digs_pos hn, List.length_cons, Nat.add_sub_cancel]
      rcases Nat.eq_zero_or_pos (n / 10) with h0 | h0
      · rw [h0, digs_zero]; simp; omega
      · have := ih (n / 10) (by omega) (by omega)
        have hl : (digs (n / 10)).length ≠ 0 := by
          rw [digs_pos (by omega)]; simp
        obtain ⟨k, hk⟩ : ∃ k, (digs (n / 10)).length = k + 1 := ⟨(digs (n / 10)).length - 1, by omega⟩
        rw [hk, Nat.add_sub_cancel] at this
        rw [hk, Nat.pow_succ]; omega
  have hn : n ≠ 0 := by
    intro e; subst e; rw [digs_zero] at h; simp at h
  have h2 := key n hn
  have h3 : 10 ^ (digs m).length ≤ 10 ^ ((digs n).length - 1) := Nat.pow_le_pow_right (by omega) (by omega)
  omega
theorem digs_length_le {n k : Nat} (h : n < 10 ^ k) : (digs n).length ≤ k := by
  rcases Nat.lt_or_ge k (digs n).length with h1 | h1
  · exfalso
    have h2 : (digs (10 ^ k - 1)).length < (digs n).length ∨ (digs n).length ≤ (digs (10 ^ k - 1)).length := by omega
    have key : ∀ k n, n < 10 ^ k → (digs n).length ≤ k := by
      intro k
      induction k with
      | zero => intro n hn; have : n = 0 := by simpa using hn
                subst this; rw [digs_zero]; simp
      | succ k ih =>
        intro n hn
        rcases Nat.eq_zero_or_pos n with h0 | h0
        · subst h0; rw [digs_zero]; simp
        · rw [digs_pos (by omega), List.length_cons]
          have := ih (n / 10) (by rw [Nat.pow_succ] at hn; omega)
          omega
    have := key k n h
    omega
  · exact h1
theorem drop_cases (a : List Nat) (i : Nat) : (a.drop i = [] ∧ a[i]? = none ∧ a.drop (i + 1) = [] ∧ a.length ≤ i) ∨ (∃ x, a.drop i = x :: a.drop (i + 1) ∧ a[i]? = some x ∧ i < a.length) := by
  rcases Nat.lt_or_ge i a.length with h | h
  · exact .inr ⟨a[i], List.drop_eq_getElem_cons h, List.getElem?_eq_getElem h, h⟩
  · exact .inl ⟨List.drop_eq_nil_of_le h, List.getElem?_eq_none h, List.drop_eq_nil_of_le (by omega), h⟩
theorem add_step (a b : List Nat) (i c : Nat) (h : i < a.length ∨ i < b.length ∨ 0 < c) (hc : c < 10) :
    addL (a.drop i) (b.drop i) c = ((a[i]?.getD 0) + (b[i]?.getD 0) + c) % 10 :: addL (a.drop (i + 1)) (b.drop (i + 1)) (((a[i]?.getD 0) + (b[i]?.getD 0) + c) / 10) := by
  rcases drop_cases a i with ⟨a1, a2, a3, a4⟩ | ⟨x, a1, a2, a3⟩ <;> rcases drop_cases b i with ⟨b1, b2, b3, b4⟩ | ⟨y, b1, b2, b3⟩
  · rw [a1, a2, a3, b1, b2, b3]
    have : c ≠ 0 := by omega
    have e1 : c % 10 = c := Nat.mod_eq_of_lt hc
    have e2 : c / 10 = 0 := Nat.div_eq_of_lt hc
    simp [addL, this, e1, e2]
  · rw [a1, a2, a3, b1, b2]; simp [addL]
  · rw [a1, a2, b1, b2, b3]; simp [addL]
  · rw [a1, a2, b1, b2]; simp [addL]
theorem sub_step (a b : List Nat) (i c d e : Nat) (hd : a[i]? = some d) (he : b[i]?.getD 0 = e) :
    subL (a.drop i) (b.drop i) c = if d < e + c then (d + 10 - e - c) :: subL (a.drop (i + 1)) (b.drop (i + 1)) 1 else (d - e - c) :: subL (a.drop (i + 1)) (b.drop (i + 1)) 0 := by
  obtain ⟨x, a1, a2, a3⟩ := (drop_cases a i).resolve_left (by rintro ⟨_, h, _⟩; rw [hd] at h; cases h)
  rw [hd] at a2
  cases a2
  rw [a1]
  rcases drop_cases b i with ⟨b1, b2, b3, b4⟩ | ⟨y, b1, b2, b3⟩
  · rw [b2] at he; simp at he; subst he
    rw [b1, b3]; simp [subL]
  · rw [b2] at he; simp at he; subst he
    rw [b1]; simp [subL]
end Go.Proofs.Ytdodgbhodkcckaa.Dig
end
section
set_option linter.unusedVariables false
set_option linter.unusedSimpArgs false
set_option autoImplicit false
set_option maxRecDepth 100000
namespace Go.Proofs.Ytdodgbhodkcckaa.Pv
open Go Go.RowKit Dig
def digD (ds : List Nat) : List D := ds.map fun (d : Nat) => I64 (d : Int)
theorem dig_get {ds : List Nat} {i d : Nat} (h : ds[i]? = some d) : (digD ds)[i]? = some (.v (.int .i64 (d : Int))) := by simp [digD, h]
theorem dig_len (ds : List Nat) : (digD ds).length = ds.length := by simp [digD]
theorem dig_take (ds : List Nat) (n : Nat) : (digD ds).take n = digD (ds.take n) := by simp [digD, List.map_take]
theorem wrap_pred {n : Nat} (h : 0 < n) (h2 : n < 9223372036854775807) : IntKind.i64.wrap ((n : Int) - 1) = ((n - 1 : Nat) : Int) := by rw [wrap_of (by omega) (by omega)]; omega
def L160 (ds : List Nat) (n : Nat) : St := ⟨[(3, pint .i64 n), (0, .d (.slc 1 (digD ds)))], [], 40⟩
set_option maxHeartbeats 8000000 in
theorem run160 (ds : List Nat) (hl : ds.length ≤ 1000000) : Runs Try.prog 160 [.d (.slc 1 (digD ds))] [] (.d (.slc 1 (digD (ds.take (tlen ds ds.length))))) [] := by
  have hlen := dig_len ds
  refine Runs.of (kit Try.prog) Try.func160 rfl rfl (by rw [Try.ntmps160]; exact of_decide_eq_true rfl) ?_; rw [Try.ntmps160, Try.results160]
  repeat' (first|((first|refine goA rfl fun K hK=>?_|refine goB rfl fun K hK=>?_|refine goC rfl rfl fun K hK=>?_|refine goD rfl rfl fun K hK=>?_);simp (dsimp:=false) only [↓gq,↓stepP,↓stepG,go_sem,hlen])|refine Pwp.seq ?_|refine Pwp.block ?_|(refine Pwp.exit ?_;simp only [thenS,blockS,if_true,if_false,reduceIte,Nat.reduceEqDiff,Nat.add_one_ne_zero,reduceCtorEq])|(refine Pwp.skip ?_;simp only [thenS,blockS])|(refine Pwp.cond rfl True.intro (fun h=>?_) (fun h=>?_)<;>(try (cases h;done))<;>(try simp only [h]))|refine Pwp.ret ?_|(refine hK _ ?_;clear hK K)|(refine hK _ _ rfl ?_;clear hK K)|refine CallG.off ?_|with_reducible refine Or.inl ?_|simp only [thenS,blockS]|with_reducible refine And.intro ?_ ?_|with_reducible exact True.intro|simp (dsimp:=false) only [↓gq,↓stepP,↓stepG,go_sem,hlen])
  all_goals (try (first|(intro hg;simp_all;done)|(intro hg;simp [hg];done)|exact of_decide_eq_true rfl|(cases h;done)))
  refine Pwp.loop (fun k s => ∃ n, n ≤ ds.length ∧ k = n ∧ s = L160 ds n ∧ tlen ds n = tlen ds ds.length) ds.length (s := L160 ds ds.length) (Sub.same (by simp [L160]) ?_ ?_) ⟨ds.length, Nat.le_refl _, rfl, rfl, rfl⟩ ?_
  · simp [viewH, L160]
  · simp [viewT, viewP, L160, V0, keptOf, St.ev, find, PVal.toD, disj, PVal.ids, subD_refl]
  rintro k s ⟨n, hn, rfl, rfl, ht⟩
  unfold L160
  cases k with
  | zero =>
    have hc : decide ((0 : Int) < ((0 : Nat) : Int)) = false := by simp
    have hc2 : decide ((0 : Int) < 0) = false := by simp
    have wm : (IntKind.i64.wrap (-1)).toNat = 0 := by decide
    have hfin : Runs Try.prog 160 [.d (.slc 1 (digD ds))] [] (.d (.slc 1 (digD (ds.take (tlen ds ds.length))))) [] → True := fun _ => trivial
    have ht0 : ds.take (tlen ds ds.length) = [] := by rw [← ht]; rfl
    rw [ht0]
    have hcases : (digD ds)[0]? = none ∨ ∃ d : Nat, (digD ds)[0]? = some (.v (.int .i64 (d : Int))) := by
      cases ds with
      | nil => exact .inl rfl
      | cons d ds => exact .inr ⟨d, rfl⟩
    rcases hcases with hd0 | ⟨d, hd0⟩
    · repeat' (first|((first|refine goA rfl fun K hK=>?_|refine goB rfl fun K hK=>?_|refine goC rfl rfl fun K hK=>?_|refine goD rfl rfl fun K hK=>?_);simp (dsimp:=false) only [↓gq,↓stepP,↓stepG,go_sem,hc,hc2,hlen,wm,hd0])|refine Pwp.seq ?_|refine Pwp.block ?_|(refine Pwp.exit ?_;simp only [thenS,blockS,if_true,if_false,reduceIte,Nat.reduceEqDiff,Nat.add_one_ne_zero,reduceCtorEq])|(refine Pwp.skip ?_;simp only [thenS,blockS])|(refine Pwp.cond rfl True.intro (fun h=>?_) (fun h=>?_)<;>(try (cases h;done))<;>(try simp only [h]))|refine Pwp.ret ?_|(refine hK _ ?_;clear hK K)|(refine hK _ _ rfl ?_;clear hK K)|refine CallG.off ?_|with_reducible refine Or.inl ?_|simp only [thenS,blockS]|with_reducible refine And.intro ?_ ?_|with_reducible exact True.intro|simp (dsimp:=false) only [↓gq,↓stepP,↓stepG,go_sem,hc,hc2,hlen,wm,hd0])
      all_goals (try (first|(intro hg;simp_all;done)|(intro hg;simp [hg];done)|exact of_decide_eq_true rfl|(cases h;done)))
      all_goals (try omega)
      (refine Fin.data (.inr rfl) (by simp (dsimp:=false) only [↓gq,↓stepP,↓stepG,go_sem,resL]; rfl) (by simp only [and_self]) (by simp (dsimp:=false) only [↓gq,↓stepP,↓stepG,go_sem,resP,Nat.le_refl,List.take_length]; try rfl) ?_)
      exact subD_refl _
    · repeat' (first|((first|refine goA rfl fun K hK=>?_|refine goB rfl fun K hK=>?_|refine goC rfl rfl fun K hK=>?_|refine goD rfl rfl fun K hK=>?_);simp (dsimp:=false) only [↓gq,↓stepP,↓stepG,go_sem,hc,hc2,hlen,wm,hd0])|refine Pwp.seq ?_|refine Pwp.block ?_|(refine Pwp.exit ?_;simp only [thenS,blockS,if_true,if_false,reduceIte,Nat.reduceEqDiff,Nat.add_one_ne_zero,reduceCtorEq])|(refine Pwp.skip ?_;simp only [thenS,blockS])|(refine Pwp.cond rfl True.intro (fun h=>?_) (fun h=>?_)<;>(try (cases h;done))<;>(try simp only [h]))|refine Pwp.ret ?_|(refine hK _ ?_;clear hK K)|(refine hK _ _ rfl ?_;clear hK K)|refine CallG.off ?_|with_reducible refine Or.inl ?_|simp only [thenS,blockS]|with_reducible refine And.intro ?_ ?_|with_reducible exact True.intro|simp (dsimp:=false) only [↓gq,↓stepP,↓stepG,go_sem,hc,hc2,hlen,wm,hd0])
      all_goals (try (first|(intro hg;simp_all;done)|(intro hg;simp [hg];done)|exact of_decide_eq_true rfl|(cases h;done)))
      all_goals (try omega)
      (refine Fin.data (.inr rfl) (by simp (dsimp:=false) only [↓gq,↓stepP,↓stepG,go_sem,resL]; rfl) (by simp only [and_self]) (by simp (dsimp:=false) only [↓gq,↓stepP,↓stepG,go_sem,resP,Nat.le_refl,List.take_length]; try rfl) ?_)
      exact subD_refl _
  | succ n =>
    obtain ⟨d, hd⟩ : ∃ d, ds[n]? = some d := ⟨_, List.getElem?_eq_getElem (by omega)⟩
    have hg := dig_get hd
    have hc : decide ((0 : Int) < ((n + 1 : Nat) : Int)) = true := decide_eq_true (by omega)
    have w1 : IntKind.i64.wrap (((n + 1 : Nat) : Int) - 1) = (n : Int) := by rw [wrap_pred (by omega) (by omega)]; simp
    by_cases h0 : d = 0
    · subst h0
      have he : ((((0 : Nat) : Int)) == 0) = true := by simp
      repeat' (first|((first|refine goA rfl fun K hK=>?_|refine goB rfl fun K hK=>?_|refine goC rfl rfl fun K hK=>?_|refine goD rfl rfl fun K hK=>?_);simp (dsimp:=false) only [↓gq,↓stepP,↓stepG,go_sem,hc,he,w1,hg,hlen])|refine Pwp.seq ?_|refine Pwp.block ?_|(refine Pwp.exit ?_;simp only [thenS,blockS,if_true,if_false,reduceIte,Nat.reduceEqDiff,Nat.add_one_ne_zero,reduceCtorEq])|(refine Pwp.skip ?_;simp only [thenS,blockS])|(refine Pwp.cond rfl True.intro (fun h=>?_) (fun h=>?_)<;>(try (cases h;done))<;>(try simp only [h]))|refine Pwp.ret ?_|(refine hK _ ?_;clear hK K)|(refine hK _ _ rfl ?_;clear hK K)|refine CallG.off ?_|with_reducible refine Or.inl ?_|simp only [thenS,blockS]|with_reducible refine And.intro ?_ ?_|with_reducible exact True.intro|simp (dsimp:=false) only [↓gq,↓stepP,↓stepG,go_sem,hc,he,w1,hg,hlen])
      all_goals (try (first|(intro hg;simp_all;done)|(intro hg;simp [hg];done)|exact of_decide_eq_true rfl|(cases h;done)))
      refine ⟨n, L160 ds n, by omega, Sub.same (by simp [L160]) ?_ ?_, n, by omega, rfl, rfl, ?_⟩
      · simp [viewH, L160]
      · simp [viewT, viewP, L160, V0, keptOf, St.ev, find, PVal.toD, disj, PVal.ids, subD_refl]
      · rw [← ht]; simp [tlen, hd]
    · have he : ((d : Int) == 0) = false := by simp [h0]
      repeat' (first|((first|refine goA rfl fun K hK=>?_|refine goB rfl fun K hK=>?_|refine goC rfl rfl fun K hK=>?_|refine goD rfl rfl fun K hK=>?_);simp (dsimp:=false) only [↓gq,↓stepP,↓stepG,go_sem,hc,he,w1,hg,hlen])|refine Pwp.seq ?_|refine Pwp.block ?_|(refine Pwp.exit ?_;simp only [thenS,blockS,if_true,if_false,reduceIte,Nat.reduceEqDiff,Nat.add_one_ne_zero,reduceCtorEq])|(refine Pwp.skip ?_;simp only [thenS,blockS])|(refine Pwp.cond rfl True.intro (fun h=>?_) (fun h=>?_)<;>(try (cases h;done))<;>(try simp only [h]))|refine Pwp.ret ?_|(refine hK _ ?_;clear hK K)|(refine hK _ _ rfl ?_;clear hK K)|refine CallG.off ?_|with_reducible refine Or.inl ?_|simp only [thenS,blockS]|with_reducible refine And.intro ?_ ?_|with_reducible exact True.intro|simp (dsimp:=false) only [↓gq,↓stepP,↓stepG,go_sem,hc,he,w1,hg,hlen])
      all_goals (try (first|(intro hg;simp_all;done)|(intro hg;simp [hg];done)|exact of_decide_eq_true rfl|(cases h;done)))
      all_goals (try omega)
      (refine Fin.data (.inr rfl) (by simp (dsimp:=false) only [↓gq,↓stepP,↓stepG,go_sem,resL]; rfl) (by simp only [and_self]) (by simp (dsimp:=false) only [↓gq,↓stepP,↓stepG,go_sem,resP,Nat.le_refl,List.take_length]; try rfl) ?_)
      rw [show tlen ds ds.length = n + 1 from by rw [← ht]; simp [tlen, hd, h0], dig_take]
      exact subD_refl _
end Go.Proofs.Ytdodgbhodkcckaa.Pv
end
section
set_option linter.unusedVariables false
set_option linter.unusedSimpArgs false
set_option autoImplicit false
set_option maxRecDepth 100000
namespace Go.Proofs.Ytdodgbhodkcckaa.Pv
open Go Go.RowKit Dig
def L161 (a b out : List Nat) (i c : Nat) : St := ⟨[(7, pint .i64 i), (6, pint .i64 c), (5, .own 9 0 1 0 out.length), (0, .d (.slc 1 (digD a))), (1, .d (.slc 1 (digD b)))], [(9, .arr 3 1 0 none (digD out))], 40⟩
theorem quo10 {m : Nat} (h : m < 1000) : IntKind.i64.wrap (Int.tdiv (m : Int) 10) = ((m / 10 : Nat) : Int) := by
  rw [Int.tdiv_eq_ediv_of_nonneg (by omega), wrap_of (by omega) (by omega)]; omega
theorem rem10 {m : Nat} : Int.tmod (m : Int) 10 = ((m % 10 : Nat) : Int) := by
  rw [Int.tmod_eq_emod_of_nonneg (by omega)]; omega
theorem end161 {a b out : List Nat} {i c m : Nat} {s : St} (hi : i ≤ max a.length b.length + 1) (hc : c ≤ 1) (hz : max a.length b.length < i → c = 0) (ho : out.length = i) (hadd : out ++ addL (a.drop i) (b.drop i) c = addL a b 0) (h : i < a.length ∨ i < b.length ∨ 0 < c)
    (hm : m = (a[i]?.getD 0) + (b[i]?.getD 0) + c) (hm2 : m < 20) (hs : Sub 52 s (L161 a b (out ++ [m % 10]) (i + 1) (m / 10))) (h9 : i = max a.length b.length → m < 10) :
    ∃ k' t, k' < max a.length b.length + 2 - i ∧ Sub 52 s t ∧ ∃ i c out, k' = max a.length b.length + 2 - i ∧ i ≤ max a.length b.length + 1 ∧ c ≤ 1 ∧ (max a.length b.length < i → c = 0) ∧ out.length = i ∧ out ++ addL (a.drop i) (b.drop i) c = addL a b 0 ∧ t = L161 a b out i c := by
  refine ⟨max a.length b.length + 2 - (i + 1), _, by omega, hs, i + 1, m / 10, out ++ [m % 10], rfl, by omega, by omega, by omega, by simp [ho], ?_, rfl⟩
  rw [← hadd, add_step a b i c h (by omega), ← hm]; simp
set_option maxHeartbeats 8000000 in
theorem run161 (a b : List Nat) (ha : Small a) (hb : Small b) (hl : a.length ≤ 1000000) (hk : b.length ≤ 1000000) : Runs Try.prog 161 [.d (.slc 1 (digD a)), .d (.slc 1 (digD b))] [] (.d (.slc 1 (digD (addL a b 0)))) [] := by
  have hla := dig_len a
  have hlb := dig_len b
  refine Runs.of (kit Try.prog) Try.func161 rfl rfl (by rw [Try.ntmps161]; exact of_decide_eq_true rfl) ?_; rw [Try.ntmps161, Try.results161]
  repeat' (first|((first|refine goA rfl fun K hK=>?_|refine goB rfl fun K hK=>?_|refine goC rfl rfl fun K hK=>?_|refine goD rfl rfl fun K hK=>?_);simp (dsimp:=false) only [↓gq,↓stepP,↓stepG,go_sem])|refine Pwp.seq ?_|refine Pwp.block ?_|(refine Pwp.exit ?_;simp only [thenS,blockS,if_true,if_false,reduceIte,Nat.reduceEqDiff,Nat.add_one_ne_zero,reduceCtorEq])|(refine Pwp.skip ?_;simp only [thenS,blockS])|(refine Pwp.cond rfl True.intro (fun h=>?_) (fun h=>?_)<;>(try (cases h;done))<;>(try simp only [h]))|refine Pwp.ret ?_|(refine hK _ ?_;clear hK K)|(refine hK _ _ rfl ?_;clear hK K)|refine CallG.off ?_|with_reducible refine Or.inl ?_|simp only [thenS,blockS]|with_reducible refine And.intro ?_ ?_|with_reducible exact True.intro|simp (dsimp:=false) only [↓gq,↓stepP,↓stepG,go_sem])
  all_goals (try (first|(intro hg;simp_all;done)|(intro hg;simp [hg];done)|exact of_decide_eq_true rfl|(cases h;done)))
  refine Pwp.loop (fun k s => ∃ i c out, k = max a.length b.length + 2 - i ∧ i ≤ max a.length b.length + 1 ∧ c ≤ 1 ∧ (max a.length b.length < i → c = 0) ∧ out.length = i ∧ out ++ addL (a.drop i) (b.drop i) c = addL a b 0 ∧ s = L161 a b out i c) (max a.length b.length + 2) (s := L161 a b [] 0 0) (Sub.view V9n (by simp [L161]) rfl ?_ ?_) ⟨0, 0, [], by omega, by omega, by omega, by omega, rfl, rfl, rfl⟩ ?_
  · simp [viewH, viewP, viewL, viewO, L161, V9n, keptOf, find, digD]
  · simp [viewT, viewP, L161, V9n, keptOf, St.ev, find, PVal.toD, subD_refl, disj, PVal.ids, pnil]
  rintro k s ⟨i, c, out, rfl, hi, hc, hz, ho, hadd, rfl⟩
  unfold L161
  have hol := dig_len out
  have htk : (digD out).take out.length = digD out := List.take_of_length_le (by omega)
  rcases Nat.lt_or_ge i a.length with h1 | h1 <;> rcases Nat.lt_or_ge i b.length with h2 | h2
  · obtain ⟨d, hd⟩ : ∃ d, a[i]? = some d := ⟨_, List.getElem?_eq_getElem h1⟩
    have hd1 := ha d (List.mem_of_getElem? hd)
    have hg := dig_get hd
    have c1 : decide ((i : Int) < (a.length : Int)) = true := decide_eq_true (by omega)
    obtain ⟨e, he⟩ : ∃ e, b[i]? = some e := ⟨_, List.getElem?_eq_getElem h2⟩
    have he1 := hb e (List.mem_of_getElem? he)
    have hg2 := dig_get he
    have c2 : decide ((i : Int) < (b.length : Int)) = true := decide_eq_true (by omega)
    have s1 : IntKind.i64.wrap ((c : Int) + (d : Int)) = ((c + d : Nat) : Int) := by rw [wrap_of (by omega) (by omega)]; omega
    have s2 : IntKind.i64.wrap (((c + d : Nat) : Int) + (e : Int)) = ((c + d + e : Nat) : Int) := by rw [wrap_of (by omega) (by omega)]; omega
    have q1 := quo10 (m := c + d + e) (by omega)
    have q2 := rem10 (m := c + d + e)
    repeat' (first|((first|refine goA rfl fun K hK=>?_|refine goB rfl fun K hK=>?_|refine goC rfl rfl fun K hK=>?_|refine goD rfl rfl fun K hK=>?_);simp (dsimp:=false) only [↓gq,↓stepP,↓stepG,go_sem,c1,c2,hg,hg2,hla,hlb,htk,hol,s1,s2,q1,q2])|refine Pwp.seq ?_|refine Pwp.block ?_|(refine Pwp.exit ?_;simp only [thenS,blockS,if_true,if_false,reduceIte,Nat.reduceEqDiff,Nat.add_one_ne_zero,reduceCtorEq])|(refine Pwp.skip ?_;simp only [thenS,blockS])|(refine Pwp.cond rfl True.intro (fun h=>?_) (fun h=>?_)<;>(try (cases h;done))<;>(try simp only [h]))|refine Pwp.ret ?_|(refine hK _ ?_;clear hK K)|(refine hK _ _ rfl ?_;clear hK K)|refine CallG.off ?_|with_reducible refine Or.inl ?_|simp only [thenS,blockS]|with_reducible refine And.intro ?_ ?_|with_reducible exact True.intro|simp (dsimp:=false) only [↓gq,↓stepP,↓stepG,go_sem,c1,c2,hg,hg2,hla,hlb,htk,hol,s1,s2,q1,q2])
    all_goals (try (first|(intro hg;simp_all;done)|(intro hg;simp [hg];done)|exact of_decide_eq_true rfl|(cases h;done)))
    all_goals (try (first | omega | (simp [maxLen]; omega)))
    refine end161 (m := c + d + e) hi hc hz ho hadd (.inl h1) (by simp [hd, he] <;> omega) (by omega) (Sub.view (V9 1) (by simp [L161]) rfl ?_ ?_) (by intro; omega)
    · simp [viewH, viewP, viewL, viewO, L161, V9, keptOf, find, digD]
    · rw [wrap_succ (by omega)]
      simp [viewT, viewP, L161, V9, keptOf, St.ev, find, PVal.toD, subD_refl, disj, PVal.ids]
  · obtain ⟨d, hd⟩ : ∃ d, a[i]? = some d := ⟨_, List.getElem?_eq_getElem h1⟩
    have hd1 := ha d (List.mem_of_getElem? hd)
    have hg := dig_get hd
    have c1 : decide ((i : Int) < (a.length : Int)) = true := decide_eq_true (by omega)
    have he : b[i]? = none := List.getElem?_eq_none h2
    have c2 : decide ((i : Int) < (b.length : Int)) = false := decide_eq_false (by omega)
    have s1 : IntKind.i64.wrap ((c : Int) + (d : Int)) = ((c + d : Nat) : Int) := by rw [wrap_of (by omega) (by omega)]; omega
    have q1 := quo10 (m := c + d) (by omega)
    have q2 := rem10 (m := c + d)
    repeat' (first|((first|refine goA rfl fun K hK=>?_|refine goB rfl fun K hK=>?_|refine goC rfl rfl fun K hK=>?_|refine goD rfl rfl fun K hK=>?_);simp (dsimp:=false) only [↓gq,↓stepP,↓stepG,go_sem,c1,c2,hg,hla,hlb,htk,hol,s1,q1,q2])|refine Pwp.seq ?_|refine Pwp.block ?_|(refine Pwp.exit ?_;simp only [thenS,blockS,if_true,if_false,reduceIte,Nat.reduceEqDiff,Nat.add_one_ne_zero,reduceCtorEq])|(refine Pwp.skip ?_;simp only [thenS,blockS])|(refine Pwp.cond rfl True.intro (fun h=>?_) (fun h=>?_)<;>(try (cases h;done))<;>(try simp only [h]))|refine Pwp.ret ?_|(refine hK _ ?_;clear hK K)|(refine hK _ _ rfl ?_;clear hK K)|refine CallG.off ?_|with_reducible refine Or.inl ?_|simp only [thenS,blockS]|with_reducible refine And.intro ?_ ?_|with_reducible exact True.intro|simp (dsimp:=false) only [↓gq,↓stepP,↓stepG,go_sem,c1,c2,hg,hla,hlb,htk,hol,s1,q1,q2])
    all_goals (try (first|(intro hg;simp_all;done)|(intro hg;simp [hg];done)|exact of_decide_eq_true rfl|(cases h;done)))
    all_goals (try (first | omega | (simp [maxLen]; omega)))
    refine end161 (m := c + d) hi hc hz ho hadd (.inl h1) (by simp [hd, he] <;> omega) (by omega) (Sub.view (V9 1) (by simp [L161]) rfl ?_ ?_) (by intro; omega)
    · simp [viewH, viewP, viewL, viewO, L161, V9, keptOf, find, digD]
    · rw [wrap_succ (by omega)]
      simp [viewT, viewP, L161, V9, keptOf, St.ev, find, PVal.toD, subD_refl, disj, PVal.ids]
  · have hd : a[i]? = none := List.getElem?_eq_none h1
    have c1 : decide ((i : Int) < (a.length : Int)) = false := decide_eq_false (by omega)
    obtain ⟨e, he⟩ : ∃ e, b[i]? = some e := ⟨_, List.getElem?_eq_getElem h2⟩
    have he1 := hb e (List.mem_of_getElem? he)
    have hg2 := dig_get he
    have c2 : decide ((i : Int) < (b.length : Int)) = true := decide_eq_true (by omega)
    have s2 : IntKind.i64.wrap ((c : Int) + (e : Int)) = ((c + e : Nat) : Int) := by rw [wrap_of (by omega) (by omega)]; omega
    have q1 := quo10 (m := c + e) (by omega)
    have q2 := rem10 (m := c + e)
    repeat' (first|((first|refine goA rfl fun K hK=>?_|refine goB rfl fun K hK=>?_|refine goC rfl rfl fun K hK=>?_|refine goD rfl rfl fun K hK=>?_);simp (dsimp:=false) only [↓gq,↓stepP,↓stepG,go_sem,c1,c2,hg2,hla,hlb,htk,hol,s2,q1,q2])|refine Pwp.seq ?_|refine Pwp.block ?_|(refine Pwp.exit ?_;simp only [thenS,blockS,if_true,if_false,reduceIte,Nat.reduceEqDiff,Nat.add_one_ne_zero,reduceCtorEq])|(refine Pwp.skip ?_;simp only [thenS,blockS])|(refine Pwp.cond rfl True.intro (fun h=>?_) (fun h=>?_)<;>(try (cases h;done))<;>(try simp only [h]))|refine Pwp.ret ?_|(refine hK _ ?_;clear hK K)|(refine hK _ _ rfl ?_;clear hK K)|refine CallG.off ?_|with_reducible refine Or.inl ?_|simp only [thenS,blockS]|with_reducible refine And.intro ?_ ?_|with_reducible exact True.intro|simp (dsimp:=false) only [↓gq,↓stepP,↓stepG,go_sem,c1,c2,hg2,hla,hlb,htk,hol,s2,q1,q2])
    all_goals (try (first|(intro hg;simp_all;done)|(intro hg;simp [hg];done)|exact of_decide_eq_true rfl|(cases h;done)))
    all_goals (try (first | omega | (simp [maxLen]; omega)))
    refine end161 (m := c + e) hi hc hz ho hadd (.inr (.inl h2)) (by simp [hd, he] <;> omega) (by omega) (Sub.view (V9 1) (by simp [L161]) rfl ?_ ?_) (by intro; omega)
    · simp [viewH, viewP, viewL, viewO, L161, V9, keptOf, find, digD]
    · rw [wrap_succ (by omega)]
      simp [viewT, viewP, L161, V9, keptOf, St.ev, find, PVal.toD, subD_refl, disj, PVal.ids]
  · have hd : a[i]? = none := List.getElem?_eq_none h1
    have c1 : decide ((i : Int) < (a.length : Int)) = false := decide_eq_false (by omega)
    have he : b[i]? = none := List.getElem?_eq_none h2
    have c2 : decide ((i : Int) < (b.length : Int)) = false := decide_eq_false (by omega)
    have q1 := quo10 (m := c) (by omega)
    have q2 := rem10 (m := c)
    rcases Nat.eq_zero_or_pos c with h0 | h3
    · subst h0
      have c3 : decide ((0 : Int) < ((0 : Nat) : Int)) = false := by simp
      have c4 : decide ((0 : Int) < 0) = false := by simp
      repeat' (first|((first|refine goA rfl fun K hK=>?_|refine goB rfl fun K hK=>?_|refine goC rfl rfl fun K hK=>?_|refine goD rfl rfl fun K hK=>?_);simp (dsimp:=false) only [↓gq,↓stepP,↓stepG,go_sem,c1,c2,hla,hlb,htk,hol,q1,q2,c3,c4])|refine Pwp.seq ?_|refine Pwp.block ?_|(refine Pwp.exit ?_;simp only [thenS,blockS,if_true,if_false,reduceIte,Nat.reduceEqDiff,Nat.add_one_ne_zero,reduceCtorEq])|(refine Pwp.skip ?_;simp only [thenS,blockS])|(refine Pwp.cond rfl True.intro (fun h=>?_) (fun h=>?_)<;>(try (cases h;done))<;>(try simp only [h]))|refine Pwp.ret ?_|(refine hK _ ?_;clear hK K)|(refine hK _ _ rfl ?_;clear hK K)|refine CallG.off ?_|with_reducible refine Or.inl ?_|simp only [thenS,blockS]|with_reducible refine And.intro ?_ ?_|with_reducible exact True.intro|simp (dsimp:=false) only [↓gq,↓stepP,↓stepG,go_sem,c1,c2,hla,hlb,htk,hol,q1,q2,c3,c4])
      all_goals (try (first|(intro hg;simp_all;done)|(intro hg;simp [hg];done)|exact of_decide_eq_true rfl|(cases h;done)))
      all_goals (try (first | omega | (simp [maxLen]; omega)))
      rw [List.drop_eq_nil_of_le h1, List.drop_eq_nil_of_le h2] at hadd
      have hadd2 : addL a b 0 = out := by rw [← hadd]; simp [addL]
      (refine Fin.data (.inr rfl) (by simp (dsimp:=false) only [↓gq,↓stepP,↓stepG,go_sem,resL,htk,hol]; rfl) (by simp only [and_self]) (by simp (dsimp:=false) only [↓gq,↓stepP,↓stepG,go_sem,resP,Nat.le_refl,List.take_length,htk,hol]; try rfl) ?_)
      rw [hadd2]; exact subD_refl _
    · have c3 : decide ((0 : Int) < (c : Int)) = true := decide_eq_true (by omega)
      repeat' (first|((first|refine goA rfl fun K hK=>?_|refine goB rfl fun K hK=>?_|refine goC rfl rfl fun K hK=>?_|refine goD rfl rfl fun K hK=>?_);simp (dsimp:=false) only [↓gq,↓stepP,↓stepG,go_sem,c1,c2,hla,hlb,htk,hol,q1,q2,c3])|refine Pwp.seq ?_|refine Pwp.block ?_|(refine Pwp.exit ?_;simp only [thenS,blockS,if_true,if_false,reduceIte,Nat.reduceEqDiff,Nat.add_one_ne_zero,reduceCtorEq])|(refine Pwp.skip ?_;simp only [thenS,blockS])|(refine Pwp.cond rfl True.intro (fun h=>?_) (fun h=>?_)<;>(try (cases h;done))<;>(try simp only [h]))|refine Pwp.ret ?_|(refine hK _ ?_;clear hK K)|(refine hK _ _ rfl ?_;clear hK K)|refine CallG.off ?_|with_reducible refine Or.inl ?_|simp only [thenS,blockS]|with_reducible refine And.intro ?_ ?_|with_reducible exact True.intro|simp (dsimp:=false) only [↓gq,↓stepP,↓stepG,go_sem,c1,c2,hla,hlb,htk,hol,q1,q2,c3])
      all_goals (try (first|(intro hg;simp_all;done)|(intro hg;simp [hg];done)|exact of_decide_eq_true rfl|(cases h;done)))
      all_goals (try (first | omega | (simp [maxLen]; omega)))
      refine end161 (m := c) hi hc hz ho hadd (.inr (.inr h3)) (by simp [hd, he] <;> omega) (by omega) (Sub.view (V9 1) (by simp [L161]) rfl ?_ ?_) (by intro; omega)
      · simp [viewH, viewP, viewL, viewO, L161, V9, keptOf, find, digD]
      · rw [wrap_succ (by omega)]
        simp [viewT, viewP, L161, V9, keptOf, St.ev, find, PVal.toD, subD_refl, disj, PVal.ids]
end Go.Proofs.Ytdodgbhodkcckaa.Pv
end
section
set_option linter.unusedVariables false
set_option linter.unusedSimpArgs false
set_option autoImplicit false
set_option maxRecDepth 100000
namespace Go.Proofs.Ytdodgbhodkcckaa.Pv
open Go Go.RowKit Dig
def lessB (a b : List Nat) : Bool := if a.length = b.length then decide (val a < val b) else decide (a.length < b.length)
def L162 (a b : List Nat) (n : Nat) : St := ⟨[(5, pint .i64 ((n : Int) - 1)), (0, .d (.slc 1 (digD a))), (1, .d (.slc 1 (digD b)))], [], 40⟩
set_option maxHeartbeats 8000000 in
theorem run162 (a b : List Nat) (ha : Small a) (hb : Small b) (hl : a.length ≤ 1000000) (hk : b.length ≤ 1000000) : Runs Try.prog 162 [.d (.slc 1 (digD a)), .d (.slc 1 (digD b))] [] (pbool (lessB a b)) [] := by
  have hla := dig_len a
  have hlb := dig_len b
  by_cases hab : a.length = b.length
  rotate_left
  · have hne : ((a.length : Int) != (b.length : Int)) = true := by simp; omega
    have hlt : decide ((a.length : Int) < (b.length : Int)) = lessB a b := by unfold lessB; rw [if_neg hab]; simp
    refine Runs.of (kit Try.prog) Try.func162 rfl rfl (by rw [Try.ntmps162]; exact of_decide_eq_true rfl) ?_; rw [Try.ntmps162, Try.results162]
    repeat' (first|((first|refine goA rfl fun K hK=>?_|refine goB rfl fun K hK=>?_|refine goC rfl rfl fun K hK=>?_|refine goD rfl rfl fun K hK=>?_);simp (dsimp:=false) only [↓gq,↓stepP,↓stepG,go_sem,hla,hlb,hne])|refine Pwp.seq ?_|refine Pwp.block ?_|(refine Pwp.exit ?_;simp only [thenS,blockS,if_true,if_false,reduceIte,Nat.reduceEqDiff,Nat.add_one_ne_zero,reduceCtorEq])|(refine Pwp.skip ?_;simp only [thenS,blockS])|(refine Pwp.cond rfl True.intro (fun h=>?_) (fun h=>?_)<;>(try (cases h;done))<;>(try simp only [h]))|refine Pwp.ret ?_|(refine hK _ ?_;clear hK K)|(refine hK _ _ rfl ?_;clear hK K)|refine CallG.off ?_|with_reducible refine Or.inl ?_|simp only [thenS,blockS]|with_reducible refine And.intro ?_ ?_|with_reducible exact True.intro|simp (dsimp:=false) only [↓gq,↓stepP,↓stepG,go_sem,hla,hlb,hne])
    all_goals (try (first|(intro hg;simp_all;done)|(intro hg;simp [hg];done)|exact of_decide_eq_true rfl|(cases h;done)))
    rw [← hlt]
    exact Fin.data (.inr rfl) rfl ⟨True.intro, True.intro⟩ rfl (subD_refl _)
  have hne : ((a.length : Int) != (b.length : Int)) = false := by simp; omega
  have w1 : IntKind.i64.wrap ((a.length : Int) - 1) = (a.length : Int) - 1 := wrap_of (by omega) (by omega)
  refine Runs.of (kit Try.prog) Try.func162 rfl rfl (by rw [Try.ntmps162]; exact of_decide_eq_true rfl) ?_; rw [Try.ntmps162, Try.results162]
  repeat' (first|((first|refine goA rfl fun K hK=>?_|refine goB rfl fun K hK=>?_|refine goC rfl rfl fun K hK=>?_|refine goD rfl rfl fun K hK=>?_);simp (dsimp:=false) only [↓gq,↓stepP,↓stepG,go_sem,hla,hlb,hne,w1])|refine Pwp.seq ?_|refine Pwp.block ?_|(refine Pwp.exit ?_;simp only [thenS,blockS,if_true,if_false,reduceIte,Nat.reduceEqDiff,Nat.add_one_ne_zero,reduceCtorEq])|(refine Pwp.skip ?_;simp only [thenS,blockS])|(refine Pwp.cond rfl True.intro (fun h=>?_) (fun h=>?_)<;>(try (cases h;done))<;>(try simp only [h]))|refine Pwp.ret ?_|(refine hK _ ?_;clear hK K)|(refine hK _ _ rfl ?_;clear hK K)|refine CallG.off ?_|with_reducible refine Or.inl ?_|simp only [thenS,blockS]|with_reducible refine And.intro ?_ ?_|with_reducible exact True.intro|simp (dsimp:=false) only [↓gq,↓stepP,↓stepG,go_sem,hla,hlb,hne,w1])
  all_goals (try (first|(intro hg;simp_all;done)|(intro hg;simp [hg];done)|exact of_decide_eq_true rfl|(cases h;done)))
  refine Pwp.loop (fun k s => ∃ n, n ≤ a.length ∧ k = n ∧ s = L162 a b n ∧ a.drop n = b.drop n) a.length (s := L162 a b a.length) (Sub.same (by simp [L162]) ?_ ?_) ⟨a.length, Nat.le_refl _, rfl, rfl, by rw [List.drop_eq_nil_of_le (Nat.le_refl _), List.drop_eq_nil_of_le (by omega)]⟩ ?_
  · simp [viewH, L162]
  · simp [viewT, viewP, L162, V0, keptOf, St.ev, find, PVal.toD, subD_refl, disj, PVal.ids]
  rintro k s ⟨n, hn, rfl, rfl, hd⟩
  unfold L162
  cases k with
  | zero =>
    have hv : lessB a b = false := by unfold lessB; rw [if_pos hab]; simp only [List.drop_zero] at hd; rw [hd]; simp
    repeat' (first|((first|refine goA rfl fun K hK=>?_|refine goB rfl fun K hK=>?_|refine goC rfl rfl fun K hK=>?_|refine goD rfl rfl fun K hK=>?_);simp (dsimp:=false) only [↓gq,↓stepP,↓stepG,go_sem,hla,hlb])|refine Pwp.seq ?_|refine Pwp.block ?_|(refine Pwp.exit ?_;simp only [thenS,blockS,if_true,if_false,reduceIte,Nat.reduceEqDiff,Nat.add_one_ne_zero,reduceCtorEq])|(refine Pwp.skip ?_;simp only [thenS,blockS])|(refine Pwp.cond rfl True.intro (fun h=>?_) (fun h=>?_)<;>(try (cases h;done))<;>(try simp only [h]))|refine Pwp.ret ?_|(refine hK _ ?_;clear hK K)|(refine hK _ _ rfl ?_;clear hK K)|refine CallG.off ?_|with_reducible refine Or.inl ?_|simp only [thenS,blockS]|with_reducible refine And.intro ?_ ?_|with_reducible exact True.intro|simp (dsimp:=false) only [↓gq,↓stepP,↓stepG,go_sem,hla,hlb])
    all_goals (try (first|(intro hg;simp_all;done)|(intro hg;simp [hg];done)|exact of_decide_eq_true rfl|(cases h;done)))
    rw [hv]
    exact Fin.data (.inr rfl) rfl ⟨True.intro, True.intro⟩ rfl (subD_refl _)
  | succ n =>
    obtain ⟨d, hd1⟩ : ∃ d, a[n]? = some d := ⟨_, List.getElem?_eq_getElem (by omega)⟩
    obtain ⟨e, he1⟩ : ∃ e, b[n]? = some e := ⟨_, List.getElem?_eq_getElem (by omega)⟩
    have hg := dig_get hd1
    have hg2 := dig_get he1
    have hw : ((n + 1 : Nat) : Int) - 1 = (n : Int) := by omega
    have hw2 : IntKind.i64.wrap ((n : Int) - 1) = (n : Int) - 1 := wrap_of (by omega) (by omega)
    by_cases h0 : d = e
    · subst h0
      have hx : ((d : Int) != (d : Int)) = false := by simp
      repeat' (first|((first|refine goA rfl fun K hK=>?_|refine goB rfl fun K hK=>?_|refine goC rfl rfl fun K hK=>?_|refine goD rfl rfl fun K hK=>?_);simp (dsimp:=false) only [↓gq,↓stepP,↓stepG,go_sem,hw,hw2,hx,hg,hg2,hla,hlb])|refine Pwp.seq ?_|refine Pwp.block ?_|(refine Pwp.exit ?_;simp only [thenS,blockS,if_true,if_false,reduceIte,Nat.reduceEqDiff,Nat.add_one_ne_zero,reduceCtorEq])|(refine Pwp.skip ?_;simp only [thenS,blockS])|(refine Pwp.cond rfl True.intro (fun h=>?_) (fun h=>?_)<;>(try (cases h;done))<;>(try simp only [h]))|refine Pwp.ret ?_|(refine hK _ ?_;clear hK K)|(refine hK _ _ rfl ?_;clear hK K)|refine CallG.off ?_|with_reducible refine Or.inl ?_|simp only [thenS,blockS]|with_reducible refine And.intro ?_ ?_|with_reducible exact True.intro|simp (dsimp:=false) only [↓gq,↓stepP,↓stepG,go_sem,hw,hw2,hx,hg,hg2,hla,hlb])
      all_goals (try (first|(intro hg;simp_all;done)|(intro hg;simp [hg];done)|exact of_decide_eq_true rfl|(cases h;done)))
      refine ⟨n, L162 a b n, by omega, Sub.same (by simp [L162]) ?_ ?_, n, by omega, rfl, rfl, ?_⟩
      · simp [viewH, L162]
      · simp [viewT, viewP, L162, V0, keptOf, St.ev, find, PVal.toD, subD_refl, disj, PVal.ids]
      · obtain ⟨g1, g2⟩ := List.getElem?_eq_some_iff.1 hd1
        obtain ⟨g3, g4⟩ := List.getElem?_eq_some_iff.1 he1
        rw [List.drop_eq_getElem_cons g1, List.drop_eq_getElem_cons g3, hd, g2, g4]
    · have hx : ((d : Int) != (e : Int)) = true := by simp; omega
      repeat' (first|((first|refine goA rfl fun K hK=>?_|refine goB rfl fun K hK=>?_|refine goC rfl rfl fun K hK=>?_|refine goD rfl rfl fun K hK=>?_);simp (dsimp:=false) only [↓gq,↓stepP,↓stepG,go_sem,hw,hw2,hx,hg,hg2,hla,hlb])|refine Pwp.seq ?_|refine Pwp.block ?_|(refine Pwp.exit ?_;simp only [thenS,blockS,if_true,if_false,reduceIte,Nat.reduceEqDiff,Nat.add_one_ne_zero,reduceCtorEq])|(refine Pwp.skip ?_;simp only [thenS,blockS])|(refine Pwp.cond rfl True.intro (fun h=>?_) (fun h=>?_)<;>(try (cases h;done))<;>(try simp only [h]))|refine Pwp.ret ?_|(refine hK _ ?_;clear hK K)|(refine hK _ _ rfl ?_;clear hK K)|refine CallG.off ?_|with_reducible refine Or.inl ?_|simp only [thenS,blockS]|with_reducible refine And.intro ?_ ?_|with_reducible exact True.intro|simp (dsimp:=false) only [↓gq,↓stepP,↓stepG,go_sem,hw,hw2,hx,hg,hg2,hla,hlb])
      all_goals (try (first|(intro hg;simp_all;done)|(intro hg;simp [hg];done)|exact of_decide_eq_true rfl|(cases h;done)))
      have hv : lessB a b = decide ((d : Int) < (e : Int)) := by
        obtain ⟨g1, g2⟩ := List.getElem?_eq_some_iff.1 hd1
        obtain ⟨g3, g4⟩ := List.getElem?_eq_some_iff.1 he1
        unfold lessB
        rw [if_pos hab]
        rcases Nat.lt_or_ge d e with h5 | h5
        · have := less_at ha g1 g3 hd (by omega)
          rw [decide_eq_true this, decide_eq_true (by omega)]
        · have := less_at hb g3 g1 hd.symm (by omega)
          rw [decide_eq_false (by omega), decide_eq_false (by omega)]
      rw [hv]
      exact Fin.data (.inr rfl) rfl ⟨True.intro, True.intro⟩ rfl (subD_refl _)
end Go.Proofs.Ytdodgbhodkcckaa.Pv
end
section
set_option linter.unusedVariables false
set_option linter.unusedSimpArgs false
set_option autoImplicit false
set_option maxRecDepth 100000
namespace Go.Proofs.Ytdodgbhodkcckaa.Pv
open Go Go.RowKit Dig
def L163 (a b out : List Nat) (i c : Nat) : St := ⟨[(7, pint .i64 i), (6, pint .i64 c), (5, .own 9 0 1 0 out.length), (0, .d (.slc 1 (digD a))), (1, .d (.slc 1 (digD b)))], [(9, .arr 3 1 0 none (digD out))], 40⟩
set_option maxHeartbeats 8000000 in
theorem run163 (a b : List Nat) (ha : Small a) (hb : Small b) (hl : a.length ≤ 1000000) (hk : b.length ≤ 1000000) : Runs Try.prog 163 [.d (.slc 1 (digD a)), .d (.slc 1 (digD b))] [] (.d (.slc 1 (digD (digs (val (Dig.subL a b 0)))))) [] := by
  have hla := dig_len a
  have hlb := dig_len b
  refine Runs.of (kit Try.prog) Try.func163 rfl rfl (by rw [Try.ntmps163]; exact of_decide_eq_true rfl) ?_; rw [Try.ntmps163, Try.results163]
  repeat' (first|((first|refine goA rfl fun K hK=>?_|refine goB rfl fun K hK=>?_|refine goC rfl rfl fun K hK=>?_|refine goD rfl rfl fun K hK=>?_);simp (dsimp:=false) only [↓gq,↓stepP,↓stepG,go_sem])|refine Pwp.seq ?_|refine Pwp.block ?_|(refine Pwp.exit ?_;simp only [thenS,blockS,if_true,if_false,reduceIte,Nat.reduceEqDiff,Nat.add_one_ne_zero,reduceCtorEq])|(refine Pwp.skip ?_;simp only [thenS,blockS])|(refine Pwp.cond rfl True.intro (fun h=>?_) (fun h=>?_)<;>(try (cases h;done))<;>(try simp only [h]))|refine Pwp.ret ?_|(refine hK _ ?_;clear hK K)|(refine hK _ _ rfl ?_;clear hK K)|refine CallG.off ?_|with_reducible refine Or.inl ?_|simp only [thenS,blockS]|with_reducible refine And.intro ?_ ?_|with_reducible exact True.intro|simp (dsimp:=false) only [↓gq,↓stepP,↓stepG,go_sem])
  all_goals (try (first|(intro hg;simp_all;done)|(intro hg;simp [hg];done)|exact of_decide_eq_true rfl|(cases h;done)))
  refine Pwp.loop (fun k s => ∃ i c out, k = a.length - i ∧ i ≤ a.length ∧ c ≤ 1 ∧ out.length = i ∧ out ++ Dig.subL (a.drop i) (b.drop i) c = Dig.subL a b 0 ∧ s = L163 a b out i c) a.length (s := L163 a b [] 0 0) (Sub.view V9n (by simp [L163]) rfl ?_ ?_) ⟨0, 0, [], by omega, by omega, by omega, rfl, rfl, rfl⟩ ?_
  · simp [viewH, viewP, viewL, viewO, L163, V9n, keptOf, find, digD]
  · simp [viewT, viewP, L163, V9n, keptOf, St.ev, find, PVal.toD, subD_refl, disj, PVal.ids, pnil]
  rintro k s ⟨i, c, out, rfl, hi, hc, ho, hsub, rfl⟩
  unfold L163
  have hol := dig_len out
  have htk : (digD out).take out.length = digD out := List.take_of_length_le (by omega)
  rcases Nat.lt_or_ge i a.length with h1 | h1
  rotate_left
  · have hc1 : decide ((i : Int) < (a.length : Int)) = false := decide_eq_false (by omega)
    have he : Dig.subL a b 0 = out := by rw [← hsub, List.drop_eq_nil_of_le h1]; simp [Dig.subL]
    have hsm := small_subL ha hb (by omega : 0 ≤ 1)
    rw [he] at hsm ⊢
    have hr := run160 out (by omega)
    rw [trim_eq hsm] at hr
    repeat' (first|((first|refine goA rfl fun K hK=>?_|refine goB rfl fun K hK=>?_|refine goC rfl rfl fun K hK=>?_|refine goD rfl rfl fun K hK=>?_);simp (dsimp:=false) only [↓gq,↓stepP,↓stepG,go_sem,hc1,hla])|refine Pwp.seq ?_|refine Pwp.block ?_|(refine Pwp.exit ?_;simp only [thenS,blockS,if_true,if_false,reduceIte,Nat.reduceEqDiff,Nat.add_one_ne_zero,reduceCtorEq])|(refine Pwp.skip ?_;simp only [thenS,blockS])|(refine Pwp.cond rfl True.intro (fun h=>?_) (fun h=>?_)<;>(try (cases h;done))<;>(try simp only [h]))|refine Pwp.ret ?_|(refine hK _ ?_;clear hK K)|(refine hK _ _ rfl ?_;clear hK K)|(refine CallK.give (ds:=[.slc 1 (digD out)]) (by simp [toDL, PVal.toD, find, hol, htk]) hr (by simp) ?_)|refine CallG.off ?_|with_reducible refine Or.inl ?_|simp only [thenS,blockS]|with_reducible refine And.intro ?_ ?_|with_reducible exact True.intro|simp (dsimp:=false) only [↓gq,↓stepP,↓stepG,go_sem,hc1,hla])
    all_goals (try (first|(intro hg;simp_all;done)|(intro hg;simp [hg];done)|exact of_decide_eq_true rfl|(cases h;done)))
    (refine Fin.data (.inr rfl) (by simp (dsimp:=false) only [↓gq,↓stepP,↓stepG,go_sem,resL]; rfl) (by simp only [and_self]) (by simp (dsimp:=false) only [↓gq,↓stepP,↓stepG,go_sem,resP,Nat.le_refl,List.take_length]; try rfl) ?_)
    exact subD_refl _
  obtain ⟨d, hd⟩ : ∃ d, a[i]? = some d := ⟨_, List.getElem?_eq_getElem h1⟩
  have hd1 := ha d (List.mem_of_getElem? hd)
  have hg := dig_get hd
  have hc1 : decide ((i : Int) < (a.length : Int)) = true := decide_eq_true (by omega)
  have s1 : IntKind.i64.wrap ((d : Int) - (c : Int)) = (d : Int) - (c : Int) := wrap_of (by omega) (by omega)
  rcases Nat.lt_or_ge i b.length with h2 | h2
  · rcases Nat.lt_or_ge d ((b[i]?.getD 0) + c) with h3 | h3 <;> simp only [List.getElem?_eq_getElem h2, Option.getD_some] at h3
    · obtain ⟨e, he⟩ : ∃ e, b[i]? = some e := ⟨_, List.getElem?_eq_getElem h2⟩
      have hbe : b[i] = e := (List.getElem?_eq_some_iff.1 he).2
      rw [hbe] at h3
      have he1 := hb e (List.mem_of_getElem? he)
      have hg2 := dig_get he
      have c2 : decide ((i : Int) < (b.length : Int)) = true := decide_eq_true (by omega)
      have s2 : IntKind.i64.wrap ((d : Int) - (c : Int) - (e : Int)) = (d : Int) - (c : Int) - (e : Int) := wrap_of (by omega) (by omega)
      have n1 : decide ((d : Int) - (c : Int) - (e : Int) < 0) = true := decide_eq_true (by omega)
      have n2 : IntKind.i64.wrap ((d : Int) - (c : Int) - (e : Int) + 10) = ((d + 10 - e - c : Nat) : Int) := by rw [wrap_of (by omega) (by omega)]; omega
      repeat' (first|((first|refine goA rfl fun K hK=>?_|refine goB rfl fun K hK=>?_|refine goC rfl rfl fun K hK=>?_|refine goD rfl rfl fun K hK=>?_);simp (dsimp:=false) only [↓gq,↓stepP,↓stepG,go_sem,hg,hc1,s1,c2,n1,hla,hlb,htk,hol,hg2,s2,n2])|refine Pwp.seq ?_|refine Pwp.block ?_|(refine Pwp.exit ?_;simp only [thenS,blockS,if_true,if_false,reduceIte,Nat.reduceEqDiff,Nat.add_one_ne_zero,reduceCtorEq])|(refine Pwp.skip ?_;simp only [thenS,blockS])|(refine Pwp.cond rfl True.intro (fun h=>?_) (fun h=>?_)<;>(try (cases h;done))<;>(try simp only [h]))|refine Pwp.ret ?_|(refine hK _ ?_;clear hK K)|(refine hK _ _ rfl ?_;clear hK K)|refine CallG.off ?_|with_reducible refine Or.inl ?_|simp only [thenS,blockS]|with_reducible refine And.intro ?_ ?_|with_reducible exact True.intro|simp (dsimp:=false) only [↓gq,↓stepP,↓stepG,go_sem,hg,hc1,s1,c2,n1,hla,hlb,htk,hol,hg2,s2,n2])
      all_goals (try (first|(intro hg;simp_all;done)|(intro hg;simp [hg];done)|exact of_decide_eq_true rfl|(cases h;done)))
      all_goals (try (first | omega | (simp [maxLen]; omega)))
      refine ⟨a.length - (i + 1), L163 a b (out ++ [d + 10 - e - c]) (i + 1) 1, by omega, Sub.view (V9 1) (by simp [L163]) rfl ?_ ?_, i + 1, 1, out ++ [d + 10 - e - c], rfl, by omega, by omega, by simp [ho], ?_, rfl⟩
      · simp [viewH, viewP, viewL, viewO, L163, V9, keptOf, find, digD]
      · rw [wrap_succ (by omega)]
        simp [viewT, viewP, L163, V9, keptOf, St.ev, find, PVal.toD, subD_refl, disj, PVal.ids]
      · rw [← hsub, sub_step a b i c d e hd (by simp [he]), if_pos (by omega)]; simp
    · obtain ⟨e, he⟩ : ∃ e, b[i]? = some e := ⟨_, List.getElem?_eq_getElem h2⟩
      have hbe : b[i] = e := (List.getElem?_eq_some_iff.1 he).2
      rw [hbe] at h3
      have he1 := hb e (List.mem_of_getElem? he)
      have hg2 := dig_get he
      have c2 : decide ((i : Int) < (b.length : Int)) = true := decide_eq_true (by omega)
      have s2 : IntKind.i64.wrap ((d : Int) - (c : Int) - (e : Int)) = (d : Int) - (c : Int) - (e : Int) := wrap_of (by omega) (by omega)
      have n1 : decide ((d : Int) - (c : Int) - (e : Int) < 0) = false := decide_eq_false (by omega)
      have n2 : (d : Int) - (c : Int) - (e : Int) = ((d - e - c : Nat) : Int) := by omega
      repeat' (first|((first|refine goA rfl fun K hK=>?_|refine goB rfl fun K hK=>?_|refine goC rfl rfl fun K hK=>?_|refine goD rfl rfl fun K hK=>?_);simp (dsimp:=false) only [↓gq,↓stepP,↓stepG,go_sem,hg,hc1,s1,c2,n1,hla,hlb,htk,hol,hg2,s2])|refine Pwp.seq ?_|refine Pwp.block ?_|(refine Pwp.exit ?_;simp only [thenS,blockS,if_true,if_false,reduceIte,Nat.reduceEqDiff,Nat.add_one_ne_zero,reduceCtorEq])|(refine Pwp.skip ?_;simp only [thenS,blockS])|(refine Pwp.cond rfl True.intro (fun h=>?_) (fun h=>?_)<;>(try (cases h;done))<;>(try simp only [h]))|refine Pwp.ret ?_|(refine hK _ ?_;clear hK K)|(refine hK _ _ rfl ?_;clear hK K)|refine CallG.off ?_|with_reducible refine Or.inl ?_|simp only [thenS,blockS]|with_reducible refine And.intro ?_ ?_|with_reducible exact True.intro|simp (dsimp:=false) only [↓gq,↓stepP,↓stepG,go_sem,hg,hc1,s1,c2,n1,hla,hlb,htk,hol,hg2,s2])
      all_goals (try (first|(intro hg;simp_all;done)|(intro hg;simp [hg];done)|exact of_decide_eq_true rfl|(cases h;done)))
      all_goals (try (first | omega | (simp [maxLen]; omega)))
      refine ⟨a.length - (i + 1), L163 a b (out ++ [d - e - c]) (i + 1) 0, by omega, Sub.view (V9 1) (by simp [L163]) rfl ?_ ?_, i + 1, 0, out ++ [d - e - c], rfl, by omega, by omega, by simp [ho], ?_, rfl⟩
      · simp [viewH, viewP, viewL, viewO, L163, V9, keptOf, find, digD, n2]
      · rw [wrap_succ (by omega)]
        simp [viewT, viewP, L163, V9, keptOf, St.ev, find, PVal.toD, subD_refl, disj, PVal.ids]
      · rw [← hsub, sub_step a b i c d e hd (by simp [he]), if_neg (by omega)]; simp
  · rcases Nat.lt_or_ge d c with h3 | h3
    · have he : b[i]? = none := List.getElem?_eq_none h2
      have c2 : decide ((i : Int) < (b.length : Int)) = false := decide_eq_false (by omega)
      have n1 : decide ((d : Int) - (c : Int) < 0) = true := decide_eq_true (by omega)
      have n2 : IntKind.i64.wrap ((d : Int) - (c : Int) + 10) = ((d + 10 - 0 - c : Nat) : Int) := by rw [wrap_of (by omega) (by omega)]; omega
      repeat' (first|((first|refine goA rfl fun K hK=>?_|refine goB rfl fun K hK=>?_|refine goC rfl rfl fun K hK=>?_|refine goD rfl rfl fun K hK=>?_);simp (dsimp:=false) only [↓gq,↓stepP,↓stepG,go_sem,hg,hc1,s1,c2,n1,hla,hlb,htk,hol,n2])|refine Pwp.seq ?_|refine Pwp.block ?_|(refine Pwp.exit ?_;simp only [thenS,blockS,if_true,if_false,reduceIte,Nat.reduceEqDiff,Nat.add_one_ne_zero,reduceCtorEq])|(refine Pwp.skip ?_;simp only [thenS,blockS])|(refine Pwp.cond rfl True.intro (fun h=>?_) (fun h=>?_)<;>(try (cases h;done))<;>(try simp only [h]))|refine Pwp.ret ?_|(refine hK _ ?_;clear hK K)|(refine hK _ _ rfl ?_;clear hK K)|refine CallG.off ?_|with_reducible refine Or.inl ?_|simp only [thenS,blockS]|with_reducible refine And.intro ?_ ?_|with_reducible exact True.intro|simp (dsimp:=false) only [↓gq,↓stepP,↓stepG,go_sem,hg,hc1,s1,c2,n1,hla,hlb,htk,hol,n2])
      all_goals (try (first|(intro hg;simp_all;done)|(intro hg;simp [hg];done)|exact of_decide_eq_true rfl|(cases h;done)))
      all_goals (try (first | omega | (simp [maxLen]; omega)))
      refine ⟨a.length - (i + 1), L163 a b (out ++ [d + 10 - 0 - c]) (i + 1) 1, by omega, Sub.view (V9 1) (by simp [L163]) rfl ?_ ?_, i + 1, 1, out ++ [d + 10 - 0 - c], rfl, by omega, by omega, by simp [ho], ?_, rfl⟩
      · simp [viewH, viewP, viewL, viewO, L163, V9, keptOf, find, digD]
      · rw [wrap_succ (by omega)]
        simp [viewT, viewP, L163, V9, keptOf, St.ev, find, PVal.toD, subD_refl, disj, PVal.ids]
      · rw [← hsub, sub_step a b i c d 0 hd (by simp [he]), if_pos (by omega)]; simp
    · have he : b[i]? = none := List.getElem?_eq_none h2
      have c2 : decide ((i : Int) < (b.length : Int)) = false := decide_eq_false (by omega)
      have n1 : decide ((d : Int) - (c : Int) < 0) = false := decide_eq_false (by omega)
      have n2 : (d : Int) - (c : Int) = ((d - 0 - c : Nat) : Int) := by omega
      repeat' (first|((first|refine goA rfl fun K hK=>?_|refine goB rfl fun K hK=>?_|refine goC rfl rfl fun K hK=>?_|refine goD rfl rfl fun K hK=>?_);simp (dsimp:=false) only [↓gq,↓stepP,↓stepG,go_sem,hg,hc1,s1,c2,n1,hla,hlb,htk,hol])|refine Pwp.seq ?_|refine Pwp.block ?_|(refine Pwp.exit ?_;simp only [thenS,blockS,if_true,if_false,reduceIte,Nat.reduceEqDiff,Nat.add_one_ne_zero,reduceCtorEq])|(refine Pwp.skip ?_;simp only [thenS,blockS])|(refine Pwp.cond rfl True.intro (fun h=>?_) (fun h=>?_)<;>(try (cases h;done))<;>(try simp only [h]))|refine Pwp.ret ?_|(refine hK _ ?_;clear hK K)|(refine hK _ _ rfl ?_;clear hK K)|refine CallG.off ?_|with_reducible refine Or.inl ?_|simp only [thenS,blockS]|with_reducible refine And.intro ?_ ?_|with_reducible exact True.intro|simp (dsimp:=false) only [↓gq,↓stepP,↓stepG,go_sem,hg,hc1,s1,c2,n1,hla,hlb,htk,hol])
      all_goals (try (first|(intro hg;simp_all;done)|(intro hg;simp [hg];done)|exact of_decide_eq_true rfl|(cases h;done)))
      all_goals (try (first | omega | (simp [maxLen]; omega)))
      refine ⟨a.length - (i + 1), L163 a b (out ++ [d - 0 - c]) (i + 1) 0, by omega, Sub.view (V9 1) (by simp [L163]) rfl ?_ ?_, i + 1, 0, out ++ [d - 0 - c], rfl, by omega, by omega, by simp [ho], ?_, rfl⟩
      · simp [viewH, viewP, viewL, viewO, L163, V9, keptOf, find, digD, n2]
      · rw [wrap_succ (by omega)]
        simp [viewT, viewP, L163, V9, keptOf, St.ev, find, PVal.toD, subD_refl, disj, PVal.ids]
      · rw [← hsub, sub_step a b i c d 0 hd (by simp [he]), if_neg (by omega)]; simp
end Go.Proofs.Ytdodgbhodkcckaa.Pv
end
section
set_option linter.unusedVariables false
set_option linter.unusedSimpArgs false
set_option autoImplicit false
set_option maxRecDepth 100000
namespace Go.Proofs.Ytdodgbhodkcckaa.Pv
open Go Go.RowKit Dig
def bigD (z : Int) : D := .agg [.v (.bool (decide (z < 0))), .slc 1 (digD (digs z.natAbs))]
def L103 (a x : Int) (out : List Nat) : St := ⟨[(0, pint .i64 x), (3, .ref 15 0), (2, .ref 8 0)], [(8, .box [.d (.v (.bool false)), .d (.v (.slice none 0 0))]), (15, .box [.d (.v (.bool (decide (a < 0)))), .own 9 0 1 0 out.length]), (9, .arr 3 1 0 none (digD out))], 40⟩
theorem quoP {m : Nat} (h : m < 9223372036854775808) : IntKind.i64.wrap (Int.tdiv (m : Int) 10) = ((m / 10 : Nat) : Int) := by
  rw [Int.tdiv_eq_ediv_of_nonneg (by omega), wrap_of (by omega) (by omega)]; omega
theorem quoN {m : Nat} (h : m ≤ 9223372036854775808) : IntKind.i64.wrap (Int.tdiv (-(m : Int)) 10) = -((m / 10 : Nat) : Int) := by
  rw [Int.neg_tdiv, Int.tdiv_eq_ediv_of_nonneg (by omega), wrap_of (by omega) (by omega)]; omega
theorem remN {m : Nat} : Int.tmod (-(m : Int)) 10 = -((m % 10 : Nat) : Int) := by
  rw [Int.neg_tmod, Int.tmod_eq_emod_of_nonneg (by omega)]; omega
theorem end103 {a x x' : Int} {out : List Nat} {d : Nat} {s : St} (hadd : out ++ digs x.natAbs = digs a.natAbs) (ha : In64 a) (hx : x.natAbs ≠ 0) (hd : d = x.natAbs % 10) (hx' : x'.natAbs = x.natAbs / 10) (hin : In64 x') (hs : Sub 25 s (L103 a x' (out ++ [d]))) :
    ∃ k' t, k' < x.natAbs ∧ Sub 25 s t ∧ ∃ x out, k' = x.natAbs ∧ In64 x ∧ out.length ≤ 100 ∧ out ++ digs x.natAbs = digs a.natAbs ∧ t = L103 a x out := by
  have e : (out ++ [d]) ++ digs x'.natAbs = digs a.natAbs := by
    rw [← hadd, digs_pos hx, hx', hd]; simp
  refine ⟨x'.natAbs, _, by omega, hs, x', out ++ [d], rfl, hin, ?_, e, rfl⟩
  have h1 := congrArg List.length e
  obtain ⟨ha1, ha2⟩ := ha
  have h2 : (digs a.natAbs).length ≤ 20 := digs_length_le (by omega)
  simp only [List.length_append] at h1 ⊢
  omega
set_option maxHeartbeats 8000000 in
theorem run103 (a : Int) (ha : In64 a) : Runs Try.prog 103 [pint .i64 a] [] (.d (bigD a)) [] := by
  refine Runs.of (kit Try.prog) Try.func103 rfl rfl (by rw [Try.ntmps103]; exact of_decide_eq_true rfl) ?_; rw [Try.ntmps103, Try.results103]
  repeat' (first|((first|refine goA rfl fun K hK=>?_|refine goB rfl fun K hK=>?_|refine goC rfl rfl fun K hK=>?_|refine goD rfl rfl fun K hK=>?_);simp (dsimp:=false) only [↓gq,↓stepP,↓stepG,go_sem])|refine Pwp.seq ?_|refine Pwp.block ?_|(refine Pwp.exit ?_;simp only [thenS,blockS,if_true,if_false,reduceIte,Nat.reduceEqDiff,Nat.add_one_ne_zero,reduceCtorEq])|(refine Pwp.skip ?_;simp only [thenS,blockS])|(refine Pwp.cond rfl True.intro (fun h=>?_) (fun h=>?_)<;>(try (cases h;done))<;>(try simp only [h]))|refine Pwp.ret ?_|(refine hK _ ?_;clear hK K)|(refine hK _ _ rfl ?_;clear hK K)|refine CallG.off ?_|with_reducible refine Or.inl ?_|simp only [thenS,blockS]|with_reducible refine And.intro ?_ ?_|with_reducible exact True.intro|simp (dsimp:=false) only [↓gq,↓stepP,↓stepG,go_sem])
  all_goals (try (first|(intro hg;simp_all;done)|(intro hg;simp [hg];done)|exact of_decide_eq_true rfl|(cases h;done)))
  refine Pwp.loop (fun k s => ∃ x out, k = x.natAbs ∧ In64 x ∧ out.length ≤ 100 ∧ out ++ digs x.natAbs = digs a.natAbs ∧ s = L103 a x out) a.natAbs (s := L103 a a []) (Sub.view V9n (by simp [L103]) rfl ?_ ?_) ⟨a, [], rfl, ha, by simp, rfl, rfl⟩ ?_
  · simp [viewH, viewP, viewL, viewO, L103, V9n, keptOf, find, digD, PVal.toD, subD_refl, disj, PVal.ids, pnil]
  · simp [viewT, viewP, L103, V9n, keptOf, St.ev, find, PVal.toD, subD_refl, disj, PVal.ids, pnil]
  rintro k s ⟨x, out, rfl, hx, hol0, hadd, rfl⟩
  unfold L103
  have hol := dig_len out
  have htk : (digD out).take out.length = digD out := List.take_of_length_le (by omega)
  obtain ⟨hx1, hx2⟩ := hx
  rcases Int.lt_trichotomy x 0 with h | h | h
  · obtain ⟨m, rfl⟩ : ∃ m : Nat, x = -(m : Int) := ⟨x.natAbs, by omega⟩
    have hc : (-(m : Int) != 0) = true := by simp; omega
    have q := quoN (m := m) (by omega)
    have r := remN (m := m)
    have s1 : IntKind.i64.wrap (0 - -((m % 10 : Nat) : Int)) = ((m % 10 : Nat) : Int) := by rw [wrap_of (by omega) (by omega)]; omega
    by_cases h0 : m % 10 = 0
    · have c1 : decide (-((m % 10 : Nat) : Int) < 0) = false := decide_eq_false (by omega)
      repeat' (first|((first|refine goA rfl fun K hK=>?_|refine goB rfl fun K hK=>?_|refine goC rfl rfl fun K hK=>?_|refine goD rfl rfl fun K hK=>?_);simp (dsimp:=false) only [↓gq,↓stepP,↓stepG,go_sem,hc,q,r,s1,c1,htk,hol])|refine Pwp.seq ?_|refine Pwp.block ?_|(refine Pwp.exit ?_;simp only [thenS,blockS,if_true,if_false,reduceIte,Nat.reduceEqDiff,Nat.add_one_ne_zero,reduceCtorEq])|(refine Pwp.skip ?_;simp only [thenS,blockS])|(refine Pwp.cond rfl True.intro (fun h=>?_) (fun h=>?_)<;>(try (cases h;done))<;>(try simp only [h]))|refine Pwp.ret ?_|(refine hK _ ?_;clear hK K)|(refine hK _ _ rfl ?_;clear hK K)|refine CallG.off ?_|with_reducible refine Or.inl ?_|simp only [thenS,blockS]|with_reducible refine And.intro ?_ ?_|with_reducible exact True.intro|simp (dsimp:=false) only [↓gq,↓stepP,↓stepG,go_sem,hc,q,r,s1,c1,htk,hol])
      all_goals (try (first|(intro hg;simp_all;done)|(intro hg;simp [hg];done)|exact of_decide_eq_true rfl|(cases h;done)))
      all_goals (try (first | omega | (simp [maxLen]; omega)))
      refine end103 (x' := -((m / 10 : Nat) : Int)) (d := m % 10) hadd ha (by omega) (by omega) (by omega) ⟨by omega, by omega⟩ (Sub.view (V9 1) (by simp [L103]) rfl ?_ ?_)
      · simp [viewH, viewP, viewL, viewO, L103, V9, keptOf, find, digD, PVal.toD, subD_refl, disj, PVal.ids, h0]
      · simp [viewT, viewP, L103, V9, keptOf, St.ev, find, PVal.toD, subD_refl, disj, PVal.ids]
    · have c1 : decide (-((m % 10 : Nat) : Int) < 0) = true := decide_eq_true (by omega)
      repeat' (first|((first|refine goA rfl fun K hK=>?_|refine goB rfl fun K hK=>?_|refine goC rfl rfl fun K hK=>?_|refine goD rfl rfl fun K hK=>?_);simp (dsimp:=false) only [↓gq,↓stepP,↓stepG,go_sem,hc,q,r,s1,c1,htk,hol])|refine Pwp.seq ?_|refine Pwp.block ?_|(refine Pwp.exit ?_;simp only [thenS,blockS,if_true,if_false,reduceIte,Nat.reduceEqDiff,Nat.add_one_ne_zero,reduceCtorEq])|(refine Pwp.skip ?_;simp only [thenS,blockS])|(refine Pwp.cond rfl True.intro (fun h=>?_) (fun h=>?_)<;>(try (cases h;done))<;>(try simp only [h]))|refine Pwp.ret ?_|(refine hK _ ?_;clear hK K)|(refine hK _ _ rfl ?_;clear hK K)|refine CallG.off ?_|with_reducible refine Or.inl ?_|simp only [thenS,blockS]|with_reducible refine And.intro ?_ ?_|with_reducible exact True.intro|simp (dsimp:=false) only [↓gq,↓stepP,↓stepG,go_sem,hc,q,r,s1,c1,htk,hol])
      all_goals (try (first|(intro hg;simp_all;done)|(intro hg;simp [hg];done)|exact of_decide_eq_true rfl|(cases h;done)))
      all_goals (try (first | omega | (simp [maxLen]; omega)))
      refine end103 (x' := -((m / 10 : Nat) : Int)) (d := m % 10) hadd ha (by omega) (by omega) (by omega) ⟨by omega, by omega⟩ (Sub.view (V9 1) (by simp [L103]) rfl ?_ ?_)
      · simp [viewH, viewP, viewL, viewO, L103, V9, keptOf, find, digD, PVal.toD, subD_refl, disj, PVal.ids]
      · simp [viewT, viewP, L103, V9, keptOf, St.ev, find, PVal.toD, subD_refl, disj, PVal.ids]
  · subst h
    have hc : ((0 : Int) != 0) = false := by simp
    repeat' (first|((first|refine goA rfl fun K hK=>?_|refine goB rfl fun K hK=>?_|refine goC rfl rfl fun K hK=>?_|refine goD rfl rfl fun K hK=>?_);simp (dsimp:=false) only [↓gq,↓stepP,↓stepG,go_sem,hc])|refine Pwp.seq ?_|refine Pwp.block ?_|(refine Pwp.exit ?_;simp only [thenS,blockS,if_true,if_false,reduceIte,Nat.reduceEqDiff,Nat.add_one_ne_zero,reduceCtorEq])|(refine Pwp.skip ?_;simp only [thenS,blockS])|(refine Pwp.cond rfl True.intro (fun h=>?_) (fun h=>?_)<;>(try (cases h;done))<;>(try simp only [h]))|refine Pwp.ret ?_|(refine hK _ ?_;clear hK K)|(refine hK _ _ rfl ?_;clear hK K)|refine CallG.off ?_|with_reducible refine Or.inl ?_|simp only [thenS,blockS]|with_reducible refine And.intro ?_ ?_|with_reducible exact True.intro|simp (dsimp:=false) only [↓gq,↓stepP,↓stepG,go_sem,hc])
    all_goals (try (first|(intro hg;simp_all;done)|(intro hg;simp [hg];done)|exact of_decide_eq_true rfl|(cases h;done)))
    have he : out = digs a.natAbs := by rw [← hadd]; simp [digs_zero]
    subst he
    (refine Fin.data (.inr rfl) (by simp (dsimp:=false) only [↓gq,↓stepP,↓stepG,go_sem,resL,htk,hol]; rfl) (by simp only [and_self]) (by simp (dsimp:=false) only [↓gq,↓stepP,↓stepG,go_sem,resP,Nat.le_refl,List.take_length,htk,hol]; try rfl) ?_)
    exact subD_refl _
  · obtain ⟨m, rfl⟩ : ∃ m : Nat, x = (m : Int) := ⟨x.natAbs, by omega⟩
    have hc : ((m : Int) != 0) = true := by simp; omega
    have q := quoP (m := m) (by omega)
    have r := rem10 (m := m)
    have c1 : decide (((m % 10 : Nat) : Int) < 0) = false := decide_eq_false (by omega)
    repeat' (first|((first|refine goA rfl fun K hK=>?_|refine goB rfl fun K hK=>?_|refine goC rfl rfl fun K hK=>?_|refine goD rfl rfl fun K hK=>?_);simp (dsimp:=false) only [↓gq,↓stepP,↓stepG,go_sem,hc,q,r,c1,htk,hol])|refine Pwp.seq ?_|refine Pwp.block ?_|(refine Pwp.exit ?_;simp only [thenS,blockS,if_true,if_false,reduceIte,Nat.reduceEqDiff,Nat.add_one_ne_zero,reduceCtorEq])|(refine Pwp.skip ?_;simp only [thenS,blockS])|(refine Pwp.cond rfl True.intro (fun h=>?_) (fun h=>?_)<;>(try (cases h;done))<;>(try simp only [h]))|refine Pwp.ret ?_|(refine hK _ ?_;clear hK K)|(refine hK _ _ rfl ?_;clear hK K)|refine CallG.off ?_|with_reducible refine Or.inl ?_|simp only [thenS,blockS]|with_reducible refine And.intro ?_ ?_|with_reducible exact True.intro|simp (dsimp:=false) only [↓gq,↓stepP,↓stepG,go_sem,hc,q,r,c1,htk,hol])
    all_goals (try (first|(intro hg;simp_all;done)|(intro hg;simp [hg];done)|exact of_decide_eq_true rfl|(cases h;done)))
    all_goals (try (first | omega | (simp [maxLen]; omega)))
    refine end103 (x' := ((m / 10 : Nat) : Int)) (d := m % 10) hadd ha (by omega) (by omega) (by omega) ⟨by omega, by omega⟩ (Sub.view (V9 1) (by simp [L103]) rfl ?_ ?_)
    · simp [viewH, viewP, viewL, viewO, L103, V9, keptOf, find, digD, PVal.toD, subD_refl, disj, PVal.ids]
    · simp [viewT, viewP, L103, V9, keptOf, St.ev, find, PVal.toD, subD_refl, disj, PVal.ids]
end Go.Proofs.Ytdodgbhodkcckaa.Pv
end
section
set_option linter.unusedVariables false
set_option linter.unusedSimpArgs false
set_option autoImplicit false
set_option maxRecDepth 100000
namespace Go.Proofs.Ytdodgbhodkcckaa.Pv
open Go Go.RowKit Dig
theorem lessB_digs (a b : Nat) : lessB (digs a) (digs b) = decide (a < b) := by
  unfold lessB
  split
  · rw [val_digs, val_digs]
  · rename_i hne
    rcases Nat.lt_trichotomy (digs a).length (digs b).length with h | h | h
    · rw [decide_eq_true h, decide_eq_true (digs_length_lt h)]
    · exact absurd h hne
    · have := digs_length_lt h
      rw [decide_eq_false (by omega), decide_eq_false (by omega)]
theorem val_sub_digs {a b : Nat} (h : b ≤ a) : val (Dig.subL (digs a) (digs b) 0) = a - b := by
  have := val_subL (small_digs a) (small_digs b) (c := 0) (by omega) (by rw [val_digs, val_digs]; omega)
  rw [val_digs, val_digs] at this; omega
theorem digs_len_pos (n : Nat) : decide (0 < ((digD (digs n)).length : Int)) = decide (n ≠ 0) := by
  rw [dig_len]
  by_cases h : n = 0
  · subst h; rw [digs_zero]; simp
  · rw [digs_pos h, decide_eq_true h]; simp
theorem big_eq {s s' : Bool} {n n' : Nat} (h1 : s = s') (h2 : n = n') : subD (.agg [.v (.bool s), .slc 1 (digD (digs n))]) (.agg [.v (.bool s'), .slc 1 (digD (digs n'))]) := by subst h1; subst h2; exact subD_refl _
set_option maxHeartbeats 8000000 in
theorem run102 (x y : Int) (hx : (digs x.natAbs).length ≤ 1000) (hy : (digs y.natAbs).length ≤ 1000) : Runs Try.prog 102 [.d (bigD x), .d (bigD y)] [] (.d (bigD (x + y))) [] := by
  have r161 := run161 (digs x.natAbs) (digs y.natAbs) (small_digs _) (small_digs _) (by omega) (by omega)
  have hal := length_addL (digs x.natAbs) (digs y.natAbs) 0
  have r160 := run160 (addL (digs x.natAbs) (digs y.natAbs) 0) (by omega)
  rw [trim_eq (small_addL (small_digs _) (small_digs _) (by omega)), val_addL, val_digs, val_digs] at r160
  have r162 := run162 (digs x.natAbs) (digs y.natAbs) (small_digs _) (small_digs _) (by omega) (by omega)
  rw [lessB_digs] at r162
  have rxy := run163 (digs x.natAbs) (digs y.natAbs) (small_digs _) (small_digs _) (by omega) (by omega)
  have ryx := run163 (digs y.natAbs) (digs x.natAbs) (small_digs _) (small_digs _) (by omega) (by omega)
  unfold bigD
  cases hsx : decide (x < 0) <;> cases hsy : decide (y < 0) <;> cases hlt : decide (x.natAbs < y.natAbs) <;> rw [hlt] at r162
  · refine Runs.of (kit Try.prog) Try.func102 rfl rfl (by rw [Try.ntmps102]; exact of_decide_eq_true rfl) ?_; rw [Try.ntmps102, Try.results102]
    repeat' (first|((first|refine goA rfl fun K hK=>?_|refine goB rfl fun K hK=>?_|refine goC rfl rfl fun K hK=>?_|refine goD rfl rfl fun K hK=>?_);simp (dsimp:=false) only [↓gq,↓stepP,↓stepG,go_sem])|refine Pwp.seq ?_|refine Pwp.block ?_|(refine Pwp.exit ?_;simp only [thenS,blockS,if_true,if_false,reduceIte,Nat.reduceEqDiff,Nat.add_one_ne_zero,reduceCtorEq])|(refine Pwp.skip ?_;simp only [thenS,blockS])|(refine Pwp.cond rfl True.intro (fun h=>?_) (fun h=>?_)<;>(try (cases h;done))<;>(try simp only [h]))|refine Pwp.ret ?_|(refine hK _ ?_;clear hK K)|(refine hK _ _ rfl ?_;clear hK K)|(refine CallK.give (ds:=[.slc 1 (digD (digs x.natAbs)), .slc 1 (digD (digs y.natAbs))]) rfl (r161) (by simp) ?_)|(refine CallK.give (ds:=[.slc 1 (digD (addL (digs x.natAbs) (digs y.natAbs) 0))]) rfl (r160) (by simp) ?_)|(refine CallK.give (ds:=[.slc 1 (digD (digs x.natAbs)), .slc 1 (digD (digs y.natAbs))]) rfl (r162) (by simp) ?_)|(refine CallK.give (ds:=[.slc 1 (digD (digs x.natAbs)), .slc 1 (digD (digs y.natAbs))]) rfl (rxy) (by simp) ?_)|(refine CallK.give (ds:=[.slc 1 (digD (digs y.natAbs)), .slc 1 (digD (digs x.natAbs))]) rfl (ryx) (by simp) ?_)|refine CallG.off ?_|with_reducible refine Or.inl ?_|simp only [thenS,blockS]|with_reducible refine And.intro ?_ ?_|with_reducible exact True.intro|simp (dsimp:=false) only [↓gq,↓stepP,↓stepG,go_sem])
    all_goals (try (first|(intro hg;simp_all;done)|(intro hg;simp [hg];done)|exact of_decide_eq_true rfl|(cases h;done)))
    (refine Fin.data (.inr rfl) (by simp (dsimp:=false) only [↓gq,↓stepP,↓stepG,go_sem,resL]; rfl) (by simp only [and_self]) (by simp (dsimp:=false) only [↓gq,↓stepP,↓stepG,go_sem,resP,Nat.le_refl,List.take_length]; try rfl) ?_)
    simp only [decide_eq_true_eq, decide_eq_false_iff_not] at hsx hsy hlt
    try simp only [digs_len_pos]
    refine big_eq ?_ ?_
    · first | (symm; exact decide_eq_true (by omega)) | (symm; exact decide_eq_false (by omega)) | (rw [val_sub_digs (by omega), Bool.true_and]; exact decide_eq_decide.2 (by omega)) | (rw [Bool.false_and]; symm; exact decide_eq_false (by omega)) | (rw [val_sub_digs (by omega)]; exact decide_eq_decide.2 (by omega))
    · first | omega | (rw [val_sub_digs (by omega)]; omega)
  · refine Runs.of (kit Try.prog) Try.func102 rfl rfl (by rw [Try.ntmps102]; exact of_decide_eq_true rfl) ?_; rw [Try.ntmps102, Try.results102]
    repeat' (first|((first|refine goA rfl fun K hK=>?_|refine goB rfl fun K hK=>?_|refine goC rfl rfl fun K hK=>?_|refine goD rfl rfl fun K hK=>?_);simp (dsimp:=false) only [↓gq,↓stepP,↓stepG,go_sem])|refine Pwp.seq ?_|refine Pwp.block ?_|(refine Pwp.exit ?_;simp only [thenS,blockS,if_true,if_false,reduceIte,Nat.reduceEqDiff,Nat.add_one_ne_zero,reduceCtorEq])|(refine Pwp.skip ?_;simp only [thenS,blockS])|(refine Pwp.cond rfl True.intro (fun h=>?_) (fun h=>?_)<;>(try (cases h;done))<;>(try simp only [h]))|refine Pwp.ret ?_|(refine hK _ ?_;clear hK K)|(refine hK _ _ rfl ?_;clear hK K)|(refine CallK.give (ds:=[.slc 1 (digD (digs x.natAbs)), .slc 1 (digD (digs y.natAbs))]) rfl (r161) (by simp) ?_)|(refine CallK.give (ds:=[.slc 1 (digD (addL (digs x.natAbs) (digs y.natAbs) 0))]) rfl (r160) (by simp) ?_)|(refine CallK.give (ds:=[.slc 1 (digD (digs x.natAbs)), .slc 1 (digD (digs y.natAbs))]) rfl (r162) (by simp) ?_)|(refine CallK.give (ds:=[.slc 1 (digD (digs x.natAbs)), .slc 1 (digD (digs y.natAbs))]) rfl (rxy) (by simp) ?_)|(refine CallK.give (ds:=[.slc 1 (digD (digs y.natAbs)), .slc 1 (digD (digs x.natAbs))]) rfl (ryx) (by simp) ?_)|refine CallG.off ?_|with_reducible refine Or.inl ?_|simp only [thenS,blockS]|with_reducible refine And.intro ?_ ?_|with_reducible exact True.intro|simp (dsimp:=false) only [↓gq,↓stepP,↓stepG,go_sem])
    all_goals (try (first|(intro hg;simp_all;done)|(intro hg;simp [hg];done)|exact of_decide_eq_true rfl|(cases h;done)))
    (refine Fin.data (.inr rfl) (by simp (dsimp:=false) only [↓gq,↓stepP,↓stepG,go_sem,resL]; rfl) (by simp only [and_self]) (by simp (dsimp:=false) only [↓gq,↓stepP,↓stepG,go_sem,resP,Nat.le_refl,List.take_length]; try rfl) ?_)
    simp only [decide_eq_true_eq, decide_eq_false_iff_not] at hsx hsy hlt
    try simp only [digs_len_pos]
    refine big_eq ?_ ?_
    · first | (symm; exact decide_eq_true (by omega)) | (symm; exact decide_eq_false (by omega)) | (rw [val_sub_digs (by omega), Bool.true_and]; exact decide_eq_decide.2 (by omega)) | (rw [Bool.false_and]; symm; exact decide_eq_false (by omega)) | (rw [val_sub_digs (by omega)]; exact decide_eq_decide.2 (by omega))
    · first | omega | (rw [val_sub_digs (by omega)]; omega)
  · refine Runs.of (kit Try.prog) Try.func102 rfl rfl (by rw [Try.ntmps102]; exact of_decide_eq_true rfl) ?_; rw [Try.ntmps102, Try.results102]
    repeat' (first|((first|refine goA rfl fun K hK=>?_|refine goB rfl fun K hK=>?_|refine goC rfl rfl fun K hK=>?_|refine goD rfl rfl fun K hK=>?_);simp (dsimp:=false) only [↓gq,↓stepP,↓stepG,go_sem])|refine Pwp.seq ?_|refine Pwp.block ?_|(refine Pwp.exit ?_;simp only [thenS,blockS,if_true,if_false,reduceIte,Nat.reduceEqDiff,Nat.add_one_ne_zero,reduceCtorEq])|(refine Pwp.skip ?_;simp only [thenS,blockS])|(refine Pwp.cond rfl True.intro (fun h=>?_) (fun h=>?_)<;>(try (cases h;done))<;>(try simp only [h]))|refine Pwp.ret ?_|(refine hK _ ?_;clear hK K)|(refine hK _ _ rfl ?_;clear hK K)|(refine CallK.give (ds:=[.slc 1 (digD (digs x.natAbs)), .slc 1 (digD (digs y.natAbs))]) rfl (r161) (by simp) ?_)|(refine CallK.give (ds:=[.slc 1 (digD (addL (digs x.natAbs) (digs y.natAbs) 0))]) rfl (r160) (by simp) ?_)|(refine CallK.give (ds:=[.slc 1 (digD (digs x.natAbs)), .slc 1 (digD (digs y.natAbs))]) rfl (r162) (by simp) ?_)|(refine CallK.give (ds:=[.slc 1 (digD (digs x.natAbs)), .slc 1 (digD (digs y.natAbs))]) rfl (rxy) (by simp) ?_)|(refine CallK.give (ds:=[.slc 1 (digD (digs y.natAbs)), .slc 1 (digD (digs x.natAbs))]) rfl (ryx) (by simp) ?_)|refine CallG.off ?_|with_reducible refine Or.inl ?_|simp only [thenS,blockS]|with_reducible refine And.intro ?_ ?_|with_reducible exact True.intro|simp (dsimp:=false) only [↓gq,↓stepP,↓stepG,go_sem])
    all_goals (try (first|(intro hg;simp_all;done)|(intro hg;simp [hg];done)|exact of_decide_eq_true rfl|(cases h;done)))
    (refine Fin.data (.inr rfl) (by simp (dsimp:=false) only [↓gq,↓stepP,↓stepG,go_sem,resL]; rfl) (by simp only [and_self]) (by simp (dsimp:=false) only [↓gq,↓stepP,↓stepG,go_sem,resP,Nat.le_refl,List.take_length]; try rfl) ?_)
    simp only [decide_eq_true_eq, decide_eq_false_iff_not] at hsx hsy hlt
    try simp only [digs_len_pos]
    refine big_eq ?_ ?_
    · first | (symm; exact decide_eq_true (by omega)) | (symm; exact decide_eq_false (by omega)) | (rw [val_sub_digs (by omega), Bool.true_and]; exact decide_eq_decide.2 (by omega)) | (rw [Bool.false_and]; symm; exact decide_eq_false (by omega)) | (rw [val_sub_digs (by omega)]; exact decide_eq_decide.2 (by omega))
    · first | omega | (rw [val_sub_digs (by omega)]; omega)
  · refine Runs.of (kit Try.prog) Try.func102 rfl rfl (by rw [Try.ntmps102]; exact of_decide_eq_true rfl) ?_; rw [Try.ntmps102, Try.results102]
    repeat' (first|((first|refine goA rfl fun K hK=>?_|refine goB rfl fun K hK=>?_|refine goC rfl rfl fun K hK=>?_|refine goD rfl rfl fun K hK=>?_);simp (dsimp:=false) only [↓gq,↓stepP,↓stepG,go_sem])|refine Pwp.seq ?_|refine Pwp.block ?_|(refine Pwp.exit ?_;simp only [thenS,blockS,if_true,if_false,reduceIte,Nat.reduceEqDiff,Nat.add_one_ne_zero,reduceCtorEq])|(refine Pwp.skip ?_;simp only [thenS,blockS])|(refine Pwp.cond rfl True.intro (fun h=>?_) (fun h=>?_)<;>(try (cases h;done))<;>(try simp only [h]))|refine Pwp.ret ?_|(refine hK _ ?_;clear hK K)|(refine hK _ _ rfl ?_;clear hK K)|(refine CallK.give (ds:=[.slc 1 (digD (digs x.natAbs)), .slc 1 (digD (digs y.natAbs))]) rfl (r161) (by simp) ?_)|(refine CallK.give (ds:=[.slc 1 (digD (addL (digs x.natAbs) (digs y.natAbs) 0))]) rfl (r160) (by simp) ?_)|(refine CallK.give (ds:=[.slc 1 (digD (digs x.natAbs)), .slc 1 (digD (digs y.natAbs))]) rfl (r162) (by simp) ?_)|(refine CallK.give (ds:=[.slc 1 (digD (digs x.natAbs)), .slc 1 (digD (digs y.natAbs))]) rfl (rxy) (by simp) ?_)|(refine CallK.give (ds:=[.slc 1 (digD (digs y.natAbs)), .slc 1 (digD (digs x.natAbs))]) rfl (ryx) (by simp) ?_)|refine CallG.off ?_|with_reducible refine Or.inl ?_|simp only [thenS,blockS]|with_reducible refine And.intro ?_ ?_|with_reducible exact True.intro|simp (dsimp:=false) only [↓gq,↓stepP,↓stepG,go_sem])
    all_goals (try (first|(intro hg;simp_all;done)|(intro hg;simp [hg];done)|exact of_decide_eq_true rfl|(cases h;done)))
    (refine Fin.data (.inr rfl) (by simp (dsimp:=false) only [↓gq,↓stepP,↓stepG,go_sem,resL]; rfl) (by simp only [and_self]) (by simp (dsimp:=false) only [↓gq,↓stepP,↓stepG,go_sem,resP,Nat.le_refl,List.take_length]; try rfl) ?_)
    simp only [decide_eq_true_eq, decide_eq_false_iff_not] at hsx hsy hlt
    try simp only [digs_len_pos]
    refine big_eq ?_ ?_
    · first | (symm; exact decide_eq_true (by omega)) | (symm; exact decide_eq_false (by omega)) | (rw [val_sub_digs (by omega), Bool.true_and]; exact decide_eq_decide.2 (by omega)) | (rw [Bool.false_and]; symm; exact decide_eq_false (by omega)) | (rw [val_sub_digs (by omega)]; exact decide_eq_decide.2 (by omega))
    · first | omega | (rw [val_sub_digs (by omega)]; omega)
  · refine Runs.of (kit Try.prog) Try.func102 rfl rfl (by rw [Try.ntmps102]; exact of_decide_eq_true rfl) ?_; rw [Try.ntmps102, Try.results102]
    repeat' (first|((first|refine goA rfl fun K hK=>?_|refine goB rfl fun K hK=>?_|refine goC rfl rfl fun K hK=>?_|refine goD rfl rfl fun K hK=>?_);simp (dsimp:=false) only [↓gq,↓stepP,↓stepG,go_sem])|refine Pwp.seq ?_|refine Pwp.block ?_|(refine Pwp.exit ?_;simp only [thenS,blockS,if_true,if_false,reduceIte,Nat.reduceEqDiff,Nat.add_one_ne_zero,reduceCtorEq])|(refine Pwp.skip ?_;simp only [thenS,blockS])|(refine Pwp.cond rfl True.intro (fun h=>?_) (fun h=>?_)<;>(try (cases h;done))<;>(try simp only [h]))|refine Pwp.ret ?_|(refine hK _ ?_;clear hK K)|(refine hK _ _ rfl ?_;clear hK K)|(refine CallK.give (ds:=[.slc 1 (digD (digs x.natAbs)), .slc 1 (digD (digs y.natAbs))]) rfl (r161) (by simp) ?_)|(refine CallK.give (ds:=[.slc 1 (digD (addL (digs x.natAbs) (digs y.natAbs) 0))]) rfl (r160) (by simp) ?_)|(refine CallK.give (ds:=[.slc 1 (digD (digs x.natAbs)), .slc 1 (digD (digs y.natAbs))]) rfl (r162) (by simp) ?_)|(refine CallK.give (ds:=[.slc 1 (digD (digs x.natAbs)), .slc 1 (digD (digs y.natAbs))]) rfl (rxy) (by simp) ?_)|(refine CallK.give (ds:=[.slc 1 (digD (digs y.natAbs)), .slc 1 (digD (digs x.natAbs))]) rfl (ryx) (by simp) ?_)|refine CallG.off ?_|with_reducible refine Or.inl ?_|simp only [thenS,blockS]|with_reducible refine And.intro ?_ ?_|with_reducible exact True.intro|simp (dsimp:=false) only [↓gq,↓stepP,↓stepG,go_sem])
    all_goals (try (first|(intro hg;simp_all;done)|(intro hg;simp [hg];done)|exact of_decide_eq_true rfl|(cases h;done)))
    (refine Fin.data (.inr rfl) (by simp (dsimp:=false) only [↓gq,↓stepP,↓stepG,go_sem,resL]; rfl) (by simp only [and_self]) (by simp (dsimp:=false) only [↓gq,↓stepP,↓stepG,go_sem,resP,Nat.le_refl,List.take_length]; try rfl) ?_)
    simp only [decide_eq_true_eq, decide_eq_false_iff_not] at hsx hsy hlt
    try simp only [digs_len_pos]
    refine big_eq ?_ ?_
    · first | (symm; exact decide_eq_true (by omega)) | (symm; exact decide_eq_false (by omega)) | (rw [val_sub_digs (by omega), Bool.true_and]; exact decide_eq_decide.2 (by omega)) | (rw [Bool.false_and]; symm; exact decide_eq_false (by omega)) | (rw [val_sub_digs (by omega)]; exact decide_eq_decide.2 (by omega))
    · first | omega | (rw [val_sub_digs (by omega)]; omega)
  · refine Runs.of (kit Try.prog) Try.func102 rfl rfl (by rw [Try.ntmps102]; exact of_decide_eq_true rfl) ?_; rw [Try.ntmps102, Try.results102]
    repeat' (first|((first|refine goA rfl fun K hK=>?_|refine goB rfl fun K hK=>?_|refine goC rfl rfl fun K hK=>?_|refine goD rfl rfl fun K hK=>?_);simp (dsimp:=false) only [↓gq,↓stepP,↓stepG,go_sem])|refine Pwp.seq ?_|refine Pwp.block ?_|(refine Pwp.exit ?_;simp only [thenS,blockS,if_true,if_false,reduceIte,Nat.reduceEqDiff,Nat.add_one_ne_zero,reduceCtorEq])|(refine Pwp.skip ?_;simp only [thenS,blockS])|(refine Pwp.cond rfl True.intro (fun h=>?_) (fun h=>?_)<;>(try (cases h;done))<;>(try simp only [h]))|refine Pwp.ret ?_|(refine hK _ ?_;clear hK K)|(refine hK _ _ rfl ?_;clear hK K)|(refine CallK.give (ds:=[.slc 1 (digD (digs x.natAbs)), .slc 1 (digD (digs y.natAbs))]) rfl (r161) (by simp) ?_)|(refine CallK.give (ds:=[.slc 1 (digD (addL (digs x.natAbs) (digs y.natAbs) 0))]) rfl (r160) (by simp) ?_)|(refine CallK.give (ds:=[.slc 1 (digD (digs x.natAbs)), .slc 1 (digD (digs y.natAbs))]) rfl (r162) (by simp) ?_)|(refine CallK.give (ds:=[.slc 1 (digD (digs x.natAbs)), .slc 1 (digD (digs y.natAbs))]) rfl (rxy) (by simp) ?_)|(refine CallK.give (ds:=[.slc 1 (digD (digs y.natAbs)), .slc 1 (digD (digs x.natAbs))]) rfl (ryx) (by simp) ?_)|refine CallG.off ?_|with_reducible refine Or.inl ?_|simp only [thenS,blockS]|with_reducible refine And.intro ?_ ?_|with_reducible exact True.intro|simp (dsimp:=false) only [↓gq,↓stepP,↓stepG,go_sem])
    all_goals (try (first|(intro hg;simp_all;done)|(intro hg;simp [hg];done)|exact of_decide_eq_true rfl|(cases h;done)))
    (refine Fin.data (.inr rfl) (by simp (dsimp:=false) only [↓gq,↓stepP,↓stepG,go_sem,resL]; rfl) (by simp only [and_self]) (by simp (dsimp:=false) only [↓gq,↓stepP,↓stepG,go_sem,resP,Nat.le_refl,List.take_length]; try rfl) ?_)
    simp only [decide_eq_true_eq, decide_eq_false_iff_not] at hsx hsy hlt
    try simp only [digs_len_pos]
    refine big_eq ?_ ?_
    · first | (symm; exact decide_eq_true (by omega)) | (symm; exact decide_eq_false (by omega)) | (rw [val_sub_digs (by omega), Bool.true_and]; exact decide_eq_decide.2 (by omega)) | (rw [Bool.false_and]; symm; exact decide_eq_false (by omega)) | (rw [val_sub_digs (by omega)]; exact decide_eq_decide.2 (by omega))
    · first | omega | (rw [val_sub_digs (by omega)]; omega)
  · refine Runs.of (kit Try.prog) Try.func102 rfl rfl (by rw [Try.ntmps102]; exact of_decide_eq_true rfl) ?_; rw [Try.ntmps102, Try.results102]
    repeat' (first|((first|refine goA rfl fun K hK=>?_|refine goB rfl fun K hK=>?_|refine goC rfl rfl fun K hK=>?_|refine goD rfl rfl fun K hK=>?_);simp (dsimp:=false) only [↓gq,↓stepP,↓stepG,go_sem])|refine Pwp.seq ?_|refine Pwp.block ?_|(refine Pwp.exit ?_;simp only [thenS,blockS,if_true,if_false,reduceIte,Nat.reduceEqDiff,Nat.add_one_ne_zero,reduceCtorEq])|(refine Pwp.skip ?_;simp only [thenS,blockS])|(refine Pwp.cond rfl True.intro (fun h=>?_) (fun h=>?_)<;>(try (cases h;done))<;>(try simp only [h]))|refine Pwp.ret ?_|(refine hK _ ?_;clear hK K)|(refine hK _ _ rfl ?_;clear hK K)|(refine CallK.give (ds:=[.slc 1 (digD (digs x.natAbs)), .slc 1 (digD (digs y.natAbs))]) rfl (r161) (by simp) ?_)|(refine CallK.give (ds:=[.slc 1 (digD (addL (digs x.natAbs) (digs y.natAbs) 0))]) rfl (r160) (by simp) ?_)|(refine CallK.give (ds:=[.slc 1 (digD (digs x.natAbs)), .slc 1 (digD (digs y.natAbs))]) rfl (r162) (by simp) ?_)|(refine CallK.give (ds:=[.slc 1 (digD (digs x.natAbs)), .slc 1 (digD (digs y.natAbs))]) rfl (rxy) (by simp) ?_)|(refine CallK.give (ds:=[.slc 1 (digD (digs y.natAbs)), .slc 1 (digD (digs x.natAbs))]) rfl (ryx) (by simp) ?_)|refine CallG.off ?_|with_reducible refine Or.inl ?_|simp only [thenS,blockS]|with_reducible refine And.intro ?_ ?_|with_reducible exact True.intro|simp (dsimp:=false) only [↓gq,↓stepP,↓stepG,go_sem])
    all_goals (try (first|(intro hg;simp_all;done)|(intro hg;simp [hg];done)|exact of_decide_eq_true rfl|(cases h;done)))
    (refine Fin.data (.inr rfl) (by simp (dsimp:=false) only [↓gq,↓stepP,↓stepG,go_sem,resL]; rfl) (by simp only [and_self]) (by simp (dsimp:=false) only [↓gq,↓stepP,↓stepG,go_sem,resP,Nat.le_refl,List.take_length]; try rfl) ?_)
    simp only [decide_eq_true_eq, decide_eq_false_iff_not] at hsx hsy hlt
    try simp only [digs_len_pos]
    refine big_eq ?_ ?_
    · first | (symm; exact decide_eq_true (by omega)) | (symm; exact decide_eq_false (by omega)) | (rw [val_sub_digs (by omega), Bool.true_and]; exact decide_eq_decide.2 (by omega)) | (rw [Bool.false_and]; symm; exact decide_eq_false (by omega)) | (rw [val_sub_digs (by omega)]; exact decide_eq_decide.2 (by omega))
    · first | omega | (rw [val_sub_digs (by omega)]; omega)
  · refine Runs.of (kit Try.prog) Try.func102 rfl rfl (by rw [Try.ntmps102]; exact of_decide_eq_true rfl) ?_; rw [Try.ntmps102, Try.results102]
    repeat' (first|((first|refine goA rfl fun K hK=>?_|refine goB rfl fun K hK=>?_|refine goC rfl rfl fun K hK=>?_|refine goD rfl rfl fun K hK=>?_);simp (dsimp:=false) only [↓gq,↓stepP,↓stepG,go_sem])|refine Pwp.seq ?_|refine Pwp.block ?_|(refine Pwp.exit ?_;simp only [thenS,blockS,if_true,if_false,reduceIte,Nat.reduceEqDiff,Nat.add_one_ne_zero,reduceCtorEq])|(refine Pwp.skip ?_;simp only [thenS,blockS])|(refine Pwp.cond rfl True.intro (fun h=>?_) (fun h=>?_)<;>(try (cases h;done))<;>(try simp only [h]))|refine Pwp.ret ?_|(refine hK _ ?_;clear hK K)|(refine hK _ _ rfl ?_;clear hK K)|(refine CallK.give (ds:=[.slc 1 (digD (digs x.natAbs)), .slc 1 (digD (digs y.natAbs))]) rfl (r161) (by simp) ?_)|(refine CallK.give (ds:=[.slc 1 (digD (addL (digs x.natAbs) (digs y.natAbs) 0))]) rfl (r160) (by simp) ?_)|(refine CallK.give (ds:=[.slc 1 (digD (digs x.natAbs)), .slc 1 (digD (digs y.natAbs))]) rfl (r162) (by simp) ?_)|(refine CallK.give (ds:=[.slc 1 (digD (digs x.natAbs)), .slc 1 (digD (digs y.natAbs))]) rfl (rxy) (by simp) ?_)|(refine CallK.give (ds:=[.slc 1 (digD (digs y.natAbs)), .slc 1 (digD (digs x.natAbs))]) rfl (ryx) (by simp) ?_)|refine CallG.off ?_|with_reducible refine Or.inl ?_|simp only [thenS,blockS]|with_reducible refine And.intro ?_ ?_|with_reducible exact True.intro|simp (dsimp:=false) only [↓gq,↓stepP,↓stepG,go_sem])
    all_goals (try (first|(intro hg;simp_all;done)|(intro hg;simp [hg];done)|exact of_decide_eq_true rfl|(cases h;done)))
    (refine Fin.data (.inr rfl) (by simp (dsimp:=false) only [↓gq,↓stepP,↓stepG,go_sem,resL]; rfl) (by simp only [and_self]) (by simp (dsimp:=false) only [↓gq,↓stepP,↓stepG,go_sem,resP,Nat.le_refl,List.take_length]; try rfl) ?_)
    simp only [decide_eq_true_eq, decide_eq_false_iff_not] at hsx hsy hlt
    try simp only [digs_len_pos]
    refine big_eq ?_ ?_
    · first | (symm; exact decide_eq_true (by omega)) | (symm; exact decide_eq_false (by omega)) | (rw [val_sub_digs (by omega), Bool.true_and]; exact decide_eq_decide.2 (by omega)) | (rw [Bool.false_and]; symm; exact decide_eq_false (by omega)) | (rw [val_sub_digs (by omega)]; exact decide_eq_decide.2 (by omega))
    · first | omega | (rw [val_sub_digs (by omega)]; omega)
end Go.Proofs.Ytdodgbhodkcckaa.Pv
end
section
set_option linter.unusedVariables false
set_option linter.unusedSimpArgs false
set_option autoImplicit false
set_option maxRecDepth 100000
namespace Go.Proofs.Ytdodgbhodkcckaa.Pv
open Go Go.RowKit Dig
theorem most1 : [7, 0, 8, 5, 7, 7, 4, 5, 8, 6, 3, 0, 2, 7, 3, 3, 2, 2, 9] = digs 9223372036854775807 := by
  have h := canon_digs (l := [7, 0, 8, 5, 7, 7, 4, 5, 8, 6, 3, 0, 2, 7, 3, 3, 2, 2, 9]) ⟨by intro d hd; simp at hd; omega, by simp⟩
  simpa [val] using h.symm
theorem most2 : [8, 0, 8, 5, 7, 7, 4, 5, 8, 6, 3, 0, 2, 7, 3, 3, 2, 2, 9] = digs 9223372036854775808 := by
  have h := canon_digs (l := [8, 0, 8, 5, 7, 7, 4, 5, 8, 6, 3, 0, 2, 7, 3, 3, 2, 2, 9]) ⟨by intro d hd; simp at hd; omega, by simp⟩
  simpa [val] using h.symm
theorem val_drop_le (l : List Nat) (i : Nat) : val (l.drop i) ≤ val l := by
  have h := val_append (l.take i) (l.drop i)
  rw [List.take_append_drop] at h
  have : 1 * val (l.drop i) ≤ 10 ^ (l.take i).length * val (l.drop i) := Nat.mul_le_mul_right _ (Nat.pow_pos (by omega))
  omega
theorem val_drop_succ {l : List Nat} {n d : Nat} (h : l[n]? = some d) : val (l.drop n) = d + 10 * val (l.drop (n + 1)) := by
  obtain ⟨hn, rfl⟩ := List.getElem?_eq_some_iff.1 h
  rw [List.drop_eq_getElem_cons hn]; rfl
def L104 (b : Bool) (l : List Nat) (v : Int) (n : Nat) : St := ⟨[(6, pint .i64 ((n : Int) - 1)), (5, pint .i64 v), (1, .ref 8 0)], [(8, .box [.d (.v (.bool b)), .d (.slc 1 (digD l))])], 76⟩
set_option maxHeartbeats 8000000 in
theorem run104p (l : List Nat) (hs : Small l) (hl : l.length ≤ 1000) (hm : decide (9223372036854775807 < val l) = false) (hd : l = digs (val l)) : Runs Try.prog 104 [.d (.agg [.v (.bool false), .slc 1 (digD l)])] [] (.d (.tup [I64 (val l), .v (.bool true)])) [] := by
  have r := run162 [7, 0, 8, 5, 7, 7, 4, 5, 8, 6, 3, 0, 2, 7, 3, 3, 2, 2, 9] l (by rw [most1]; exact small_digs _) hs (by simp) (by omega)
  have hll : lessB [7, 0, 8, 5, 7, 7, 4, 5, 8, 6, 3, 0, 2, 7, 3, 3, 2, 2, 9] l = false := by rw [most1, hd, lessB_digs]; exact hm
  rw [hll] at r
  have hm := of_decide_eq_false hm
  clear hd hll hs
  have hlen := dig_len l
  have w0 : IntKind.i64.wrap ((l.length : Int) - 1) = (l.length : Int) - 1 := wrap_of (by omega) (by omega)
  have e0 : val [] = 0 := rfl
  refine Runs.of (kit Try.prog) Try.func104 rfl rfl (by rw [Try.ntmps104]; exact of_decide_eq_true rfl) ?_; rw [Try.ntmps104, Try.results104]
  repeat' (first|((first|refine goA rfl fun K hK=>?_|refine goB rfl fun K hK=>?_|refine goC rfl rfl fun K hK=>?_|refine goD rfl rfl fun K hK=>?_);simp (dsimp:=false) only [↓gq,↓stepP,↓stepG,go_sem,hlen,w0])|refine Pwp.seq ?_|refine Pwp.block ?_|(refine Pwp.exit ?_;simp only [thenS,blockS,if_true,if_false,reduceIte,Nat.reduceEqDiff,Nat.add_one_ne_zero,reduceCtorEq])|(refine Pwp.skip ?_;simp only [thenS,blockS])|(refine Pwp.cond rfl True.intro (fun h=>?_) (fun h=>?_)<;>(try (cases h;done))<;>(try simp only [h]))|refine Pwp.ret ?_|(refine hK _ ?_;clear hK K)|(refine hK _ _ rfl ?_;clear hK K)|(refine CallK.give (ds:=[.slc 1 (digD [7, 0, 8, 5, 7, 7, 4, 5, 8, 6, 3, 0, 2, 7, 3, 3, 2, 2, 9]), .slc 1 (digD l)]) rfl (r) (by simp) ?_)|refine CallG.off ?_|with_reducible refine Or.inl ?_|simp only [thenS,blockS]|with_reducible refine And.intro ?_ ?_|with_reducible exact True.intro|simp (dsimp:=false) only [↓gq,↓stepP,↓stepG,go_sem,hlen,w0])
  all_goals (try (first|(intro hg;simp_all;done)|(intro hg;simp [hg];done)|exact of_decide_eq_true rfl|(cases h;done)))
  refine Pwp.loop (fun n s => n ≤ l.length ∧ s = L104 false l (val (l.drop n)) n) l.length (s := L104 false l (val (l.drop l.length)) l.length) (Sub.view V0 (by simp [L104]) rfl (by simp [L104,e0]) (by simp [L104,e0])) ⟨Nat.le_refl _, rfl⟩ ?_
  rintro n s ⟨hn, rfl⟩
  unfold L104
  cases n with
  | zero =>
    have c1 : decide ((0 : Int) ≤ ((0 : Nat) : Int) - 1) = false := by simp
    repeat' (first|((first|refine goA rfl fun K hK=>?_|refine goB rfl fun K hK=>?_|refine goC rfl rfl fun K hK=>?_|refine goD rfl rfl fun K hK=>?_);simp (dsimp:=false) only [↓gq,↓stepP,↓stepG,go_sem,c1])|refine Pwp.seq ?_|refine Pwp.block ?_|(refine Pwp.exit ?_;simp only [thenS,blockS,if_true,if_false,reduceIte,Nat.reduceEqDiff,Nat.add_one_ne_zero,reduceCtorEq])|(refine Pwp.skip ?_;simp only [thenS,blockS])|(refine Pwp.cond rfl True.intro (fun h=>?_) (fun h=>?_)<;>(try (cases h;done))<;>(try simp only [h]))|refine Pwp.ret ?_|(refine hK _ ?_;clear hK K)|(refine hK _ _ rfl ?_;clear hK K)|refine CallG.off ?_|with_reducible refine Or.inl ?_|simp only [thenS,blockS]|with_reducible refine And.intro ?_ ?_|with_reducible exact True.intro|simp (dsimp:=false) only [↓gq,↓stepP,↓stepG,go_sem,c1])
    all_goals (try (first|(intro hg;simp_all;done)|(intro hg;simp [hg];done)|exact of_decide_eq_true rfl|(cases h;done)))
    (refine Fin.data (.inr rfl) (by simp (dsimp:=false) only [↓gq,↓stepP,↓stepG,go_sem,resL]; rfl) (by simp only [and_self]) (by simp (dsimp:=false) only [↓gq,↓stepP,↓stepG,go_sem,resP,Nat.le_refl,List.take_length]; try rfl) ?_)
    exact subD_refl _
  | succ n =>
    obtain ⟨d, hdn, hdm⟩ := at_lt (l := l) (i := n) (by omega)
    have hg := dig_get hdn
    have c0 : ((n + 1 : Nat) : Int) - 1 = (n : Int) := by omega
    have hv := val_drop_succ hdn
    have hb := val_drop_le l n
    have w1 : IntKind.i64.wrap (10 * (val (l.drop (n + 1)) : Int)) = 10 * (val (l.drop (n + 1)) : Int) := wrap_of (by omega) (by omega)
    have w2 : IntKind.i64.wrap (10 * (val (l.drop (n + 1)) : Int) + (d : Int)) = (val (l.drop n) : Int) := by rw [hv, wrap_of (by omega) (by omega)]; omega
    have w3 : IntKind.i64.wrap ((n : Int) - 1) = (n : Int) - 1 := wrap_of (by omega) (by omega)
    simp only [c0]
    repeat' (first|((first|refine goA rfl fun K hK=>?_|refine goB rfl fun K hK=>?_|refine goC rfl rfl fun K hK=>?_|refine goD rfl rfl fun K hK=>?_);simp (dsimp:=false) only [↓gq,↓stepP,↓stepG,go_sem,hg,w1,w2,w3,hlen])|refine Pwp.seq ?_|refine Pwp.block ?_|(refine Pwp.exit ?_;simp only [thenS,blockS,if_true,if_false,reduceIte,Nat.reduceEqDiff,Nat.add_one_ne_zero,reduceCtorEq])|(refine Pwp.skip ?_;simp only [thenS,blockS])|(refine Pwp.cond rfl True.intro (fun h=>?_) (fun h=>?_)<;>(try (cases h;done))<;>(try simp only [h]))|refine Pwp.ret ?_|(refine hK _ ?_;clear hK K)|(refine hK _ _ rfl ?_;clear hK K)|refine CallG.off ?_|with_reducible refine Or.inl ?_|simp only [thenS,blockS]|with_reducible refine And.intro ?_ ?_|with_reducible exact True.intro|simp (dsimp:=false) only [↓gq,↓stepP,↓stepG,go_sem,hg,w1,w2,w3,hlen])
    all_goals (try (first|(intro hg;simp_all;done)|(intro hg;simp [hg];done)|exact of_decide_eq_true rfl|(cases h;done)))
    refine ⟨n, L104 false l (val (l.drop n)) n, by omega, Sub.view V0 (by simp [L104]) rfl (by simp [L104]) (by simp [L104]), by omega, rfl⟩
set_option maxHeartbeats 8000000 in
theorem run104n (l : List Nat) (hs : Small l) (hl : l.length ≤ 1000) (hm : decide (9223372036854775808 < val l) = false) (hd : l = digs (val l)) : Runs Try.prog 104 [.d (.agg [.v (.bool true), .slc 1 (digD l)])] [] (.d (.tup [I64 (-(val l : Int)), .v (.bool true)])) [] := by
  have r := run162 [8, 0, 8, 5, 7, 7, 4, 5, 8, 6, 3, 0, 2, 7, 3, 3, 2, 2, 9] l (by rw [most2]; exact small_digs _) hs (by simp) (by omega)
  have hll : lessB [8, 0, 8, 5, 7, 7, 4, 5, 8, 6, 3, 0, 2, 7, 3, 3, 2, 2, 9] l = false := by rw [most2, hd, lessB_digs]; exact hm
  rw [hll] at r
  have hm := of_decide_eq_false hm
  clear hd hll hs
  have hlen := dig_len l
  have w0 : IntKind.i64.wrap ((l.length : Int) - 1) = (l.length : Int) - 1 := wrap_of (by omega) (by omega)
  have e0 : val [] = 0 := rfl
  refine Runs.of (kit Try.prog) Try.func104 rfl rfl (by rw [Try.ntmps104]; exact of_decide_eq_true rfl) ?_; rw [Try.ntmps104, Try.results104]
  repeat' (first|((first|refine goA rfl fun K hK=>?_|refine goB rfl fun K hK=>?_|refine goC rfl rfl fun K hK=>?_|refine goD rfl rfl fun K hK=>?_);simp (dsimp:=false) only [↓gq,↓stepP,↓stepG,go_sem,hlen,w0])|refine Pwp.seq ?_|refine Pwp.block ?_|(refine Pwp.exit ?_;simp only [thenS,blockS,if_true,if_false,reduceIte,Nat.reduceEqDiff,Nat.add_one_ne_zero,reduceCtorEq])|(refine Pwp.skip ?_;simp only [thenS,blockS])|(refine Pwp.cond rfl True.intro (fun h=>?_) (fun h=>?_)<;>(try (cases h;done))<;>(try simp only [h]))|refine Pwp.ret ?_|(refine hK _ ?_;clear hK K)|(refine hK _ _ rfl ?_;clear hK K)|(refine CallK.give (ds:=[.slc 1 (digD [8, 0, 8, 5, 7, 7, 4, 5, 8, 6, 3, 0, 2, 7, 3, 3, 2, 2, 9]), .slc 1 (digD l)]) rfl (r) (by simp) ?_)|refine CallG.off ?_|with_reducible refine Or.inl ?_|simp only [thenS,blockS]|with_reducible refine And.intro ?_ ?_|with_reducible exact True.intro|simp (dsimp:=false) only [↓gq,↓stepP,↓stepG,go_sem,hlen,w0])
  all_goals (try (first|(intro hg;simp_all;done)|(intro hg;simp [hg];done)|exact of_decide_eq_true rfl|(cases h;done)))
  refine Pwp.loop (fun n s => n ≤ l.length ∧ s = L104 true l (-(val (l.drop n) : Int)) n) l.length (s := L104 true l (-(val (l.drop l.length) : Int)) l.length) (Sub.view V0 (by simp [L104]) rfl (by simp [L104,e0]) (by simp [L104,e0])) ⟨Nat.le_refl _, rfl⟩ ?_
  rintro n s ⟨hn, rfl⟩
  unfold L104
  cases n with
  | zero =>
    have c1 : decide ((0 : Int) ≤ ((0 : Nat) : Int) - 1) = false := by simp
    repeat' (first|((first|refine goA rfl fun K hK=>?_|refine goB rfl fun K hK=>?_|refine goC rfl rfl fun K hK=>?_|refine goD rfl rfl fun K hK=>?_);simp (dsimp:=false) only [↓gq,↓stepP,↓stepG,go_sem,c1])|refine Pwp.seq ?_|refine Pwp.block ?_|(refine Pwp.exit ?_;simp only [thenS,blockS,if_true,if_false,reduceIte,Nat.reduceEqDiff,Nat.add_one_ne_zero,reduceCtorEq])|(refine Pwp.skip ?_;simp only [thenS,blockS])|(refine Pwp.cond rfl True.intro (fun h=>?_) (fun h=>?_)<;>(try (cases h;done))<;>(try simp only [h]))|refine Pwp.ret ?_|(refine hK _ ?_;clear hK K)|(refine hK _ _ rfl ?_;clear hK K)|refine CallG.off ?_|with_reducible refine Or.inl ?_|simp only [thenS,blockS]|with_reducible refine And.intro ?_ ?_|with_reducible exact True.intro|simp (dsimp:=false) only [↓gq,↓stepP,↓stepG,go_sem,c1])
    all_goals (try (first|(intro hg;simp_all;done)|(intro hg;simp [hg];done)|exact of_decide_eq_true rfl|(cases h;done)))
    (refine Fin.data (.inr rfl) (by simp (dsimp:=false) only [↓gq,↓stepP,↓stepG,go_sem,resL]; rfl) (by simp only [and_self]) (by simp (dsimp:=false) only [↓gq,↓stepP,↓stepG,go_sem,resP,Nat.le_refl,List.take_length]; try rfl) ?_)
    exact subD_refl _
  | succ n =>
    obtain ⟨d, hdn, hdm⟩ := at_lt (l := l) (i := n) (by omega)
    have hg := dig_get hdn
    have c0 : ((n + 1 : Nat) : Int) - 1 = (n : Int) := by omega
    have hv := val_drop_succ hdn
    have hb := val_drop_le l n
    have w4 : IntKind.i64.wrap (0 - (d : Int)) = -(d : Int) := by rw [wrap_of (by omega) (by omega)]; omega
    have w1 : IntKind.i64.wrap (10 * -(val (l.drop (n + 1)) : Int)) = 10 * -(val (l.drop (n + 1)) : Int) := wrap_of (by omega) (by omega)
    have w2 : IntKind.i64.wrap (10 * -(val (l.drop (n + 1)) : Int) + -(d : Int)) = -(val (l.drop n) : Int) := by rw [hv, wrap_of (by omega) (by omega)]; omega
    have w3 : IntKind.i64.wrap ((n : Int) - 1) = (n : Int) - 1 := wrap_of (by omega) (by omega)
    simp only [c0]
    repeat' (first|((first|refine goA rfl fun K hK=>?_|refine goB rfl fun K hK=>?_|refine goC rfl rfl fun K hK=>?_|refine goD rfl rfl fun K hK=>?_);simp (dsimp:=false) only [↓gq,↓stepP,↓stepG,go_sem,hg,w1,w2,w3,w4,hlen])|refine Pwp.seq ?_|refine Pwp.block ?_|(refine Pwp.exit ?_;simp only [thenS,blockS,if_true,if_false,reduceIte,Nat.reduceEqDiff,Nat.add_one_ne_zero,reduceCtorEq])|(refine Pwp.skip ?_;simp only [thenS,blockS])|(refine Pwp.cond rfl True.intro (fun h=>?_) (fun h=>?_)<;>(try (cases h;done))<;>(try simp only [h]))|refine Pwp.ret ?_|(refine hK _ ?_;clear hK K)|(refine hK _ _ rfl ?_;clear hK K)|refine CallG.off ?_|with_reducible refine Or.inl ?_|simp only [thenS,blockS]|with_reducible refine And.intro ?_ ?_|with_reducible exact True.intro|simp (dsimp:=false) only [↓gq,↓stepP,↓stepG,go_sem,hg,w1,w2,w3,w4,hlen])
    all_goals (try (first|(intro hg;simp_all;done)|(intro hg;simp [hg];done)|exact of_decide_eq_true rfl|(cases h;done)))
    refine ⟨n, L104 true l (-(val (l.drop n) : Int)) n, by omega, Sub.view V0 (by simp [L104]) rfl (by simp [L104]) (by simp [L104]), by omega, rfl⟩
set_option maxHeartbeats 8000000 in
theorem run104x (b : Bool) (m : List Nat) (hml : m.length = 19) (l : List Nat) (hl : l.length ≤ 1000) (hsm : Small m) (hs : Small l) (hll : lessB m l = true) (hb : b = true → m = [8, 0, 8, 5, 7, 7, 4, 5, 8, 6, 3, 0, 2, 7, 3, 3, 2, 2, 9]) (hb' : b = false → m = [7, 0, 8, 5, 7, 7, 4, 5, 8, 6, 3, 0, 2, 7, 3, 3, 2, 2, 9]) :
    Runs Try.prog 104 [.d (.agg [.v (.bool b), .slc 1 (digD l)])] [] (.d (.tup [I64 0, .v (.bool false)])) [] := by
  have r := run162 m l hsm hs (by omega) (by omega)
  rw [hll] at r
  clear hll hs hsm
  have hlen := dig_len l
  cases b with
  | true =>
    obtain rfl := hb rfl
    clear hb hb'
    refine Runs.of (kit Try.prog) Try.func104 rfl rfl (by rw [Try.ntmps104]; exact of_decide_eq_true rfl) ?_; rw [Try.ntmps104, Try.results104]
    repeat' (first|((first|refine goA rfl fun K hK=>?_|refine goB rfl fun K hK=>?_|refine goC rfl rfl fun K hK=>?_|refine goD rfl rfl fun K hK=>?_);simp (dsimp:=false) only [↓gq,↓stepP,↓stepG,go_sem,hlen])|refine Pwp.seq ?_|refine Pwp.block ?_|(refine Pwp.exit ?_;simp only [thenS,blockS,if_true,if_false,reduceIte,Nat.reduceEqDiff,Nat.add_one_ne_zero,reduceCtorEq])|(refine Pwp.skip ?_;simp only [thenS,blockS])|(refine Pwp.cond rfl True.intro (fun h=>?_) (fun h=>?_)<;>(try (cases h;done))<;>(try simp only [h]))|refine Pwp.ret ?_|(refine hK _ ?_;clear hK K)|(refine hK _ _ rfl ?_;clear hK K)|(refine CallK.give (ds:=[.slc 1 (digD [8, 0, 8, 5, 7, 7, 4, 5, 8, 6, 3, 0, 2, 7, 3, 3, 2, 2, 9]), .slc 1 (digD l)]) rfl (r) (by simp) ?_)|refine CallG.off ?_|with_reducible refine Or.inl ?_|simp only [thenS,blockS]|with_reducible refine And.intro ?_ ?_|with_reducible exact True.intro|simp (dsimp:=false) only [↓gq,↓stepP,↓stepG,go_sem,hlen])
    all_goals (try (first|(intro hg;simp_all;done)|(intro hg;simp [hg];done)|exact of_decide_eq_true rfl|(cases h;done)))
    (refine Fin.data (.inr rfl) (by simp (dsimp:=false) only [↓gq,↓stepP,↓stepG,go_sem,resL]; rfl) (by simp only [and_self]) (by simp (dsimp:=false) only [↓gq,↓stepP,↓stepG,go_sem,resP,Nat.le_refl,List.take_length]; try rfl) ?_)
    exact subD_refl _
  | false =>
    obtain rfl := hb' rfl
    clear hb hb'
    refine Runs.of (kit Try.prog) Try.func104 rfl rfl (by rw [Try.ntmps104]; exact of_decide_eq_true rfl) ?_; rw [Try.ntmps104, Try.results104]
    repeat' (first|((first|refine goA rfl fun K hK=>?_|refine goB rfl fun K hK=>?_|refine goC rfl rfl fun K hK=>?_|refine goD rfl rfl fun K hK=>?_);simp (dsimp:=false) only [↓gq,↓stepP,↓stepG,go_sem,hlen])|refine Pwp.seq ?_|refine Pwp.block ?_|(refine Pwp.exit ?_;simp only [thenS,blockS,if_true,if_false,reduceIte,Nat.reduceEqDiff,Nat.add_one_ne_zero,reduceCtorEq])|(refine Pwp.skip ?_;simp only [thenS,blockS])|(refine Pwp.cond rfl True.intro (fun h=>?_) (fun h=>?_)<;>(try (cases h;done))<;>(try simp only [h]))|refine Pwp.ret ?_|(refine hK _ ?_;clear hK K)|(refine hK _ _ rfl ?_;clear hK K)|(refine CallK.give (ds:=[.slc 1 (digD [7, 0, 8, 5, 7, 7, 4, 5, 8, 6, 3, 0, 2, 7, 3, 3, 2, 2, 9]), .slc 1 (digD l)]) rfl (r) (by simp) ?_)|refine CallG.off ?_|with_reducible refine Or.inl ?_|simp only [thenS,blockS]|with_reducible refine And.intro ?_ ?_|with_reducible exact True.intro|simp (dsimp:=false) only [↓gq,↓stepP,↓stepG,go_sem,hlen])
    all_goals (try (first|(intro hg;simp_all;done)|(intro hg;simp [hg];done)|exact of_decide_eq_true rfl|(cases h;done)))
    (refine Fin.data (.inr rfl) (by simp (dsimp:=false) only [↓gq,↓stepP,↓stepG,go_sem,resL]; rfl) (by simp only [and_self]) (by simp (dsimp:=false) only [↓gq,↓stepP,↓stepG,go_sem,resP,Nat.le_refl,List.take_length]; try rfl) ?_)
    exact subD_refl _
theorem bigD_in {z : Int} (h : In64 z) : (digs z.natAbs).length ≤ 20 := by
  obtain ⟨h1, h2⟩ := h
  exact digs_length_le (by omega)
theorem run104 (z : Int) (hz : (digs z.natAbs).length ≤ 1000) : Runs Try.prog 104 [.d (bigD z)] [] (.d (.tup [I64 (if fits z = true then z else 0), .v (.bool (fits z))])) [] := by
  have hsm := small_digs z.natAbs
  have hd : digs z.natAbs = digs (val (digs z.natAbs)) := by rw [val_digs]
  have hv := val_digs z.natAbs
  cases hf : fits z with
  | true =>
    obtain ⟨g1, g2⟩ := fits_in hf
    unfold bigD
    cases hs : decide (z < 0) with
    | true =>
      have hs := of_decide_eq_true hs
      have h := run104n (digs z.natAbs) hsm hz (decide_eq_false (by omega)) hd
      rw [hv, show -(z.natAbs : Int) = z by omega] at h
      exact h
    | false =>
      have hs := of_decide_eq_false hs
      have h := run104p (digs z.natAbs) hsm hz (decide_eq_false (by omega)) hd
      rw [hv, show (z.natAbs : Int) = z by omega] at h
      exact h
  | false =>
    have hno : z < -9223372036854775808 ∨ 9223372036854775807 < z := by
      simp only [fits, Bool.and_eq_false_iff, decide_eq_false_iff_not] at hf; omega
    unfold bigD
    cases hs : decide (z < 0) with
    | true =>
      have hs := of_decide_eq_true hs
      exact run104x true [8, 0, 8, 5, 7, 7, 4, 5, 8, 6, 3, 0, 2, 7, 3, 3, 2, 2, 9] (by simp) (digs z.natAbs) hz (by rw [most2]; exact small_digs _) hsm (by rw [most2, lessB_digs]; exact decide_eq_true (by omega)) (fun _ => rfl) (by simp)
    | false =>
      have hs := of_decide_eq_false hs
      exact run104x false [7, 0, 8, 5, 7, 7, 4, 5, 8, 6, 3, 0, 2, 7, 3, 3, 2, 2, 9] (by simp) (digs z.natAbs) hz (by rw [most1]; exact small_digs _) hsm (by rw [most1, lessB_digs]; exact decide_eq_true (by omega)) (by simp) (fun _ => rfl)
def L41 (l : List Int) (i : Nat) : St := ⟨[(5, pint .i64 i), (4, .ref 17 0), (0, .d (.slc 1 (l.map I64)))], [(17, .box [.d (.v (.bool (decide (sumOf (l.take i) < 0)))), .d (.slc 1 (digD (digs (sumOf (l.take i)).natAbs)))])], 32⟩
theorem sum_small {l : List Int} (hl : l.length ≤ 1000000) (ha : ∀ a ∈ l, In64 a) {i : Nat} (hi : i ≤ l.length) : (digs (sumOf (l.take i)).natAbs).length ≤ 100 := by
  have := sumOf_bound (l := l.take i) fun a hh => ha a (List.mem_of_mem_take hh)
  rw [List.length_take, Nat.min_eq_left hi] at this
  exact Nat.le_trans (digs_length_le (k := 30) (by omega)) (by omega)
set_option maxHeartbeats 8000000 in
theorem run41 (l : List Int) (hl : l.length ≤ 1000000) (ha : ∀ a ∈ l, In64 a) : Runs Try.prog 41 [.d (.slc 1 (l.map I64))] [] (.d (.tup (if fits (sumOf l) = true then [I64 (sumOf l), I64 0] else [I64 0, I64 10]))) [] := by
  have hlm : (l.map I64).length = l.length := List.length_map ..
  refine Runs.of (kit Try.prog) Try.func41 rfl rfl (by rw [Try.ntmps41]; exact of_decide_eq_true rfl) ?_; rw [Try.ntmps41, Try.results41]
  repeat' (first|((first|refine goA rfl fun K hK=>?_|refine goB rfl fun K hK=>?_|refine goC rfl rfl fun K hK=>?_|refine goD rfl rfl fun K hK=>?_);simp (dsimp:=false) only [↓gq,↓stepP,↓stepG,go_sem])|refine Pwp.seq ?_|refine Pwp.block ?_|(refine Pwp.exit ?_;simp only [thenS,blockS,if_true,if_false,reduceIte,Nat.reduceEqDiff,Nat.add_one_ne_zero,reduceCtorEq])|(refine Pwp.skip ?_;simp only [thenS,blockS])|(refine Pwp.cond rfl True.intro (fun h=>?_) (fun h=>?_)<;>(try (cases h;done))<;>(try simp only [h]))|refine Pwp.ret ?_|(refine hK _ ?_;clear hK K)|(refine hK _ _ rfl ?_;clear hK K)|refine CallG.off ?_|with_reducible refine Or.inl ?_|simp only [thenS,blockS]|with_reducible refine And.intro ?_ ?_|with_reducible exact True.intro|simp (dsimp:=false) only [↓gq,↓stepP,↓stepG,go_sem])
  all_goals (try (first|(intro hg;simp_all;done)|(intro hg;simp [hg];done)|exact of_decide_eq_true rfl|(cases h;done)))
  refine Pwp.range l.length (S := L41 l) (Sub.view V0 (by simp [L41]) rfl (by simp [L41,sumOf,digD,digs_zero]) (by simp [L41,sumOf,digD,digs_zero])) (fun i hi => ?_) ?_
  · obtain ⟨a, hx, hxm⟩ := at_lt hi
    have hg : (l.map I64)[i]? = some (.v (.int .i64 a)) := by simp [hx]
    have c1 := dlt hi
    have w := wrap_succ (i := i) (by omega)
    have h1 := sum_small hl ha (Nat.le_of_lt hi)
    have h2 := bigD_in (ha a hxm)
    have e := sumOf_take hx
    have r103 := run103 a (ha a hxm)
    have r102 := run102 (sumOf (l.take i)) a (by omega) (by omega)
    rw [← e] at r102
    unfold L41
    repeat' (first|((first|refine goA rfl fun K hK=>?_|refine goB rfl fun K hK=>?_|refine goC rfl rfl fun K hK=>?_|refine goD rfl rfl fun K hK=>?_);simp (dsimp:=false) only [↓gq,↓stepP,↓stepG,go_sem,hg,c1,w,hlm,bigD])|refine Pwp.seq ?_|refine Pwp.block ?_|(refine Pwp.exit ?_;simp only [thenS,blockS,if_true,if_false,reduceIte,Nat.reduceEqDiff,Nat.add_one_ne_zero,reduceCtorEq])|(refine Pwp.skip ?_;simp only [thenS,blockS])|(refine Pwp.cond rfl True.intro (fun h=>?_) (fun h=>?_)<;>(try (cases h;done))<;>(try simp only [h]))|refine Pwp.ret ?_|(refine hK _ ?_;clear hK K)|(refine hK _ _ rfl ?_;clear hK K)|(refine CallK.give (ds:=[I64 a]) rfl (r103) (by simp) ?_)|(refine CallK.give (ds:=[bigD (sumOf (l.take i)), bigD a]) rfl (r102) (by simp) ?_)|refine CallG.off ?_|with_reducible refine Or.inl ?_|simp only [thenS,blockS]|with_reducible refine And.intro ?_ ?_|with_reducible exact True.intro|simp (dsimp:=false) only [↓gq,↓stepP,↓stepG,go_sem,hg,c1,w,hlm,bigD])
    all_goals (try (first|(intro hg;simp_all;done)|(intro hg;simp [hg];done)|exact of_decide_eq_true rfl|(cases h;done)))
    exact Sub.view V0 (by simp [L41]) rfl (by simp [L41]) (by simp [L41])
  · have c1 := dge (Nat.le_refl l.length)
    have et : l.take l.length = l := List.take_length
    have h1 := sum_small hl ha (Nat.le_refl _)
    rw [et] at h1
    have r104 := run104 (sumOf l) (by omega)
    unfold L41
    cases hf : fits (sumOf l) with
    | true =>
      rw [hf] at r104
      repeat' (first|((first|refine goA rfl fun K hK=>?_|refine goB rfl fun K hK=>?_|refine goC rfl rfl fun K hK=>?_|refine goD rfl rfl fun K hK=>?_);simp (dsimp:=false) only [↓gq,↓stepP,↓stepG,go_sem,c1,et,hlm,bigD])|refine Pwp.seq ?_|refine Pwp.block ?_|(refine Pwp.exit ?_;simp only [thenS,blockS,if_true,if_false,reduceIte,Nat.reduceEqDiff,Nat.add_one_ne_zero,reduceCtorEq])|(refine Pwp.skip ?_;simp only [thenS,blockS])|(refine Pwp.cond rfl True.intro (fun h=>?_) (fun h=>?_)<;>(try (cases h;done))<;>(try simp only [h]))|refine Pwp.ret ?_|(refine hK _ ?_;clear hK K)|(refine hK _ _ rfl ?_;clear hK K)|(refine CallK.give (ds:=[bigD (sumOf l)]) rfl (r104) (by simp) ?_)|refine CallG.off ?_|with_reducible refine Or.inl ?_|simp only [thenS,blockS]|with_reducible refine And.intro ?_ ?_|with_reducible exact True.intro|simp (dsimp:=false) only [↓gq,↓stepP,↓stepG,go_sem,c1,et,hlm,bigD])
      all_goals (try (first|(intro hg;simp_all;done)|(intro hg;simp [hg];done)|exact of_decide_eq_true rfl|(cases h;done)))
      (refine Fin.data (.inr rfl) (by simp (dsimp:=false) only [↓gq,↓stepP,↓stepG,go_sem,resL]; rfl) (by simp only [and_self]) (by simp (dsimp:=false) only [↓gq,↓stepP,↓stepG,go_sem,resP,Nat.le_refl,List.take_length]; try rfl) ?_)
      exact subD_refl _
    | false =>
      rw [hf] at r104
      repeat' (first|((first|refine goA rfl fun K hK=>?_|refine goB rfl fun K hK=>?_|refine goC rfl rfl fun K hK=>?_|refine goD rfl rfl fun K hK=>?_);simp (dsimp:=false) only [↓gq,↓stepP,↓stepG,go_sem,c1,et,hlm,bigD])|refine Pwp.seq ?_|refine Pwp.block ?_|(refine Pwp.exit ?_;simp only [thenS,blockS,if_true,if_false,reduceIte,Nat.reduceEqDiff,Nat.add_one_ne_zero,reduceCtorEq])|(refine Pwp.skip ?_;simp only [thenS,blockS])|(refine Pwp.cond rfl True.intro (fun h=>?_) (fun h=>?_)<;>(try (cases h;done))<;>(try simp only [h]))|refine Pwp.ret ?_|(refine hK _ ?_;clear hK K)|(refine hK _ _ rfl ?_;clear hK K)|(refine CallK.give (ds:=[bigD (sumOf l)]) rfl (r104) (by simp) ?_)|refine CallG.off ?_|with_reducible refine Or.inl ?_|simp only [thenS,blockS]|with_reducible refine And.intro ?_ ?_|with_reducible exact True.intro|simp (dsimp:=false) only [↓gq,↓stepP,↓stepG,go_sem,c1,et,hlm,bigD])
      all_goals (try (first|(intro hg;simp_all;done)|(intro hg;simp [hg];done)|exact of_decide_eq_true rfl|(cases h;done)))
      (refine Fin.data (.inr rfl) (by simp (dsimp:=false) only [↓gq,↓stepP,↓stepG,go_sem,resL]; rfl) (by simp only [and_self]) (by simp (dsimp:=false) only [↓gq,↓stepP,↓stepG,go_sem,resP,Nat.le_refl,List.take_length]; try rfl) ?_)
      exact subD_refl _
end Go.Proofs.Ytdodgbhodkcckaa.Pv
end
section
set_option linter.unusedVariables false
set_option linter.unusedSimpArgs false
set_option autoImplicit false
set_option maxRecDepth 100000
namespace Go.Proofs.Ytdodgbhodkcckaa.Pv
open Go Go.RowKit
def L81a (n : Nat) (l : List Line) (i : Nat) : St := ⟨[(8, pint .i64 i), (7, .own 10 0 1 0 (outs i l).length), (1, .d (.slc 4 (linesD l))), (0, pint .i64 n)], [(10, .arr 2 1 0 none ((outs i l).map I64))], 72⟩
def L81b (n : Nat) (l : List Line) (i k : Nat) : St := ⟨[(10, pint .i64 k), (9, .own 11 0 1 0 (flows i (l.take k)).length), (8, pint .i64 i), (7, .own 10 0 1 0 (outs i l).length), (1, .d (.slc 4 (linesD l))), (0, pint .i64 n)],
  [(10, .arr 2 1 0 none ((outs i l).map I64)), (11, .arr 2 1 0 none ((flows i (l.take k)).map I64))], 92⟩
set_option maxHeartbeats 16000000 in
theorem run81 (n : Int) (l : List Line) (hl : l.length ≤ 1000) : Runs Try.prog 81 [pint .i64 n, .d (.slc 4 (linesD l))] [] (.d (netsD n l)) [] := by
  have hlen := lines_len l
  have r83 := run83 n l hl
  by_cases hr : 0 ≤ n ∧ n ≤ 8
  · have c0 : (decide (n < 0) || decide (8 < n)) = false := by
      rw [Bool.or_eq_false_iff, decide_eq_false_iff_not, decide_eq_false_iff_not]; omega
    by_cases he : fitV n none l = 0
    · obtain ⟨N, rfl⟩ : ∃ N : Nat, n = (N : Int) := ⟨n.toNat, by omega⟩
      rw [he] at r83
      rw [netsV_ok (by omega) he]
      have hok := fit_ok he
      refine Runs.of (kit Try.prog) Try.func81 rfl rfl (by rw [Try.ntmps81]; exact of_decide_eq_true rfl) ?_; rw [Try.ntmps81, Try.results81]
      repeat' (first|((first|refine goA rfl fun K hK=>?_|refine goB rfl fun K hK=>?_|refine goC rfl rfl fun K hK=>?_|refine goD rfl rfl fun K hK=>?_);simp (dsimp:=false) only [↓gq,↓stepP,↓stepG,go_sem,c0,bne_self_eq_false])|refine Pwp.seq ?_|refine Pwp.block ?_|(refine Pwp.exit ?_;simp only [thenS,blockS,if_true,if_false,reduceIte,Nat.reduceEqDiff,Nat.add_one_ne_zero,reduceCtorEq])|(refine Pwp.skip ?_;simp only [thenS,blockS])|(refine Pwp.cond rfl True.intro (fun h=>?_) (fun h=>?_)<;>(try (cases h;done))<;>(try simp only [h]))|refine Pwp.ret ?_|(refine hK _ ?_;clear hK K)|(refine hK _ _ rfl ?_;clear hK K)|(refine CallK.give (ds:=[I64 N, .slc 4 (linesD l)]) rfl (r83) (by simp) ?_)|refine CallG.off ?_|with_reducible refine Or.inl ?_|simp only [thenS,blockS]|with_reducible refine And.intro ?_ ?_|with_reducible exact True.intro|simp (dsimp:=false) only [↓gq,↓stepP,↓stepG,go_sem,c0,bne_self_eq_false])
      all_goals (try (first|(intro hg;simp [hg];done)|exact of_decide_eq_true rfl|(cases h;done)))
      refine Pwp.range N (S := L81a N l) (Sub.view (VN 10) (by simp [L81a]) rfl (by simp [L81a,outs]) (by simp [L81a,outs])) (fun i hi => ?_) ?_
      · have c1 := dlt hi
        have w := wrap_succ (i := i) (by omega)
        have hol := outs_len i l
        unfold L81a
        repeat' (first|((first|refine goA rfl fun K hK=>?_|refine goB rfl fun K hK=>?_|refine goC rfl rfl fun K hK=>?_|refine goD rfl rfl fun K hK=>?_);simp (dsimp:=false) only [↓gq,↓stepP,↓stepG,go_sem,c1])|refine Pwp.seq ?_|refine Pwp.block ?_|(refine Pwp.exit ?_;simp only [thenS,blockS,if_true,if_false,reduceIte,Nat.reduceEqDiff,Nat.add_one_ne_zero,reduceCtorEq])|(refine Pwp.skip ?_;simp only [thenS,blockS])|(refine Pwp.cond rfl True.intro (fun h=>?_) (fun h=>?_)<;>(try (cases h;done))<;>(try simp only [h]))|refine Pwp.ret ?_|(refine hK _ ?_;clear hK K)|(refine hK _ _ rfl ?_;clear hK K)|refine CallG.off ?_|with_reducible refine Or.inl ?_|simp only [thenS,blockS]|with_reducible refine And.intro ?_ ?_|with_reducible exact True.intro|simp (dsimp:=false) only [↓gq,↓stepP,↓stepG,go_sem,c1])
        all_goals (try (first|(intro hg;simp [hg];done)|exact of_decide_eq_true rfl|(cases h;done)))
        refine Pwp.range l.length (S := L81b N l i) (Sub.view (VN 11) (by simp [L81b]) rfl (by simp [L81b,flows]) (by simp [L81b,flows])) (fun k hk => ?_) ?_
        · obtain ⟨x, hx, hm⟩ := at_lt hk
          have hg := lines_get hx
          have c2 := dlt hk
          have w2 := wrap_succ (i := k) (by omega)
          have hxo := hok x hm
          have e := flows_take (j := i) hx
          have hfl := flows_len i (l.take k)
          rw [List.length_take, Nat.min_eq_left (Nat.le_of_lt hk)] at hfl
          have htk : ((flows i (l.take k)).map I64).take (flows i (l.take k)).length = (flows i (l.take k)).map I64 := List.take_of_length_le (by simp)
          have hng : IntKind.wrap .i64 (-x.amount) = -x.amount := wrap_of (by have := hxo.a; omega) (by have := hxo.a; omega)
          have hng0 : IntKind.wrap .i64 (0 - x.amount) = -x.amount := by rw [Int.zero_sub]; exact hng
          unfold L81b
          cases hs : (x.seller == (i : Int)) with
          | true =>
            have hs' : x.seller = i := by simpa using hs
            have hb : (x.buyer == (i : Int)) = false := by have := hxo.sb; simp; omega
            rw [flow1, if_pos hs'] at e
            repeat' (first|((first|refine goA rfl fun K hK=>?_|refine goB rfl fun K hK=>?_|refine goC rfl rfl fun K hK=>?_|refine goD rfl rfl fun K hK=>?_);simp (dsimp:=false) only [↓gq,↓stepP,↓stepG,go_sem,hg,c2,w2,hlen,hs,hb,htk])|refine Pwp.seq ?_|refine Pwp.block ?_|(refine Pwp.exit ?_;simp only [thenS,blockS,if_true,if_false,reduceIte,Nat.reduceEqDiff,Nat.add_one_ne_zero,reduceCtorEq])|(refine Pwp.skip ?_;simp only [thenS,blockS])|(refine Pwp.cond rfl True.intro (fun h=>?_) (fun h=>?_)<;>(try (cases h;done))<;>(try simp only [h]))|refine Pwp.ret ?_|(refine hK _ ?_;clear hK K)|(refine hK _ _ rfl ?_;clear hK K)|refine CallG.off ?_|with_reducible refine Or.inl ?_|simp only [thenS,blockS]|with_reducible refine And.intro ?_ ?_|with_reducible exact True.intro|simp (dsimp:=false) only [↓gq,↓stepP,↓stepG,go_sem,hg,c2,w2,hlen,hs,hb,htk])
            all_goals (try (first|(intro hg;simp [hg];done)|exact of_decide_eq_true rfl|(cases h;done)))
            all_goals (try (first | (simp; done) | (simp [maxLen]; omega) | omega))
            exact Sub.view (VR 11 1) (by simp [L81b]) rfl (by simp [L81b,e,map_snoc]) (by simp [L81b,e,map_snoc])
          | false =>
            have hs' : ¬ x.seller = i := by simpa using hs
            rw [flow1, if_neg hs'] at e
            cases hb : (x.buyer == (i : Int)) with
            | true =>
              have hb' : x.buyer = i := by simpa using hb
              rw [if_pos hb'] at e
              repeat' (first|((first|refine goA rfl fun K hK=>?_|refine goB rfl fun K hK=>?_|refine goC rfl rfl fun K hK=>?_|refine goD rfl rfl fun K hK=>?_);simp (dsimp:=false) only [↓gq,↓stepP,↓stepG,go_sem,hg,c2,w2,hlen,hs,hb,htk,hng,hng0])|refine Pwp.seq ?_|refine Pwp.block ?_|(refine Pwp.exit ?_;simp only [thenS,blockS,if_true,if_false,reduceIte,Nat.reduceEqDiff,Nat.add_one_ne_zero,reduceCtorEq])|(refine Pwp.skip ?_;simp only [thenS,blockS])|(refine Pwp.cond rfl True.intro (fun h=>?_) (fun h=>?_)<;>(try (cases h;done))<;>(try simp only [h]))|refine Pwp.ret ?_|(refine hK _ ?_;clear hK K)|(refine hK _ _ rfl ?_;clear hK K)|refine CallG.off ?_|with_reducible refine Or.inl ?_|simp only [thenS,blockS]|with_reducible refine And.intro ?_ ?_|with_reducible exact True.intro|simp (dsimp:=false) only [↓gq,↓stepP,↓stepG,go_sem,hg,c2,w2,hlen,hs,hb,htk,hng,hng0])
              all_goals (try (first|(intro hg;simp [hg];done)|exact of_decide_eq_true rfl|(cases h;done)))
              all_goals (try (first | (simp; done) | (simp [maxLen]; omega) | omega))
              exact Sub.view (VR 11 1) (by simp [L81b]) rfl (by simp [L81b,e,map_snoc]) (by simp [L81b,e,map_snoc])
            | false =>
              have hb' : ¬ x.buyer = i := by simpa using hb
              rw [if_neg hb', List.append_nil] at e
              repeat' (first|((first|refine goA rfl fun K hK=>?_|refine goB rfl fun K hK=>?_|refine goC rfl rfl fun K hK=>?_|refine goD rfl rfl fun K hK=>?_);simp (dsimp:=false) only [↓gq,↓stepP,↓stepG,go_sem,hg,c2,w2,hlen,hs,hb])|refine Pwp.seq ?_|refine Pwp.block ?_|(refine Pwp.exit ?_;simp only [thenS,blockS,if_true,if_false,reduceIte,Nat.reduceEqDiff,Nat.add_one_ne_zero,reduceCtorEq])|(refine Pwp.skip ?_;simp only [thenS,blockS])|(refine Pwp.cond rfl True.intro (fun h=>?_) (fun h=>?_)<;>(try (cases h;done))<;>(try simp only [h]))|refine Pwp.ret ?_|(refine hK _ ?_;clear hK K)|(refine hK _ _ rfl ?_;clear hK K)|refine CallG.off ?_|with_reducible refine Or.inl ?_|simp only [thenS,blockS]|with_reducible refine And.intro ?_ ?_|with_reducible exact True.intro|simp (dsimp:=false) only [↓gq,↓stepP,↓stepG,go_sem,hg,c2,w2,hlen,hs,hb])
              all_goals (try (first|(intro hg;simp [hg];done)|exact of_decide_eq_true rfl|(cases h;done)))
              exact Sub.view V0 (by simp [L81b]) rfl (by simp [L81b,e]) (by simp [L81b,e])
        · have c2 := dge (Nat.le_refl l.length)
          have et : l.take l.length = l := List.take_length
          have hfl := flows_len i l
          have hin := flows_in (j := (i : Int)) hok
          have hni := netL_in (j := (i : Int)) hok hl
          have r41 := run41 (flows i l) (by omega) (fun a ha => by have := hin a ha; simp [In64]; omega)
          rw [if_pos (In64.fits (by unfold netL at hni; simp [In64]; omega))] at r41
          change Runs Try.prog 41 _ _ (.d (.tup [I64 (netL i l), I64 0])) _ at r41
          have hml : (flows i l).length = ((flows i l).map I64).length := by simp
          have htk : ((outs i l).map I64).take (outs i l).length = (outs i l).map I64 := List.take_of_length_le (by simp)
          have e := outs_succ i l
          unfold L81b
          rw [et]
          repeat' (first|((first|refine goA rfl fun K hK=>?_|refine goB rfl fun K hK=>?_|refine goC rfl rfl fun K hK=>?_|refine goD rfl rfl fun K hK=>?_);simp (dsimp:=false) only [↓gq,↓stepP,↓stepG,go_sem,c2,hlen,w,htk,bne_self_eq_false])|refine Pwp.seq ?_|refine Pwp.block ?_|(refine Pwp.exit ?_;simp only [thenS,blockS,if_true,if_false,reduceIte,Nat.reduceEqDiff,Nat.add_one_ne_zero,reduceCtorEq])|(refine Pwp.skip ?_;simp only [thenS,blockS])|(refine Pwp.cond rfl True.intro (fun h=>?_) (fun h=>?_)<;>(try (cases h;done))<;>(try simp only [h]))|refine Pwp.ret ?_|(refine hK _ ?_;clear hK K)|(refine hK _ _ rfl ?_;clear hK K)|(refine CallK.giveO rfl hml r41 (by simp) ?_)|refine CallG.off ?_|with_reducible refine Or.inl ?_|simp only [thenS,blockS]|with_reducible refine And.intro ?_ ?_|with_reducible exact True.intro|simp (dsimp:=false) only [↓gq,↓stepP,↓stepG,go_sem,c2,hlen,w,htk,bne_self_eq_false])
          all_goals (try (first|(intro hg;simp [hg];done)|exact of_decide_eq_true rfl|(cases h;done)))
          all_goals (try (first | (simp; done) | (simp [maxLen]; omega) | omega))
          exact Sub.view (VR 10 1) (by simp [L81a]) rfl (by simp [L81a,e,map_snoc]) (by simp [L81a,e,map_snoc])
      · have c1 := dge (Nat.le_refl N)
        have hol := outs_len N l
        have htk : ((outs N l).map I64).take (outs N l).length = (outs N l).map I64 := List.take_of_length_le (by simp)
        have hlm : ((outs N l).map I64).length = (outs N l).length := List.length_map ..
        unfold L81a
        repeat' (first|((first|refine goA rfl fun K hK=>?_|refine goB rfl fun K hK=>?_|refine goC rfl rfl fun K hK=>?_|refine goD rfl rfl fun K hK=>?_);simp (dsimp:=false) only [↓gq,↓stepP,↓stepG,go_sem,c1])|refine Pwp.seq ?_|refine Pwp.block ?_|(refine Pwp.exit ?_;simp only [thenS,blockS,if_true,if_false,reduceIte,Nat.reduceEqDiff,Nat.add_one_ne_zero,reduceCtorEq])|(refine Pwp.skip ?_;simp only [thenS,blockS])|(refine Pwp.cond rfl True.intro (fun h=>?_) (fun h=>?_)<;>(try (cases h;done))<;>(try simp only [h]))|refine Pwp.ret ?_|(refine hK _ ?_;clear hK K)|(refine hK _ _ rfl ?_;clear hK K)|refine CallG.off ?_|with_reducible refine Or.inl ?_|simp only [thenS,blockS]|with_reducible refine And.intro ?_ ?_|with_reducible exact True.intro|simp (dsimp:=false) only [↓gq,↓stepP,↓stepG,go_sem,c1])
        all_goals (try (first|(intro hg;simp [hg];done)|exact of_decide_eq_true rfl|(cases h;done)))
        (refine Fin.data (.inr rfl) (by simp (dsimp:=false) only [↓gq,↓stepP,↓stepG,go_sem,resL,htk,hlm]; rfl) (by simp only [and_self]) (by simp (dsimp:=false) only [↓gq,↓stepP,↓stepG,go_sem,resP,Nat.le_refl,List.take_length,htk,hlm]; try rfl) ?_)
        exact subD_refl _
    · have hE : netsE n l = fitV n none l := by unfold netsE; rw [c0]; simp
      rw [netsV_bad (by rw [hE]; exact he), hE]
      have n1 : (fitV n none l != 0) = true := by simpa using he
      refine Runs.of (kit Try.prog) Try.func81 rfl rfl (by rw [Try.ntmps81]; exact of_decide_eq_true rfl) ?_; rw [Try.ntmps81, Try.results81]
      repeat' (first|((first|refine goA rfl fun K hK=>?_|refine goB rfl fun K hK=>?_|refine goC rfl rfl fun K hK=>?_|refine goD rfl rfl fun K hK=>?_);simp (dsimp:=false) only [↓gq,↓stepP,↓stepG,go_sem,c0,n1])|refine Pwp.seq ?_|refine Pwp.block ?_|(refine Pwp.exit ?_;simp only [thenS,blockS,if_true,if_false,reduceIte,Nat.reduceEqDiff,Nat.add_one_ne_zero,reduceCtorEq])|(refine Pwp.skip ?_;simp only [thenS,blockS])|(refine Pwp.cond rfl True.intro (fun h=>?_) (fun h=>?_)<;>(try (cases h;done))<;>(try simp only [h]))|refine Pwp.ret ?_|(refine hK _ ?_;clear hK K)|(refine hK _ _ rfl ?_;clear hK K)|(refine CallK.give (ds:=[I64 n, .slc 4 (linesD l)]) rfl (r83) (by simp) ?_)|refine CallG.off ?_|with_reducible refine Or.inl ?_|simp only [thenS,blockS]|with_reducible refine And.intro ?_ ?_|with_reducible exact True.intro|simp (dsimp:=false) only [↓gq,↓stepP,↓stepG,go_sem,c0,n1])
      all_goals (try (first|(intro hg;simp [hg];done)|exact of_decide_eq_true rfl|(cases h;done)))
      (refine Fin.data (.inr rfl) (by simp (dsimp:=false) only [↓gq,↓stepP,↓stepG,go_sem,resL]; rfl) (by simp only [and_self]) (by simp (dsimp:=false) only [↓gq,↓stepP,↓stepG,go_sem,resP,Nat.le_refl,List.take_length]; try rfl) ?_)
      simp [subD, subL, subV]
  · have c0 : (decide (n < 0) || decide (8 < n)) = true := by
      rw [Bool.or_eq_true, decide_eq_true_eq, decide_eq_true_eq]; omega
    have hE : netsE n l = 1 := by unfold netsE; rw [c0]; simp
    rw [netsV_bad (by rw [hE]; simp), hE]
    refine Runs.of (kit Try.prog) Try.func81 rfl rfl (by rw [Try.ntmps81]; exact of_decide_eq_true rfl) ?_; rw [Try.ntmps81, Try.results81]
    repeat' (first|((first|refine goA rfl fun K hK=>?_|refine goB rfl fun K hK=>?_|refine goC rfl rfl fun K hK=>?_|refine goD rfl rfl fun K hK=>?_);simp (dsimp:=false) only [↓gq,↓stepP,↓stepG,go_sem,c0])|refine Pwp.seq ?_|refine Pwp.block ?_|(refine Pwp.exit ?_;simp only [thenS,blockS,if_true,if_false,reduceIte,Nat.reduceEqDiff,Nat.add_one_ne_zero,reduceCtorEq])|(refine Pwp.skip ?_;simp only [thenS,blockS])|(refine Pwp.cond rfl True.intro (fun h=>?_) (fun h=>?_)<;>(try (cases h;done))<;>(try simp only [h]))|refine Pwp.ret ?_|(refine hK _ ?_;clear hK K)|(refine hK _ _ rfl ?_;clear hK K)|refine CallG.off ?_|with_reducible refine Or.inl ?_|simp only [thenS,blockS]|with_reducible refine And.intro ?_ ?_|with_reducible exact True.intro|simp (dsimp:=false) only [↓gq,↓stepP,↓stepG,go_sem,c0])
    all_goals (try (first|(intro hg;simp [hg];done)|exact of_decide_eq_true rfl|(cases h;done)))
    (refine Fin.data (.inr rfl) (by simp (dsimp:=false) only [↓gq,↓stepP,↓stepG,go_sem,resL]; rfl) (by simp only [and_self]) (by simp (dsimp:=false) only [↓gq,↓stepP,↓stepG,go_sem,resP,Nat.le_refl,List.take_length]; try rfl) ?_)
    simp [subD, subL, subV]
end Go.Proofs.Ytdodgbhodkcckaa.Pv
end
section
set_option linter.unusedVariables false
set_option linter.unusedSimpArgs false
set_option autoImplicit false
set_option maxRecDepth 100000
namespace Go.Proofs.Ytdodgbhodkcckaa.Pv
open Go Go.RowKit
def sumJ (n : Nat) (f : Nat → Int) : Int := sumOf ((List.range n).map f)
theorem sumJ_zero (f : Nat → Int) : sumJ 0 f = 0 := rfl
theorem sumJ_succ (n : Nat) (f : Nat → Int) : sumJ (n + 1) f = sumJ n f + f n := by
  unfold sumJ
  rw [List.range_succ, List.map_append, sumOf_append]
  simp [sumOf]
theorem sumJ_add (f g : Nat → Int) : ∀ n, sumJ n (fun j => f j + g j) = sumJ n f + sumJ n g
  | 0 => rfl
  | n + 1 => by rw [sumJ_succ, sumJ_succ, sumJ_succ, sumJ_add f g n]; omega
theorem sumJ_nil : ∀ n : Nat, sumJ n (fun _ => 0) = 0
  | 0 => rfl
  | n + 1 => by rw [sumJ_succ, sumJ_nil n]; rfl
theorem flow1_sum (j : Int) (x : Line) : sumOf (flow1 j x) = if x.seller = j then x.amount else if x.buyer = j then -x.amount else 0 := by
  unfold flow1
  split
  · simp [sumOf]
  · split <;> simp [sumOf]
theorem sumJ_one (x : Line) (h : x.seller ≠ x.buyer) (hs : 0 ≤ x.seller) (hb : 0 ≤ x.buyer) : ∀ n : Nat, sumJ n (fun j => sumOf (flow1 j x)) = (if x.seller < n then x.amount else 0) + (if x.buyer < n then -x.amount else 0)
  | 0 => by rw [sumJ_zero, if_neg (by omega), if_neg (by omega)]; rfl
  | n + 1 => by
    rw [sumJ_succ, sumJ_one x h hs hb n, flow1_sum]
    by_cases h1 : x.seller = (n : Int)
    · rw [if_pos h1, if_neg (by omega), if_pos (c := x.seller < ((n + 1 : Nat) : Int)) (by omega)]
      by_cases h2 : x.buyer < (n : Int)
      · rw [if_pos h2, if_pos (by omega)]; omega
      · rw [if_neg h2, if_neg (by omega)]; omega
    · rw [if_neg h1]
      by_cases h2 : x.buyer = (n : Int)
      · rw [if_pos h2, if_neg (c := x.buyer < (n : Int)) (by omega), if_pos (c := x.buyer < ((n + 1 : Nat) : Int)) (by omega)]
        by_cases h3 : x.seller < (n : Int)
        · rw [if_pos h3, if_pos (by omega)]; omega
        · rw [if_neg h3, if_neg (by omega)]; omega
      · rw [if_neg h2]
        have e1 : (x.seller < ((n + 1 : Nat) : Int)) = (x.seller < (n : Int)) := by simp only [eq_iff_iff]; omega
        have e2 : (x.buyer < ((n + 1 : Nat) : Int)) = (x.buyer < (n : Int)) := by simp only [eq_iff_iff]; omega
        simp only [e1, e2]; omega
theorem sum_nets {n : Nat} : ∀ {l : List Line}, (∀ x ∈ l, LineOK n x) → sumJ n (fun j => netL j l) = 0
  | [], _ => by
    have : (fun j : Nat => netL j []) = fun _ => 0 := by funext j; simp [netL, flows, sumOf]
    rw [this]
    exact sumJ_nil n
  | x :: l, h => by
    have hx := h x (by simp)
    have e : (fun j : Nat => netL j (x :: l)) = fun j : Nat => sumOf (flow1 j x) + netL j l := by
      funext j; unfold netL; rw [flows, sumOf_append]
    rw [e, sumJ_add, sum_nets fun y hy => h y (by simp [hy]), sumJ_one x hx.sb hx.s.1 hx.b.1, if_pos hx.s.2, if_pos hx.b.2]
    omega
theorem sum_outs {n : Nat} {l : List Line} (h : ∀ x ∈ l, LineOK n x) : sumOf (outs n l) = 0 := sum_nets h
end Go.Proofs.Ytdodgbhodkcckaa.Pv
end
section
set_option linter.unusedVariables false
set_option linter.unusedSimpArgs false
set_option autoImplicit false
set_option maxRecDepth 100000
namespace Go.Proofs.Ytdodgbhodkcckaa.Pv
open Go Go.RowKit
abbrev Ord (l : List Line) : Prop := l.Pairwise fun x y => ahead x y = true
theorem fit_pair {n : Int} : ∀ {l : List Line} {p : Option Line}, fitV n p l = 0 → (∀ y, p = some y → ∀ x ∈ l, ahead y x = true) ∧ Ord l
  | [], p, _ => ⟨fun _ _ x h => (List.not_mem_nil h).elim, List.Pairwise.nil⟩
  | x :: l, p, h => by
    rw [fitV] at h
    by_cases hb : badL n x = true
    · rw [if_pos hb] at h; cases h
    · rw [if_neg hb] at h
      by_cases hu : upset p x = true
      · rw [if_pos hu] at h; cases h
      · rw [if_neg hu] at h
        obtain ⟨h1, h2⟩ := fit_pair h
        have h1 := h1 x rfl
        refine ⟨fun y hy z hz => ?_, List.pairwise_cons.2 ⟨h1, h2⟩⟩
        subst hy
        have hyx : ahead y x = true := by simpa [upset] using hu
        rcases List.mem_cons.1 hz with rfl | hz
        · exact hyx
        · exact ahead_trans hyx (h1 z hz)
theorem pair_ord {l : List Line} (h : Ord l) : InOrd l := by
  intro i x y hx hy
  obtain ⟨h1, rfl⟩ := List.getElem?_eq_some_iff.1 hx
  obtain ⟨h2, rfl⟩ := List.getElem?_eq_some_iff.1 hy
  exact List.pairwise_iff_getElem.1 h i (i + 1) h1 h2 (by omega)
theorem both_pair {n : Int} (offs : List (List Line)) : ∀ (os : List (List Line)) (me : Nat), (∀ o ∈ os, fitV n none o = 0) → Ord (bothR offs me os) ∧ ∀ x ∈ bothR offs me os, (me : Int) ≤ x.seller ∧ LineOK n x
  | [], me, _ => ⟨List.Pairwise.nil, fun x h => (List.not_mem_nil h).elim⟩
  | o :: os, me, h => by
    obtain ⟨h1, h2⟩ := both_pair offs os (me + 1) fun p hp => h p (by simp [hp])
    have ho := h o (by simp)
    have hof : ∀ x ∈ o.filter (offered offs me), x.seller = me ∧ LineOK n x := fun x hx => by
      obtain ⟨hx1, hx2⟩ := List.mem_filter.1 hx
      refine ⟨?_, fit_ok ho x hx1⟩
      unfold offered at hx2
      simp only [Bool.and_eq_true, beq_iff_eq] at hx2
      exact hx2.1.1.1.1
    refine ⟨List.pairwise_append.2 ⟨(fit_pair ho).2.filter _, h1, fun x hx y hy => ?_⟩, fun x hx => ?_⟩
    · have e1 := (hof x hx).1
      have e2 := (h2 y hy).1
      unfold ahead
      rw [Bool.or_eq_true, decide_eq_true_eq]
      left; omega
    · rcases List.mem_append.1 hx with hx | hx
      · have := hof x hx
        exact ⟨by omega, this.2⟩
      · have := h2 x hx
        exact ⟨by omega, this.2⟩
def L145 (l : List Line) (x : Line) (i : Nat) : St := ⟨[(5, pint .i64 i), (3, .ref 8 0), (0, .d (.slc 4 (linesD l)))], [(8, .box (x.cells.map .d))], 20⟩
set_option maxHeartbeats 8000000 in
theorem run145 (l : List Line) (x : Line) (hl : l.length ≤ 1000000) : Runs Try.prog 145 [.d (.slc 4 (linesD l)), .d x.d] [] (pbool (decide (x ∈ l))) [] := by
  have hlen := lines_len l
  unfold Line.d Line.cells
  refine Runs.of (kit Try.prog) Try.func145 rfl rfl (by rw [Try.ntmps145]; exact of_decide_eq_true rfl) ?_; rw [Try.ntmps145, Try.results145]
  repeat' (first|((first|refine goA rfl fun K hK=>?_|refine goB rfl fun K hK=>?_|refine goC rfl rfl fun K hK=>?_|refine goD rfl rfl fun K hK=>?_);simp (dsimp:=false) only [↓gq,↓stepP,↓stepG,go_sem,hlen])|refine Pwp.seq ?_|refine Pwp.block ?_|(refine Pwp.exit ?_;simp only [thenS,blockS,if_true,if_false,reduceIte,Nat.reduceEqDiff,Nat.add_one_ne_zero,reduceCtorEq])|(refine Pwp.skip ?_;simp only [thenS,blockS])|(refine Pwp.cond rfl True.intro (fun h=>?_) (fun h=>?_)<;>(try (cases h;done))<;>(try simp only [h]))|refine Pwp.ret ?_|(refine hK _ ?_;clear hK K)|(refine hK _ _ rfl ?_;clear hK K)|refine CallG.off ?_|with_reducible refine Or.inl ?_|simp only [thenS,blockS]|with_reducible refine And.intro ?_ ?_|with_reducible exact True.intro|simp (dsimp:=false) only [↓gq,↓stepP,↓stepG,go_sem,hlen])
  all_goals (try (first|(intro hg;simp [hg];done)|exact of_decide_eq_true rfl|(cases h;done)))
  refine Pwp.rangeI l.length (fun i s => decide (x ∈ l.drop i) = decide (x ∈ l) ∧ s = L145 l x i) (s0 := L145 l x 0) (Sub.view V0 (by simp [L145]) rfl (by simp [L145,hlen,Line.cells]) (by simp [L145,hlen,Line.cells])) ⟨by simp, rfl⟩ ?_ ?_
  · rintro i s hi ⟨hp, rfl⟩
    obtain ⟨y, hy, hm⟩ := at_lt hi
    have hg := lines_get hy
    have c1 := dlt hi
    have w := wrap_succ (i := i) (by omega)
    rw [drop_cons hy] at hp
    unfold L145 Line.cells
    cases hc : eqLn y x with
    | true =>
      obtain rfl := eqLn_iff.1 hc
      rw [show decide (y ∈ y :: l.drop (i + 1)) = true by simp] at hp
      unfold eqLn at hc
      repeat' (first|((first|refine goA rfl fun K hK=>?_|refine goB rfl fun K hK=>?_|refine goC rfl rfl fun K hK=>?_|refine goD rfl rfl fun K hK=>?_);simp (dsimp:=false) only [↓gq,↓stepP,↓stepG,go_sem,hg,c1,w,hlen,hc])|refine Pwp.seq ?_|refine Pwp.block ?_|(refine Pwp.exit ?_;simp only [thenS,blockS,if_true,if_false,reduceIte,Nat.reduceEqDiff,Nat.add_one_ne_zero,reduceCtorEq])|(refine Pwp.skip ?_;simp only [thenS,blockS])|(refine Pwp.cond rfl True.intro (fun h=>?_) (fun h=>?_)<;>(try (cases h;done))<;>(try simp only [h]))|refine Pwp.ret ?_|(refine hK _ ?_;clear hK K)|(refine hK _ _ rfl ?_;clear hK K)|refine CallG.off ?_|with_reducible refine Or.inl ?_|simp only [thenS,blockS]|with_reducible refine And.intro ?_ ?_|with_reducible exact True.intro|simp (dsimp:=false) only [↓gq,↓stepP,↓stepG,go_sem,hg,c1,w,hlen,hc])
      all_goals (try (first|(intro hg;simp [hg];done)|exact of_decide_eq_true rfl|(cases h;done)))
      (refine Fin.data (.inr rfl) (by simp (dsimp:=false) only [↓gq,↓stepP,↓stepG,go_sem,resL]; rfl) (by simp only [and_self]) (by simp (dsimp:=false) only [↓gq,↓stepP,↓stepG,go_sem,resP,Nat.le_refl,List.take_length]; try rfl) ?_)
      rw [← hp]; exact subD_refl _
    | false =>
      have hne : x ≠ y := fun e => by subst e; rw [eqLn_iff.2 rfl] at hc; cases hc
      rw [show decide (x ∈ y :: l.drop (i + 1)) = decide (x ∈ l.drop (i + 1)) by simp [hne]] at hp
      unfold eqLn at hc
      repeat' (first|((first|refine goA rfl fun K hK=>?_|refine goB rfl fun K hK=>?_|refine goC rfl rfl fun K hK=>?_|refine goD rfl rfl fun K hK=>?_);simp (dsimp:=false) only [↓gq,↓stepP,↓stepG,go_sem,hg,c1,w,hlen,hc])|refine Pwp.seq ?_|refine Pwp.block ?_|(refine Pwp.exit ?_;simp only [thenS,blockS,if_true,if_false,reduceIte,Nat.reduceEqDiff,Nat.add_one_ne_zero,reduceCtorEq])|(refine Pwp.skip ?_;simp only [thenS,blockS])|(refine Pwp.cond rfl True.intro (fun h=>?_) (fun h=>?_)<;>(try (cases h;done))<;>(try simp only [h]))|refine Pwp.ret ?_|(refine hK _ ?_;clear hK K)|(refine hK _ _ rfl ?_;clear hK K)|refine CallG.off ?_|with_reducible refine Or.inl ?_|simp only [thenS,blockS]|with_reducible refine And.intro ?_ ?_|with_reducible exact True.intro|simp (dsimp:=false) only [↓gq,↓stepP,↓stepG,go_sem,hg,c1,w,hlen,hc])
      all_goals (try (first|(intro hg;simp [hg];done)|exact of_decide_eq_true rfl|(cases h;done)))
      exact ⟨_, Sub.view V0 (by simp [L145]) rfl (by simp [L145,Line.cells]) (by simp [L145,Line.cells]), hp, rfl⟩
  · rintro s ⟨hp, rfl⟩
    have c1 := dge (Nat.le_refl l.length)
    rw [List.drop_length] at hp
    unfold L145
    repeat' (first|((first|refine goA rfl fun K hK=>?_|refine goB rfl fun K hK=>?_|refine goC rfl rfl fun K hK=>?_|refine goD rfl rfl fun K hK=>?_);simp (dsimp:=false) only [↓gq,↓stepP,↓stepG,go_sem,c1,hlen])|refine Pwp.seq ?_|refine Pwp.block ?_|(refine Pwp.exit ?_;simp only [thenS,blockS,if_true,if_false,reduceIte,Nat.reduceEqDiff,Nat.add_one_ne_zero,reduceCtorEq])|(refine Pwp.skip ?_;simp only [thenS,blockS])|(refine Pwp.cond rfl True.intro (fun h=>?_) (fun h=>?_)<;>(try (cases h;done))<;>(try simp only [h]))|refine Pwp.ret ?_|(refine hK _ ?_;clear hK K)|(refine hK _ _ rfl ?_;clear hK K)|refine CallG.off ?_|with_reducible refine Or.inl ?_|simp only [thenS,blockS]|with_reducible refine And.intro ?_ ?_|with_reducible exact True.intro|simp (dsimp:=false) only [↓gq,↓stepP,↓stepG,go_sem,c1,hlen])
    all_goals (try (first|(intro hg;simp [hg];done)|exact of_decide_eq_true rfl|(cases h;done)))
    (refine Fin.data (.inr rfl) (by simp (dsimp:=false) only [↓gq,↓stepP,↓stepG,go_sem,resL]; rfl) (by simp only [and_self]) (by simp (dsimp:=false) only [↓gq,↓stepP,↓stepG,go_sem,resP,Nat.le_refl,List.take_length]; try rfl) ?_)
    rw [← hp]; simp [subD, subV]
def L87a (offs : List (List Line)) (i : Nat) : St := ⟨[(4, pint .i64 i), (3, .own 12 0 4 0 (bothR offs 0 (offs.take i)).length), (0, .d (.slc 1 (offersD offs)))],
  [(12, .arr 142 4 0 none (linesD (bothR offs 0 (offs.take i))))], 20⟩
def L87b (offs : List (List Line)) (i : Nat) (o : List Line) (k : Nat) : St := ⟨[(5, pint .i64 k), (4, pint .i64 i), (3, .own 12 0 4 0 (bothI offs i o k).length), (0, .d (.slc 1 (offersD offs)))],
  [(12, .arr 142 4 0 none (linesD (bothI offs i o k)))], 40⟩
set_option maxHeartbeats 16000000 in
theorem run87 (offs : List (List Line)) (ho : offs.length ≤ 100) (hl : sumLen offs ≤ 1000) : Runs Try.prog 87 [.d (.slc 1 (offersD offs))] [] (.d (.slc 4 (linesD (bothL offs)))) [] := by
  have hlen := offers_len offs
  refine Runs.of (kit Try.prog) Try.func87 rfl rfl (by rw [Try.ntmps87]; exact of_decide_eq_true rfl) ?_; rw [Try.ntmps87, Try.results87]
  repeat' (first|((first|refine goA rfl fun K hK=>?_|refine goB rfl fun K hK=>?_|refine goC rfl rfl fun K hK=>?_|refine goD rfl rfl fun K hK=>?_);simp (dsimp:=false) only [↓gq,↓stepP,↓stepG,go_sem,hlen])|refine Pwp.seq ?_|refine Pwp.block ?_|(refine Pwp.exit ?_;simp only [thenS,blockS,if_true,if_false,reduceIte,Nat.reduceEqDiff,Nat.add_one_ne_zero,reduceCtorEq])|(refine Pwp.skip ?_;simp only [thenS,blockS])|(refine Pwp.cond rfl True.intro (fun h=>?_) (fun h=>?_)<;>(try (cases h;done))<;>(try simp only [h]))|refine Pwp.ret ?_|(refine hK _ ?_;clear hK K)|(refine hK _ _ rfl ?_;clear hK K)|refine CallG.off ?_|with_reducible refine Or.inl ?_|simp only [thenS,blockS]|with_reducible refine And.intro ?_ ?_|with_reducible exact True.intro|simp (dsimp:=false) only [↓gq,↓stepP,↓stepG,go_sem,hlen])
  all_goals (try (first|(intro hg;simp [hg];done)|exact of_decide_eq_true rfl|(cases h;done)))
  refine Pwp.range offs.length (S := L87a offs) (Sub.view (VN 12) (by simp [L87a]) rfl (by simp [L87a,bothR,linesD]) (by simp [L87a,bothR,linesD])) (fun i hi => ?_) ?_
  · obtain ⟨o, hx, hm⟩ := at_lt hi
    have hg := offers_get hx
    have c1 := dlt hi
    have w := wrap_succ (i := i) (by omega)
    have hlo := lines_len o
    have hlo2 := sumLen_take hx
    unfold L87a
    repeat' (first|((first|refine goA rfl fun K hK=>?_|refine goB rfl fun K hK=>?_|refine goC rfl rfl fun K hK=>?_|refine goD rfl rfl fun K hK=>?_);simp (dsimp:=false) only [↓gq,↓stepP,↓stepG,go_sem,hg,c1,hlo,hlen])|refine Pwp.seq ?_|refine Pwp.block ?_|(refine Pwp.exit ?_;simp only [thenS,blockS,if_true,if_false,reduceIte,Nat.reduceEqDiff,Nat.add_one_ne_zero,reduceCtorEq])|(refine Pwp.skip ?_;simp only [thenS,blockS])|(refine Pwp.cond rfl True.intro (fun h=>?_) (fun h=>?_)<;>(try (cases h;done))<;>(try simp only [h]))|refine Pwp.ret ?_|(refine hK _ ?_;clear hK K)|(refine hK _ _ rfl ?_;clear hK K)|refine CallG.off ?_|with_reducible refine Or.inl ?_|simp only [thenS,blockS]|with_reducible refine And.intro ?_ ?_|with_reducible exact True.intro|simp (dsimp:=false) only [↓gq,↓stepP,↓stepG,go_sem,hg,c1,hlo,hlen])
    all_goals (try (first|(intro hg;simp [hg];done)|exact of_decide_eq_true rfl|(cases h;done)))
    refine Pwp.range o.length (S := L87b offs i o) (Sub.view V0 (by simp [L87b]) rfl (by simp [L87b,bothI]) (by simp [L87b,bothI])) (fun k hk => ?_) ?_
    · obtain ⟨x, hxk, hxm⟩ := at_lt hk
      have hgk := lines_get hxk
      have c2 := dlt hk
      have w2 := wrap_succ (i := k) (by omega)
      have hsucc := bothI_succ offs i hxk
      have hll := lines_len (bothI offs i o k)
      have hol := bothI_len hx k
      have htk : (linesD (bothI offs i o k)).take (bothI offs i o k).length = linesD (bothI offs i o k) := List.take_of_length_le (by omega)
      unfold L87b
      by_cases hb : x.buyer < 0
      · have c3 : decide (x.buyer < 0) = true := decide_eq_true hb
        have ho0 : x.buyer.toNat = 0 := by omega
        obtain ⟨p, hp, _⟩ := at_lt (l := offs) (i := 0) (by omega)
        have hgp := offers_get hp
        have hf : offered offs i x = false := by
          have : decide (0 ≤ x.buyer) = false := by rw [decide_eq_false_iff_not]; omega
          simp [offered, this]
        rw [hf, if_neg (by simp), List.append_nil] at hsucc
        repeat' (first|((first|refine goA rfl fun K hK=>?_|refine goB rfl fun K hK=>?_|refine goC rfl rfl fun K hK=>?_|refine goD rfl rfl fun K hK=>?_);simp (dsimp:=false) only [↓gq,↓stepP,↓stepG,go_sem,hg,hgk,c2,w2,hlo,hlen,c3,ho0,hgp,Bool.or_true,Bool.true_or,Bool.not_true])|refine Pwp.seq ?_|refine Pwp.block ?_|(refine Pwp.exit ?_;simp only [thenS,blockS,if_true,if_false,reduceIte,Nat.reduceEqDiff,Nat.add_one_ne_zero,reduceCtorEq])|(refine Pwp.skip ?_;simp only [thenS,blockS])|(refine Pwp.cond rfl True.intro (fun h=>?_) (fun h=>?_)<;>(try (cases h;done))<;>(try simp only [h]))|refine Pwp.ret ?_|(refine hK _ ?_;clear hK K)|(refine hK _ _ rfl ?_;clear hK K)|(refine CallG.offB ?_)|refine CallG.off ?_|with_reducible refine Or.inl ?_|simp only [thenS,blockS]|with_reducible refine And.intro ?_ ?_|with_reducible exact True.intro|simp (dsimp:=false) only [↓gq,↓stepP,↓stepG,go_sem,hg,hgk,c2,w2,hlo,hlen,c3,ho0,hgp,Bool.or_true,Bool.true_or,Bool.not_true])
        all_goals (try (first|(intro hg;simp [hg];done)|exact of_decide_eq_true rfl|(cases h;done)))
        exact Sub.view V0 (by simp [L87b]) rfl (by simp [L87b,hsucc]) (by simp [L87b,hsucc])
      · have c3 : decide (x.buyer < 0) = false := decide_eq_false hb
        by_cases hn : x.buyer < offs.length
        · have c4 : decide ((offs.length : Int) ≤ x.buyer) = false := by rw [decide_eq_false_iff_not]; omega
          obtain ⟨p, hp, _⟩ := at_lt (l := offs) (i := x.buyer.toNat) (by omega)
          have hgp := offers_get hp
          have hD : offs.getD x.buyer.toNat [] = p := by rw [List.getD_eq_getElem?_getD, hp]; rfl
          have hpl := sumLen_take hp
          have r145 := run145 p x (by omega)
          have hB : offered offs i x = !((x.seller != (i : Int) || x.buyer == (i : Int)) || !decide (x ∈ p)) := by
            unfold offered
            rw [hD, decide_eq_true (show 0 ≤ x.buyer by omega), decide_eq_true hn, Bool.and_true, Bool.and_true]
            simp [bne]
          cases hf : ((x.seller != (i : Int) || x.buyer == (i : Int)) || !decide (x ∈ p)) with
          | false =>
            rw [hB, hf, Bool.not_false, if_pos rfl] at hsucc
            repeat' (first|((first|refine goA rfl fun K hK=>?_|refine goB rfl fun K hK=>?_|refine goC rfl rfl fun K hK=>?_|refine goD rfl rfl fun K hK=>?_);simp (dsimp:=false) only [↓gq,↓stepP,↓stepG,go_sem,hg,hgk,c2,w2,hlo,hlen,c3,c4,hgp,hf,htk,hll,Bool.or_false])|refine Pwp.seq ?_|refine Pwp.block ?_|(refine Pwp.exit ?_;simp only [thenS,blockS,if_true,if_false,reduceIte,Nat.reduceEqDiff,Nat.add_one_ne_zero,reduceCtorEq])|(refine Pwp.skip ?_;simp only [thenS,blockS])|(refine Pwp.cond rfl True.intro (fun h=>?_) (fun h=>?_)<;>(try (cases h;done))<;>(try simp only [h]))|refine Pwp.ret ?_|(refine hK _ ?_;clear hK K)|(refine hK _ _ rfl ?_;clear hK K)|(refine CallG.toD (ds:=[.slc 4 (linesD p), x.d]) rfl (r145) rfl ?_ ?_)|refine CallG.off ?_|with_reducible refine Or.inl ?_|simp only [thenS,blockS]|with_reducible refine And.intro ?_ ?_|with_reducible exact True.intro|simp (dsimp:=false) only [↓gq,↓stepP,↓stepG,go_sem,hg,hgk,c2,w2,hlo,hlen,c3,c4,hgp,hf,htk,hll,Bool.or_false])
            all_goals (try (first|(intro hg;simp [hg];done)|exact of_decide_eq_true rfl|(cases h;done)))
            all_goals (try (first | exact fun hg => ⟨hg, by omega⟩ | (simp; done) | (simp [maxLen]; omega) | omega))
            exact Sub.view (VR 12 1) (by simp [L87b]) rfl (by simp [L87b,hsucc,lines_append,linesD,Line.d,Line.cells]) (by simp [L87b,hsucc,lines_append,linesD,Line.d,Line.cells])
          | true =>
            rw [hB, hf, Bool.not_true, if_neg (by simp), List.append_nil] at hsucc
            repeat' (first|((first|refine goA rfl fun K hK=>?_|refine goB rfl fun K hK=>?_|refine goC rfl rfl fun K hK=>?_|refine goD rfl rfl fun K hK=>?_);simp (dsimp:=false) only [↓gq,↓stepP,↓stepG,go_sem,hg,hgk,c2,w2,hlo,hlen,c3,c4,hgp,hf,Bool.or_false])|refine Pwp.seq ?_|refine Pwp.block ?_|(refine Pwp.exit ?_;simp only [thenS,blockS,if_true,if_false,reduceIte,Nat.reduceEqDiff,Nat.add_one_ne_zero,reduceCtorEq])|(refine Pwp.skip ?_;simp only [thenS,blockS])|(refine Pwp.cond rfl True.intro (fun h=>?_) (fun h=>?_)<;>(try (cases h;done))<;>(try simp only [h]))|refine Pwp.ret ?_|(refine hK _ ?_;clear hK K)|(refine hK _ _ rfl ?_;clear hK K)|(refine CallG.toD (ds:=[.slc 4 (linesD p), x.d]) rfl (r145) rfl ?_ ?_)|refine CallG.off ?_|with_reducible refine Or.inl ?_|simp only [thenS,blockS]|with_reducible refine And.intro ?_ ?_|with_reducible exact True.intro|simp (dsimp:=false) only [↓gq,↓stepP,↓stepG,go_sem,hg,hgk,c2,w2,hlo,hlen,c3,c4,hgp,hf,Bool.or_false])
            all_goals (try (first|(intro hg;simp [hg];done)|exact of_decide_eq_true rfl|(cases h;done)))
            all_goals (try (first | exact fun hg => ⟨hg, by omega⟩ | (simp; done) | (simp [maxLen]; omega) | omega))
            exact Sub.view V0 (by simp [L87b]) rfl (by simp [L87b,hsucc]) (by simp [L87b,hsucc])
        · have c4 : decide ((offs.length : Int) ≤ x.buyer) = true := decide_eq_true (by omega)
          have hgp := offers_none (offs := offs) (i := x.buyer.toNat) (by omega)
          have hf : offered offs i x = false := by
            have : decide (x.buyer < (offs.length : Int)) = false := decide_eq_false hn
            simp [offered, this]
          rw [hf, if_neg (by simp), List.append_nil] at hsucc
          repeat' (first|((first|refine goA rfl fun K hK=>?_|refine goB rfl fun K hK=>?_|refine goC rfl rfl fun K hK=>?_|refine goD rfl rfl fun K hK=>?_);simp (dsimp:=false) only [↓gq,↓stepP,↓stepG,go_sem,hg,hgk,c2,w2,hlo,hlen,c3,c4,hgp,Bool.or_true,Bool.true_or,Bool.or_false,Bool.not_true])|refine Pwp.seq ?_|refine Pwp.block ?_|(refine Pwp.exit ?_;simp only [thenS,blockS,if_true,if_false,reduceIte,Nat.reduceEqDiff,Nat.add_one_ne_zero,reduceCtorEq])|(refine Pwp.skip ?_;simp only [thenS,blockS])|(refine Pwp.cond rfl True.intro (fun h=>?_) (fun h=>?_)<;>(try (cases h;done))<;>(try simp only [h]))|refine Pwp.ret ?_|(refine hK _ ?_;clear hK K)|(refine hK _ _ rfl ?_;clear hK K)|(refine CallG.offB ?_)|refine CallG.off ?_|with_reducible refine Or.inl ?_|simp only [thenS,blockS]|with_reducible refine And.intro ?_ ?_|with_reducible exact True.intro|simp (dsimp:=false) only [↓gq,↓stepP,↓stepG,go_sem,hg,hgk,c2,w2,hlo,hlen,c3,c4,hgp,Bool.or_true,Bool.true_or,Bool.or_false,Bool.not_true])
          all_goals (try (first|(intro hg;simp [hg];done)|exact of_decide_eq_true rfl|(cases h;done)))
          exact Sub.view V0 (by simp [L87b]) rfl (by simp [L87b,hsucc]) (by simp [L87b,hsucc])
    · have c2 := dge (Nat.le_refl o.length)
      have hend : bothI offs i o o.length = bothR offs 0 (offs.take (i + 1)) := by unfold bothI; rw [List.take_length, bothR_take hx]
      unfold L87b
      rw [hend]
      repeat' (first|((first|refine goA rfl fun K hK=>?_|refine goB rfl fun K hK=>?_|refine goC rfl rfl fun K hK=>?_|refine goD rfl rfl fun K hK=>?_);simp (dsimp:=false) only [↓gq,↓stepP,↓stepG,go_sem,hg,hlo,c2,w])|refine Pwp.seq ?_|refine Pwp.block ?_|(refine Pwp.exit ?_;simp only [thenS,blockS,if_true,if_false,reduceIte,Nat.reduceEqDiff,Nat.add_one_ne_zero,reduceCtorEq])|(refine Pwp.skip ?_;simp only [thenS,blockS])|(refine Pwp.cond rfl True.intro (fun h=>?_) (fun h=>?_)<;>(try (cases h;done))<;>(try simp only [h]))|refine Pwp.ret ?_|(refine hK _ ?_;clear hK K)|(refine hK _ _ rfl ?_;clear hK K)|refine CallG.off ?_|with_reducible refine Or.inl ?_|simp only [thenS,blockS]|with_reducible refine And.intro ?_ ?_|with_reducible exact True.intro|simp (dsimp:=false) only [↓gq,↓stepP,↓stepG,go_sem,hg,hlo,c2,w])
      all_goals (try (first|(intro hg;simp [hg];done)|exact of_decide_eq_true rfl|(cases h;done)))
      exact Sub.view V0 (by simp [L87a]) rfl (by simp [L87a]) (by simp [L87a])
  · have c1 := dge (Nat.le_refl offs.length)
    have hend : bothR offs 0 (offs.take offs.length) = bothL offs := by rw [List.take_length]; rfl
    have hll := lines_len (bothL offs)
    have htk : (linesD (bothL offs)).take (bothL offs).length = linesD (bothL offs) := List.take_of_length_le (by omega)
    unfold L87a
    rw [hend]
    repeat' (first|((first|refine goA rfl fun K hK=>?_|refine goB rfl fun K hK=>?_|refine goC rfl rfl fun K hK=>?_|refine goD rfl rfl fun K hK=>?_);simp (dsimp:=false) only [↓gq,↓stepP,↓stepG,go_sem,hlen,c1])|refine Pwp.seq ?_|refine Pwp.block ?_|(refine Pwp.exit ?_;simp only [thenS,blockS,if_true,if_false,reduceIte,Nat.reduceEqDiff,Nat.add_one_ne_zero,reduceCtorEq])|(refine Pwp.skip ?_;simp only [thenS,blockS])|(refine Pwp.cond rfl True.intro (fun h=>?_) (fun h=>?_)<;>(try (cases h;done))<;>(try simp only [h]))|refine Pwp.ret ?_|(refine hK _ ?_;clear hK K)|(refine hK _ _ rfl ?_;clear hK K)|refine CallG.off ?_|with_reducible refine Or.inl ?_|simp only [thenS,blockS]|with_reducible refine And.intro ?_ ?_|with_reducible exact True.intro|simp (dsimp:=false) only [↓gq,↓stepP,↓stepG,go_sem,hlen,c1])
    all_goals (try (first|(intro hg;simp [hg];done)|exact of_decide_eq_true rfl|(cases h;done)))
    (refine Fin.data (.inr rfl) (by simp (dsimp:=false) only [↓gq,↓stepP,↓stepG,go_sem,resL,htk,hll]; rfl) (by simp only [and_self]) (by simp (dsimp:=false) only [↓gq,↓stepP,↓stepG,go_sem,resP,Nat.le_refl,List.take_length,htk,hll]; try rfl) ?_)
    exact subD_refl _
end Go.Proofs.Ytdodgbhodkcckaa.Pv
end
section
set_option linter.unusedVariables false
set_option linter.unusedSimpArgs false
set_option autoImplicit false
namespace Go.Proofs.Ytdodgbhodkcckaa.Pv
open Go Go.RowKit
structure DRun where
  cur : Int
  st : Int
  off : List Bool
  vot : List Bool
  ofs : List (List Line)
  ls : List Line
  ns : List Int
structure DOut where
  e : Int
  rs : List DRun
  o : List (Int × VMsg)
def sentD (p : Int × VMsg) : D := saidD p.1 p.2.msg
def sentsD (o : List (Int × VMsg)) : List D := o.map sentD
def allV (n : Nat) (m : VMsg) : List (Int × VMsg) := (List.range n).map fun (i : Nat) => ((i : Int), m)
def askV (c cur : Int) : VMsg := ⟨10, 0, 0, 0, cur, 0, c, 0, false, [], []⟩
def prepV (c : Int) (ls : List Line) (ns : List Int) : VMsg := ⟨12, 0, 0, 0, 0, 0, c, 0, false, ls, ns⟩
def decV (c : Int) (yes : Bool) : VMsg := ⟨14, 0, 0, 0, 0, 0, c, 0, yes, [], []⟩
def okB (l : List Bool) (n : Nat) : Bool := (List.range n).all fun k => l.getD k false
def openR (d : DRun) : Bool := d.st == 1 || d.st == 2
def zeroR (cur : Int) : DRun := ⟨cur, 1, List.replicate 8 false, List.replicate 8 false, List.replicate 8 [], [], []⟩
def cPut (rs : List DRun) (c : Int) (d : DRun) : List DRun := rs.set (c - 1).toNat d
def cEnd (n : Nat) (rs : List DRun) (c : Int) (d : DRun) (yes : Bool) : DOut := ⟨0, cPut rs c { d with st := if yes = true then 3 else 4 }, allV n (decV c yes)⟩
def cStart (n : Nat) (rs : List DRun) (cur : Int) : DOut :=
  if (decide (cur < 0) || decide (7 < cur)) = true then ⟨1, rs, []⟩ else if (rs.any fun d => decide (d.st < 3) && d.cur == cur) = true then ⟨90, rs, []⟩
  else ⟨0, rs ++ [zeroR cur], allV n (askV ((rs.length : Int) + 1) cur)⟩
def offB (d : DRun) (f : Nat) (ls : List Line) : DRun := { d with off := d.off.set f true, ofs := d.ofs.set f ls }
def votB (d : DRun) (f : Nat) : DRun := { d with vot := d.vot.set f true }
def bothN (n : Nat) (d : DRun) : List Line := bothL (d.ofs.take n)
def prepB (n : Nat) (d : DRun) : DRun := { d with st := 2, ls := bothN n d, ns := outs n (bothN n d) }
def badB (n : Nat) (d : DRun) : Bool := netsE n (bothN n d) != 0 || decide (1024 < ((bothN n d).length : Int))
def cOffer (n : Nat) (rs : List DRun) (d : DRun) (c : Int) (ls : List Line) (f : Nat) : DOut :=
  if (d.st != 1) = true then ⟨90, rs, []⟩ else if d.off.getD f false = true then ⟨5, rs, []⟩ else if (ls.any (notMine f)) = true then ⟨140, rs, []⟩
  else if (fitV n none ls != 0) = true then ⟨fitV n none ls, rs, []⟩
  else if okB (offB d f ls).off n = false then ⟨0, cPut rs c (offB d f ls), []⟩
  else if badB n (offB d f ls) = true then cEnd n rs c (offB d f ls) false
  else ⟨0, cPut rs c (prepB n (offB d f ls)), allV n (prepV c (bothN n (offB d f ls)) (outs n (bothN n (offB d f ls))))⟩
def cVote (n : Nat) (rs : List DRun) (d : DRun) (c : Int) (yes : Bool) (f : Nat) : DOut :=
  if (d.st != 2) = true then ⟨90, rs, []⟩ else if d.vot.getD f false = true then ⟨5, rs, []⟩
  else if yes = false then cEnd n rs c (votB d f) false
  else if okB (votB d f).vot n = false then ⟨0, cPut rs c (votB d f), []⟩
  else cEnd n rs c (votB d f) true
def clientV (m : VMsg) : Bool := m.kind == 5 || m.kind == 16
def nodeV (m : VMsg) : Bool := m.kind == 11 || m.kind == 13 || m.kind == 15
def kindBad (m : VMsg) (f : Int) : Bool := (!clientV m && !nodeV m) || !(clientV m == (f == -1))
def atR (rs : List DRun) (c : Int) : DRun := (rs[(c - 1).toNat]?).getD (zeroR 0)
def chiefR (n : Nat) (rs : List DRun) (m : VMsg) (f : Int) : DOut :=
  if kindBad m f = true then ⟨110, rs, []⟩ else if (m.kind == 5) = true then cStart n rs m.currency
  else if (nodeV m && (decide (f < 0) || decide ((n : Int) ≤ f))) = true then ⟨140, rs, []⟩
  else if (decide (m.cycle < 1) || decide ((rs.length : Int) < m.cycle)) = true then ⟨4, rs, []⟩
  else if (m.kind == 11) = true then cOffer n rs (atR rs m.cycle) m.cycle m.ls f.toNat
  else if (m.kind == 13) = true then cVote n rs (atR rs m.cycle) m.cycle m.yes f.toNat
  else if (!(decide ((atR rs m.cycle).st < 3) == (m.kind == 16))) = true then ⟨90, rs, []⟩
  else if (m.kind == 16) = true then cEnd n rs m.cycle (atR rs m.cycle) false
  else ⟨0, rs, [(f, decV m.cycle ((atR rs m.cycle).st == 3))]⟩
structure RunOK (n : Nat) (d : DRun) : Prop where
  off : d.off.length = 8
  vot : d.vot.length = 8
  ofs : d.ofs.length = 8
  st : 1 ≤ d.st ∧ d.st ≤ 4
  fit : ∀ o ∈ d.ofs, fitV n none o = 0 ∧ o.length ≤ 100
  ls : d.ls.length ≤ 1000
  ns : d.ns.length ≤ 8
def RunsOK (n : Nat) (rs : List DRun) : Prop := ∀ d ∈ rs, RunOK n d
theorem cPut_ok {n : Nat} {rs : List DRun} (h : RunsOK n rs) {c : Int} {d : DRun} (hd : RunOK n d) : RunsOK n (cPut rs c d) := by
  intro x hx
  rcases List.mem_or_eq_of_mem_set hx with h1 | rfl
  · exact h x h1
  · exact hd
theorem zeroR_ok (n : Nat) (cur : Int) : RunOK n (zeroR cur) := by
  refine ⟨rfl, rfl, rfl, by simp [zeroR], fun o ho => ?_, by simp [zeroR], by simp [zeroR]⟩
  obtain rfl : o = [] := by simpa [zeroR] using ho
  exact ⟨rfl, by simp⟩
theorem RunOK.state {n : Nat} {d : DRun} (h : RunOK n d) {s : Int} (hs : 1 ≤ s ∧ s ≤ 4) : RunOK n { d with st := s } := ⟨h.off, h.vot, h.ofs, hs, h.fit, h.ls, h.ns⟩
theorem RunOK.offB {n : Nat} {d : DRun} (h : RunOK n d) {f : Nat} {ls : List Line} (hf : fitV n none ls = 0) (hl : ls.length ≤ 100) : RunOK n (offB d f ls) := by
  refine ⟨by simp [Pv.offB, h.off], h.vot, by simp [Pv.offB, h.ofs], h.st, fun o ho => ?_, h.ls, h.ns⟩
  rcases List.mem_or_eq_of_mem_set ho with h1 | rfl
  · exact h.fit o h1
  · exact ⟨hf, hl⟩
theorem RunOK.votB {n : Nat} {d : DRun} (h : RunOK n d) {f : Nat} : RunOK n (votB d f) := ⟨h.off, by simp [Pv.votB, h.vot], h.ofs, h.st, h.fit, h.ls, h.ns⟩
theorem sumLen_k {k : Nat} : ∀ {os : List (List Line)}, (∀ o ∈ os, o.length ≤ k) → sumLen os ≤ os.length * k
  | [], _ => by simp [sumLen]
  | o :: os, h => by
    have h1 := sumLen_k (k := k) (os := os) fun p hp => h p (by simp [hp])
    have h2 := h o (by simp)
    simp only [sumLen, List.length_cons, Nat.add_mul]; omega
theorem RunOK.sum {n : Nat} {d : DRun} (h : RunOK n d) : sumLen (d.ofs.take n) ≤ 800 := by
  have h1 := sumLen_k (k := 100) (os := d.ofs.take n) fun o ho => (h.fit o (List.mem_of_mem_take ho)).2
  have h2 := h.ofs
  rw [List.length_take] at h1
  omega
theorem RunOK.both {n : Nat} {d : DRun} (h : RunOK n d) : (bothN n d).length ≤ 800 := by
  have h1 := both_len (d.ofs.take n) (d.ofs.take n) 0
  have := h.sum
  unfold bothN bothL; omega
theorem RunOK.prepB {n : Nat} (hn : n ≤ 8) {d : DRun} (h : RunOK n d) : RunOK n (prepB n d) :=
  ⟨h.off, h.vot, h.ofs, by simp [Pv.prepB], h.fit, by have := h.both; simp only [Pv.prepB]; omega, by simp only [Pv.prepB, outs_len]; exact hn⟩
theorem atR_ok {n : Nat} {rs : List DRun} (h : RunsOK n rs) (c : Int) : RunOK n (atR rs c) := by
  unfold atR
  cases hc : rs[(c - 1).toNat]? with
  | none => exact zeroR_ok n 0
  | some d => exact h d (List.mem_of_getElem? hc)
theorem cPut_len (rs : List DRun) (c : Int) (d : DRun) : (cPut rs c d).length = rs.length := by simp [cPut]
theorem chiefR_ok {n : Nat} (hn : n ≤ 8) {rs : List DRun} (h : RunsOK n rs) {m : VMsg} {f : Int} (hl : m.ls.length ≤ 100) : RunsOK n (chiefR n rs m f).rs ∧ (chiefR n rs m f).rs.length ≤ rs.length + 1 := by
  have hat := atR_ok h m.cycle
  have hend : ∀ (d : DRun) (yes : Bool), RunOK n d → RunsOK n (cEnd n rs m.cycle d yes).rs ∧ (cEnd n rs m.cycle d yes).rs.length ≤ rs.length + 1 := fun d yes hd =>
    ⟨cPut_ok h (hd.state (by cases yes <;> simp)), by simp only [cEnd, cPut_len]; omega⟩
  have same : RunsOK n rs ∧ rs.length ≤ rs.length + 1 := ⟨h, Nat.le_succ _⟩
  unfold chiefR
  split
  · exact same
  split
  · unfold cStart
    split
    · exact same
    split
    · exact same
    · refine ⟨fun x hx => ?_, by simp⟩
      rcases List.mem_append.1 hx with hx | hx
      · exact h x hx
      · obtain rfl := by simpa using hx
        exact zeroR_ok n _
  split
  · exact same
  split
  · exact same
  split
  · unfold cOffer
    split
    · exact same
    split
    · exact same
    split
    · exact same
    split
    · exact same
    · rename_i hf
      have hf0 : fitV n none m.ls = 0 := by simpa using hf
      have ho := hat.offB (f := f.toNat) hf0 hl
      split
      · exact ⟨cPut_ok h ho, by simp only [cPut_len]; omega⟩
      split
      · exact hend _ _ ho
      · exact ⟨cPut_ok h (ho.prepB hn), by simp only [cPut_len]; omega⟩
  split
  · unfold cVote
    have hv := hat.votB (f := f.toNat)
    split
    · exact same
    split
    · exact same
    split
    · exact hend _ _ hv
    split
    · exact ⟨cPut_ok h hv, by simp only [cPut_len]; omega⟩
    · exact hend _ _ hv
  split
  · exact same
  split
  · exact hend _ _ hat
  · exact same
end Go.Proofs.Ytdodgbhodkcckaa.Pv
end
