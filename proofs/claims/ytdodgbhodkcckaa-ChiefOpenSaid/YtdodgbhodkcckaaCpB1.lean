/- A part of the proof: the machine of plain values and walks of functions. -/
import Derived.Test.YtdodgbhodkcckaaCp5
section
set_option linter.unusedVariables false
set_option linter.unusedSimpArgs false
set_option autoImplicit false
set_option maxRecDepth 100000
namespace Go.Proofs.Ytdodgbhodkcckaa.Pv
open Go Go.RowKit
def entK (l : List (Int × D)) : List (D × D) := l.map fun p => (.v (.int .i64 p.1), p.2)
def getK (x : Int) : List (Int × D) → Option D
  | [] => none
  | p :: l => if x = p.1 then some p.2 else getK x l
def setK (x : Int) (d : D) : List (Int × D) → List (Int × D)
  | [] => [(x, d)]
  | p :: l => if x = p.1 then (x, d) :: l else p :: setK x d l
def findK (x : Int) : List (Int × D) → Option Nat
  | [] => none
  | p :: l => if x = p.1 then some 0 else (findK x l).map (· + 1)
theorem find_entK (x : Int) : ∀ l : List (Int × D), mapFind none (.v (.int .i64 x)) (entK l) = some (findK x l)
  | [] => rfl
  | p :: l => by
    have ih := find_entK x l
    have hk : keyEq none (.v (.int .i64 x)) (.v (.int .i64 p.1)) = some (decide (x = p.1)) := by
      simp only [keyEq, Option.some.injEq]
      by_cases h : x = p.1 <;> simp [h]
    unfold entK at ih ⊢
    rw [List.map_cons, mapFind, ih]
    simp only [hk, findK]
    by_cases h : x = p.1
    · simp [h]
    · simp only [h, decide_false, if_neg, not_false_eq_true]
      cases findK x l <;> simp
theorem findK_get (x : Int) : ∀ l : List (Int × D), (findK x l).elim (getK x l = none) (fun i => ∃ d, l[i]? = some (x, d) ∧ getK x l = some d)
  | [] => rfl
  | p :: l => by
    have ih := findK_get x l
    obtain ⟨k, v⟩ := p
    simp only [findK, getK]
    by_cases h : x = k
    · subst h; simp
    · rw [if_neg h, if_neg h]
      cases hf : findK x l with
      | none => rw [hf] at ih; simpa using ih
      | some i => rw [hf] at ih; simpa using ih
theorem get_entK (x : Int) (l : List (Int × D)) (z : D) : mapGet none (.v (.int .i64 x)) (entK l) z = some ((getK x l).elim (z, false) (fun d => (d, true))) := by
  have h := findK_get x l
  unfold mapGet
  rw [find_entK]
  cases hf : findK x l with
  | none => rw [hf] at h; simp only [Option.elim] at h; simp [h]
  | some i =>
    rw [hf] at h
    simp only [Option.elim] at h
    obtain ⟨d, h1, h2⟩ := h
    simp [entK, h1, h2]
theorem findK_set (x : Int) (d : D) : ∀ l : List (Int × D), setK x d l = (findK x l).elim (l ++ [(x, d)]) (fun i => l.set i (x, d))
  | [] => rfl
  | p :: l => by
    have ih := findK_set x d l
    simp only [findK, setK]
    by_cases h : x = p.1
    · simp [h]
    · rw [if_neg h, if_neg h, ih]
      cases findK x l <;> simp
theorem set_entK (x : Int) (d : D) (l : List (Int × D)) : mapSet none (.v (.int .i64 x)) d (entK l) = some (entK (setK x d l)) := by
  unfold mapSet
  rw [find_entK, findK_set]
  cases findK x l with
  | none => simp [entK]
  | some i => simp [entK, List.map_set]
theorem getK_set (x y : Int) (d : D) : ∀ l : List (Int × D), getK y (setK x d l) = if y = x then some d else getK y l
  | [] => by simp [setK, getK]
  | p :: l => by
    have ih := getK_set x y d l
    simp only [setK]
    by_cases h : x = p.1
    · rw [if_pos h]
      simp only [getK]
      by_cases hy : y = x
      · rw [if_pos hy, if_pos hy]
      · rw [if_neg hy, if_neg hy, if_neg (by rw [← h]; exact hy)]
    · rw [if_neg h]
      simp only [getK]
      by_cases hy : y = p.1
      · rw [if_pos hy, if_pos hy, if_neg (by rw [hy]; exact fun e => h e.symm)]
      · rw [if_neg hy, if_neg hy, ih]
theorem getK_mem {x : Int} {d : D} : ∀ {l : List (Int × D)}, getK x l = some d → (x, d) ∈ l
  | [], h => by cases h
  | p :: l, h => by
    simp only [getK] at h
    by_cases hp : x = p.1
    · rw [if_pos hp] at h
      obtain rfl := Option.some.inj h
      rw [hp]; exact List.mem_cons_self
    · rw [if_neg hp] at h
      exact List.mem_cons_of_mem _ (getK_mem h)
theorem setK_mem {x y : Int} {d v : D} : ∀ {l : List (Int × D)}, (y, v) ∈ setK x d l → (y = x ∧ v = d) ∨ (y, v) ∈ l
  | [], h => by
    have := List.mem_singleton.1 h
    exact .inl ⟨congrArg Prod.fst this, congrArg Prod.snd this⟩
  | p :: l, h => by
    simp only [setK] at h
    by_cases hp : x = p.1
    · rw [if_pos hp] at h
      rcases List.mem_cons.1 h with h | h
      · exact .inl ⟨congrArg Prod.fst h, congrArg Prod.snd h⟩
      · exact .inr (List.mem_cons_of_mem _ h)
    · rw [if_neg hp] at h
      rcases List.mem_cons.1 h with h | h
      · exact .inr (h ▸ List.mem_cons_self)
      · rcases setK_mem h with h | h
        · exact .inl h
        · exact .inr (List.mem_cons_of_mem _ h)
theorem unseen_lt {born seen : List Nat} {z : Nat} (h1 : z ∈ born) (h2 : z ∉ seen) : (born.filter fun s => decide (s ∉ z :: seen)).length < (born.filter fun s => decide (s ∉ seen)).length := by
  induction born with
  | nil => cases h1
  | cons b l ih =>
    have hle : (l.filter fun s => decide (s ∉ z :: seen)).length ≤ (l.filter fun s => decide (s ∉ seen)).length := by
      clear ih h1
      induction l with
      | nil => exact Nat.le_refl _
      | cons c l ih =>
        simp only [List.filter_cons]
        by_cases hc : c ∈ seen
        · rw [if_neg (by simp [hc]), if_neg (by simp [hc])]; exact ih
        · by_cases hz : c = z
          · rw [if_neg (by simp [hz]), if_pos (by simp [hc])]; exact Nat.le_succ_of_le ih
          · rw [if_pos (by simp [hc, hz]), if_pos (by simp [hc])]; simpa using ih
    simp only [List.filter_cons]
    by_cases hb : b = z
    · subst hb
      rw [if_neg (by simp), if_pos (by simp [h2])]
      simpa using Nat.lt_succ_of_le hle
    · have hzl : z ∈ l := by
        rcases List.mem_cons.1 h1 with h | h
        · exact absurd h.symm hb
        · exact h
      by_cases hs : b ∈ seen
      · rw [if_neg (by simp [hs]), if_neg (by simp [hs])]; exact ih hzl
      · rw [if_pos (by simp [hs, hb]), if_pos (by simp [hs])]; simpa using ih hzl
theorem Pwp.rangeM {P : Program} {n : Nat} {Q : Exit → St → Prop} {st s0 : St} {c : Code} (born : List Nat) (I : List Nat → St → Prop) (h0 : Sub n st s0) (hI : I [] s0)
    (step : ∀ seen s, I seen s → Pwp P n c (thenS (fun s' => ∃ t z, Sub n s' t ∧ z ∈ born ∧ z ∉ seen ∧ I (z :: seen) t) Q) s) : Pwp P n (.loop c) Q st := by
  refine Pwp.loop (fun k s => ∃ seen, k = (born.filter fun s => decide (s ∉ seen)).length ∧ I seen s) _ h0 ⟨[], rfl, hI⟩ ?_
  rintro k s ⟨seen, rfl, hs⟩
  refine (step seen s hs).mono fun e s' hs' => ?_
  cases e with
  | normal =>
    obtain ⟨t, z, h1, h2, h3, h4⟩ := hs'
    exact ⟨_, t, unseen_lt h2 h3, h1, z :: seen, rfl, h4⟩
  | _ => exact hs'
end Go.Proofs.Ytdodgbhodkcckaa.Pv
end
section
set_option linter.unusedVariables false
set_option linter.unusedSimpArgs false
set_option autoImplicit false
set_option maxRecDepth 100000
namespace Go.Proofs.Ytdodgbhodkcckaa.Pv
open Go Go.RowKit
def lateV (E : List Int) : List Bool := (List.range 8).map fun (k : Nat) => decide ((k : Int) ∈ E)
def lateS (E : List Int) (said : Bool) : Int := if said = true then 4 else if E.length = 3 then 3 else 2
def lateD (E : List Int) (said : Bool) : DRun := ⟨0, lateS E said, [true, true, true, false, false, false, false, false], lateV E, List.replicate 8 [], [], [0, 0, 0]⟩
def ofL1 (c : Int) : VMsg := ⟨11, 0, 0, 0, 0, 0, c, 0, false, [], []⟩
def voL1 (yes : Bool) : VMsg := ⟨13, 0, 0, 0, 0, 0, 1, 0, yes, [], []⟩
def duL1 : VMsg := ⟨16, 0, 0, 0, 0, 0, 1, 0, false, [], []⟩
def stL1 (cur : Int) : VMsg := ⟨5, 0, 0, 0, cur, 0, 0, 0, false, [], []⟩
def lateE : List (List Int) := [[], [0], [1], [2], [0, 1], [0, 2], [1, 0], [1, 2], [2, 0], [2, 1], [0, 1, 2], [0, 2, 1], [1, 0, 2], [1, 2, 0], [2, 0, 1], [2, 1, 0]]
theorem late1 : chiefR 3 [] (stL1 0) (-1) = ⟨0, [zeroR 0], allV 3 (askV 1 0)⟩ := by kernel_rfl
theorem late2 : chiefR 3 [zeroR 0] (ofL1 1) 0 = ⟨0, [offB (zeroR 0) 0 []], []⟩ := by kernel_rfl
theorem late3 : chiefR 3 [offB (zeroR 0) 0 []] (ofL1 1) 1 = ⟨0, [offB (offB (zeroR 0) 0 []) 1 []], []⟩ := by kernel_rfl
theorem late4 : chiefR 3 [offB (offB (zeroR 0) 0 []) 1 []] (ofL1 1) 2 = ⟨0, [lateD [] false], allV 3 (prepV 1 [] [0, 0, 0])⟩ := by kernel_rfl
def LateI (E : List Int) (said : Bool) (no : Int) : Prop := E ∈ lateE ∧ (said = false → no ∉ E) ∧ (said = true → E ≠ [])
theorem late_three {i : Int} (h1 : 0 ≤ i) (h2 : i ≤ 2) : i = 0 ∨ i = 1 ∨ i = 2 := by omega
theorem lateE_len {E : List Int} (h : E ∈ lateE) : E.length ≤ 3 := by revert E; decide
theorem late_said (E : List Int) (yes : Bool) (i : Int) (h1 : 0 ≤ i) (h2 : i ≤ 2) : chiefR 3 [lateD E true] (voL1 yes) i = ⟨90, [lateD E true], []⟩ := by
  rcases late_three h1 h2 with rfl | rfl | rfl <;> rfl
theorem late_all {E : List Int} (h : E ∈ lateE) (hl : E.length = 3) (yes : Bool) (i : Int) (h1 : 0 ≤ i) (h2 : i ≤ 2) : chiefR 3 [lateD E false] (voL1 yes) i = ⟨90, [lateD E false], []⟩ := by
  simp only [lateE, List.mem_cons, List.not_mem_nil, or_false] at h
  rcases h with rfl | rfl | rfl | rfl | rfl | rfl | rfl | rfl | rfl | rfl | rfl | rfl | rfl | rfl | rfl | rfl <;> first | (exact absurd hl (by decide)) | (rcases late_three h1 h2 with rfl | rfl | rfl <;> rfl)
theorem late_again {E : List Int} (h : E ∈ lateE) (hl : E.length < 3) (yes : Bool) {i : Int} (h1 : 0 ≤ i) (h2 : i ≤ 2) (hi : i ∈ E) : chiefR 3 [lateD E false] (voL1 yes) i = ⟨5, [lateD E false], []⟩ := by
  simp only [lateE, List.mem_cons, List.not_mem_nil, or_false] at h
  rcases h with rfl | rfl | rfl | rfl | rfl | rfl | rfl | rfl | rfl | rfl | rfl | rfl | rfl | rfl | rfl | rfl <;> first | (exact absurd hl (by decide)) | (rcases late_three h1 h2 with rfl | rfl | rfl <;> first | rfl | (exact absurd hi (by decide)))
theorem late_no {E : List Int} (h : E ∈ lateE) (hl : E.length < 3) {i : Int} (h1 : 0 ≤ i) (h2 : i ≤ 2) (hi : i ∉ E) : chiefR 3 [lateD E false] (voL1 false) i = ⟨0, [lateD (E ++ [i]) true], allV 3 (decV 1 false)⟩ ∧ E ++ [i] ∈ lateE := by
  simp only [lateE, List.mem_cons, List.not_mem_nil, or_false] at h
  rcases h with rfl | rfl | rfl | rfl | rfl | rfl | rfl | rfl | rfl | rfl | rfl | rfl | rfl | rfl | rfl | rfl <;> first | (exact absurd hl (by decide)) | (rcases late_three h1 h2 with rfl | rfl | rfl <;> first | (exact ⟨by kernel_rfl, by decide⟩) | (exact absurd (by decide) hi))
theorem late_yes {E : List Int} (h : E ∈ lateE) (hl : E.length < 3) {i : Int} (h1 : 0 ≤ i) (h2 : i ≤ 2) (hi : i ∉ E) : (chiefR 3 [lateD E false] (voL1 true) i).rs = [lateD (E ++ [i]) false] ∧ E ++ [i] ∈ lateE := by
  simp only [lateE, List.mem_cons, List.not_mem_nil, or_false] at h
  rcases h with rfl | rfl | rfl | rfl | rfl | rfl | rfl | rfl | rfl | rfl | rfl | rfl | rfl | rfl | rfl | rfl <;> first | (exact absurd hl (by decide)) | (rcases late_three h1 h2 with rfl | rfl | rfl <;> first | (exact ⟨by kernel_rfl, by decide⟩) | (exact absurd (by decide) hi))
def nextE (E : List Int) (said : Bool) (i : Int) : List Int := if said = true ∨ 3 ≤ E.length ∨ i ∈ E then E else E ++ [i]
def nextS' (E : List Int) (said : Bool) (i no : Int) : Bool := said || (decide (E.length < 3) && i == no)
theorem late_step {E : List Int} {said : Bool} {i no : Int} (hI : LateI E said no) (h1 : 0 ≤ i) (h2 : i ≤ 2) : (chiefR 3 [lateD E said] (voL1 (i != no)) i).rs = [lateD (nextE E said i) (nextS' E said i no)] ∧ LateI (nextE E said i) (nextS' E said i no) no := by
  obtain ⟨a1, a2, a3⟩ := hI
  cases said with
  | true =>
    rw [late_said E _ i h1 h2]
    exact ⟨rfl, by simp only [nextE, true_or, if_true]; exact a1, by simp [nextS'], by simp only [nextE, true_or, if_true]; exact fun _ => a3 rfl⟩
  | false =>
    have a4 := a2 rfl
    by_cases hl : E.length < 3
    · by_cases hi : i ∈ E
      · have hne : (i == no) = false := by
          rw [beq_eq_false_iff_ne]; rintro rfl; exact a4 hi
        rw [late_again a1 hl _ h1 h2 hi]
        have e1 : nextE E false i = E := by unfold nextE; rw [if_pos (.inr (.inr hi))]
        have e2 : nextS' E false i no = false := by simp [nextS', hne]
        rw [e1, e2]
        exact ⟨rfl, a1, a2, a3⟩
      · have e1 : nextE E false i = E ++ [i] := by
          unfold nextE
          rw [if_neg]
          intro h
          rcases h with h | h | h
          · cases h
          · omega
          · exact hi h
        by_cases hn : i = no
        · subst hn
          have e2 : nextS' E false i i = true := by simp [nextS', hl]
          obtain ⟨b1, b2⟩ := late_no a1 hl h1 h2 hi
          rw [e1, e2, bne_self_eq_false, b1]
          exact ⟨rfl, b2, by simp, by simp⟩
        · have hne : (i == no) = false := by simpa using hn
          have e2 : nextS' E false i no = false := by simp [nextS', hne]
          have hb : (i != no) = true := by simpa using hn
          obtain ⟨b1, b2⟩ := late_yes a1 hl h1 h2 hi
          rw [e1, e2, hb]
          refine ⟨b1, b2, fun _ h => ?_, by simp⟩
          rcases List.mem_append.1 h with h | h
          · exact a4 h
          · exact hn (List.mem_singleton.1 h).symm
    · have hl3 : E.length = 3 := by have := lateE_len a1; omega
      rw [late_all a1 hl3 _ i h1 h2]
      have e1 : nextE E false i = E := by unfold nextE; rw [if_pos (.inr (.inl (by omega)))]
      have e2 : nextS' E false i no = false := by simp [nextS', hl]
      rw [e1, e2]
      exact ⟨rfl, a1, a2, a3⟩
theorem late_due {E : List Int} (h : E ∈ lateE) (hl : E.length < 3) : chiefR 3 [lateD E false] duL1 (-1) = ⟨0, [⟨0, 4, [true, true, true, false, false, false, false, false], lateV E, List.replicate 8 [], [], [0, 0, 0]⟩], allV 3 (decV 1 false)⟩ := by
  simp only [lateE, List.mem_cons, List.not_mem_nil, or_false] at h
  rcases h with rfl | rfl | rfl | rfl | rfl | rfl | rfl | rfl | rfl | rfl | rfl | rfl | rfl | rfl | rfl | rfl <;> first | (exact absurd hl (by decide)) | kernel_rfl
theorem lateD_ok (E : List Int) (said : Bool) : RunsOK 3 [lateD E said] := by
  intro d hd
  obtain rfl : d = lateD E said := by simpa using hd
  refine ⟨rfl, by simp [lateD, lateV], rfl, ?_, ?_, by simp [lateD], by simp [lateD]⟩
  · simp only [lateD, lateS]; split
    · omega
    · split <;> omega
  · intro o ho
    obtain rfl : o = [] := by simpa [lateD] using ho
    exact ⟨rfl, by simp⟩
def votK (E : List Int) : List (Int × D) := E.map fun i => (i, .v (.bool true))
theorem vot_set {E : List Int} {i : Int} : setK i (.v (.bool true)) (votK E) = votK (if i ∈ E then E else E ++ [i]) := by
  induction E with
  | nil => rfl
  | cons k E ih =>
    simp only [votK, List.map_cons, setK] at *
    by_cases h : i = k
    · subst h; simp
    · rw [if_neg h, ih]
      by_cases hm : i ∈ E
      · rw [if_pos hm, if_pos (List.mem_cons_of_mem _ hm)]; simp
      · rw [if_neg hm, if_neg (by rw [List.mem_cons]; exact fun hc => hc.elim h hm)]; simp
end Go.Proofs.Ytdodgbhodkcckaa.Pv
end
section
set_option linter.unusedVariables false
set_option linter.unusedSimpArgs false
set_option autoImplicit false
set_option maxRecDepth 100000
namespace Go.Proofs.Ytdodgbhodkcckaa.Pv
open Go Go.RowKit
def lateQ : Nat → DRun
  | 0 => zeroR 0
  | 1 => offB (zeroR 0) 0 []
  | 2 => offB (offB (zeroR 0) 0 []) 1 []
  | _ => lateD [] false
theorem lateQ_step {j : Nat} (h : j < 3) : (chiefR 3 [lateQ j] (ofL1 1) (j : Int)).rs = [lateQ (j + 1)] := by
  match j, h with
  | 0, _ => exact congrArg DOut.rs late2
  | 1, _ => exact congrArg DOut.rs late3
  | 2, _ => exact congrArg DOut.rs late4
theorem lateQ_ok (j : Nat) : RunsOK 3 [lateQ j] := by
  match j with
  | 0 => intro d hd; obtain rfl : d = zeroR 0 := by simpa [lateQ] using hd
         exact zeroR_ok 3 0
  | 1 => intro d hd; obtain rfl : d = offB (zeroR 0) 0 [] := by simpa [lateQ] using hd
         exact (zeroR_ok 3 0).offB rfl (by simp)
  | 2 => intro d hd; obtain rfl : d = offB (offB (zeroR 0) 0 []) 1 [] := by simpa [lateQ] using hd
         exact ((zeroR_ok 3 0).offB rfl (by simp)).offB rfl (by simp)
  | k + 3 => exact lateD_ok [] false
theorem late_on {E : List Int} {said : Bool} (h : (!said && decide ((E.length : Int) < 3)) = true) (i no : Int) : nextE E said i = (if i ∈ E then E else E ++ [i]) ∧ nextS' E said i no = (said || i == no) := by
  simp only [Bool.and_eq_true, Bool.not_eq_true', decide_eq_true_eq] at h
  obtain ⟨rfl, h2⟩ := h
  have h3 : E.length < 3 := by omega
  constructor
  · unfold nextE
    by_cases hi : i ∈ E
    · rw [if_pos hi, if_pos (.inr (.inr hi))]
    · rw [if_neg hi, if_neg]
      rintro (h | h | h)
      · cases h
      · omega
      · exact hi h
  · simp [nextS', h3]
theorem late_off {E : List Int} {said : Bool} (h : (!said && decide ((E.length : Int) < 3)) = false) (i no : Int) : nextE E said i = E ∧ nextS' E said i no = said := by
  cases said with
  | true => exact ⟨by simp [nextE], by simp [nextS']⟩
  | false =>
    simp only [Bool.not_false, Bool.true_and, decide_eq_false_iff_not] at h
    exact ⟨by unfold nextE; rw [if_pos (.inr (.inl (by omega)))], by simp [nextS']; omega⟩
theorem votK_len (E : List Int) : (entK (votK E)).length = E.length := by simp [entK, votK]
def L32a (ord : List Int) (no due : Int) (j : Nat) : St :=
  ⟨[(33, pint .i64 j), (7, .ref 33 0), (2, pint .i64 due), (1, pint .i64 no), (0, .d (.slc 1 (ord.map I64)))], [(33, bxC 3 [lateQ j])], 80⟩
def L32b (ord : List Int) (no due : Int) (E : List Int) (said : Bool) (i : Nat) : St :=
  ⟨[(48, pint .i64 i), (47, pint .i64 ord.length), (46, .d (.slc 1 (ord.map I64))), (10, pbool said), (9, .mp 84), (7, .ref 33 0), (2, pint .i64 due), (1, pint .i64 no)], [(33, bxC 3 [lateD E said]), (84, .map (entK (votK E)))], 160⟩
set_option maxHeartbeats 64000000 in
theorem run32 (ord : List Int) (no due : Int) : Runs Try.prog 32 [.d (.slc 1 (ord.map I64)), pint .i64 no, pint .i64 due] [] (pbool true) [] := by
  have r89 := run89
  have hol : (ord.map I64).length = ord.length := by simp
  cases hn : decide (20 < (ord.length : Int)) with
  | true =>
    refine Runs.of (kit Try.prog) Try.func32 rfl rfl (by rw [Try.ntmps32]; exact of_decide_eq_true rfl) ?_; rw [Try.ntmps32, Try.results32]
    repeat' (first|((first|refine goA rfl fun K hK=>?_|refine goB rfl fun K hK=>?_|refine goC rfl rfl fun K hK=>?_|refine goD rfl rfl fun K hK=>?_);simp (dsimp:=false) only [↓gq,↓stepP,↓stepG,go_sem,Bool.not_true,Bool.not_false,hn,hol])|refine Pwp.seq ?_|refine Pwp.block ?_|(refine Pwp.exit ?_;simp only [thenS,blockS,if_true,if_false,reduceIte,Nat.reduceEqDiff,Nat.add_one_ne_zero,reduceCtorEq])|(refine Pwp.skip ?_;simp only [thenS,blockS])|(refine Pwp.cond rfl True.intro (fun h=>?_) (fun h=>?_)<;>(try (cases h;done))<;>(try simp only [h]))|refine Pwp.ret ?_|(refine hK _ ?_;clear hK K)|(refine hK _ _ rfl ?_;clear hK K)|(refine CallK.toD (ds:=[]) rfl (r89) rfl ?_)|refine CallG.off ?_|with_reducible refine Or.inl ?_|simp only [thenS,blockS]|with_reducible refine And.intro ?_ ?_|with_reducible exact True.intro|simp (dsimp:=false) only [↓gq,↓stepP,↓stepG,go_sem,Bool.not_true,Bool.not_false,hn,hol])
    all_goals (try (first|(intro hg;simp [hg];done)|exact of_decide_eq_true rfl|(cases h;done)))
    (refine Fin.data (.inr rfl) (by simp (dsimp:=false) only [↓gq,↓stepP,↓stepG,go_sem,resL]; rfl) (by simp only [and_self]) (by simp (dsimp:=false) only [↓gq,↓stepP,↓stepG,go_sem,resP,Nat.le_refl,List.take_length]; try rfl) ?_)
    exact subD_refl _
  | false =>
    have hn2 := hn
    simp only [decide_eq_false_iff_not] at hn2
    have r1 := run91 3 [] (stL1 0) (-1) (by omega) (by simp [RunsOK]) (by simp) (by simp [stL1])
    rw [late1] at r1
    simp only [cOutD, stL1, VMsg.msg, Msg.d, Msg.cells, List.map_nil] at r1
    generalize sentsD (allV 3 (askV 1 0)) = os at r1
    unfold chD at r1
    refine Runs.of (kit Try.prog) Try.func32 rfl rfl (by rw [Try.ntmps32]; exact of_decide_eq_true rfl) ?_; rw [Try.ntmps32, Try.results32]
    repeat' (first|((first|refine goA rfl fun K hK=>?_|refine goB rfl fun K hK=>?_|refine goC rfl rfl fun K hK=>?_|refine goD rfl rfl fun K hK=>?_);simp (dsimp:=false) only [↓gq,↓stepP,↓stepG,go_sem,Bool.not_true,Bool.not_false,hn,hol])|refine Pwp.seq ?_|refine Pwp.block ?_|(refine Pwp.exit ?_;simp only [thenS,blockS,if_true,if_false,reduceIte,Nat.reduceEqDiff,Nat.add_one_ne_zero,reduceCtorEq])|(refine Pwp.skip ?_;simp only [thenS,blockS])|(refine Pwp.cond rfl True.intro (fun h=>?_) (fun h=>?_)<;>(try (cases h;done))<;>(try simp only [h]))|refine Pwp.ret ?_|(refine hK _ ?_;clear hK K)|(refine hK _ _ rfl ?_;clear hK K)|(refine CallK.giveS (ds:=[.agg [I64 3, nilD], .agg [I64 5, I64 0, I64 0, I64 0, I64 0, I64 0, I64 0, I64 0, .v (.bool false), nilD, nilD], I64 (-1)]) (es:=[.agg [I64 3, .slc 5 (runsC 3 [])], .agg [I64 5, I64 0, I64 0, I64 0, I64 0, I64 0, I64 0, I64 0, .v (.bool false), .slc 4 (linesD []), .slc 1 []], I64 (-1)]) rfl (by simp [subL, subD, subV, subD_refl, linesD, runsC]) r1 (by simp) ?_)|(refine CallK.toD (ds:=[]) rfl (r89) rfl ?_)|refine CallG.off ?_|with_reducible refine Or.inl ?_|simp only [thenS,blockS]|with_reducible refine And.intro ?_ ?_|with_reducible exact True.intro|simp (dsimp:=false) only [↓gq,↓stepP,↓stepG,go_sem,Bool.not_true,Bool.not_false,hn,hol])
    all_goals (try (first|(intro hg;simp [hg];done)|exact of_decide_eq_true rfl|(cases h;done)))
    refine Pwp.range 3 (S := L32a ord no due) (Sub.view V0 (by simp [L32a]) rfl (by simp [L32a,bxC,lateQ]) (by simp [L32a,bxC,lateQ])) (fun j hj => ?_) ?_
    · have c1 : decide ((j : Int) < 3) = true := decide_eq_true (by omega)
      have w1 := wrap_succ (i := j) (by omega)
      have r2 := run91 3 [lateQ j] (ofL1 1) (j : Int) (by omega) (lateQ_ok j) (by simp) (by simp [ofL1])
      have e2 := lateQ_step hj
      generalize chiefR 3 [lateQ j] (ofL1 1) (j : Int) = R at *
      obtain ⟨e, rs', o⟩ := R
      simp only at e2
      subst e2
      simp only [cOutD, ofL1, VMsg.msg, Msg.d, Msg.cells, List.map_nil, chD] at r2
      generalize sentsD o = os2 at r2
      unfold L32a bxC
      repeat' (first|((first|refine goA rfl fun K hK=>?_|refine goB rfl fun K hK=>?_|refine goC rfl rfl fun K hK=>?_|refine goD rfl rfl fun K hK=>?_);simp (dsimp:=false) only [↓gq,↓stepP,↓stepG,go_sem,c1,w1])|refine Pwp.seq ?_|refine Pwp.block ?_|(refine Pwp.exit ?_;simp only [thenS,blockS,if_true,if_false,reduceIte,Nat.reduceEqDiff,Nat.add_one_ne_zero,reduceCtorEq])|(refine Pwp.skip ?_;simp only [thenS,blockS])|(refine Pwp.cond rfl True.intro (fun h=>?_) (fun h=>?_)<;>(try (cases h;done))<;>(try simp only [h]))|refine Pwp.ret ?_|(refine hK _ ?_;clear hK K)|(refine hK _ _ rfl ?_;clear hK K)|(refine CallK.giveS (ds:=[.agg [I64 3, .slc 5 (runsC 3 [lateQ j])], .agg [I64 11, I64 0, I64 0, I64 0, I64 0, I64 0, I64 1, I64 0, .v (.bool false), nilD, nilD], I64 (j : Int)]) (es:=[.agg [I64 3, .slc 5 (runsC 3 [lateQ j])], .agg [I64 11, I64 0, I64 0, I64 0, I64 0, I64 0, I64 1, I64 0, .v (.bool false), .slc 4 (linesD []), .slc 1 []], I64 (j : Int)]) rfl (by simp [subL, subD, subV, subD_refl, linesD]) r2 (by simp) ?_)|refine CallG.off ?_|with_reducible refine Or.inl ?_|simp only [thenS,blockS]|with_reducible refine And.intro ?_ ?_|with_reducible exact True.intro|simp (dsimp:=false) only [↓gq,↓stepP,↓stepG,go_sem,c1,w1])
      all_goals (try (first|(intro hg;simp [hg];done)|exact of_decide_eq_true rfl|(cases h;done)))
      exact Sub.view V0 (by simp [L32a]) rfl (by simp [L32a,bxC]) (by simp [L32a,bxC])
    · have c1 : decide (((3 : Nat) : Int) < 3) = false := rfl
      unfold L32a bxC
      repeat' (first|((first|refine goA rfl fun K hK=>?_|refine goB rfl fun K hK=>?_|refine goC rfl rfl fun K hK=>?_|refine goD rfl rfl fun K hK=>?_);simp (dsimp:=false) only [↓gq,↓stepP,↓stepG,go_sem,c1,hol])|refine Pwp.seq ?_|refine Pwp.block ?_|(refine Pwp.exit ?_;simp only [thenS,blockS,if_true,if_false,reduceIte,Nat.reduceEqDiff,Nat.add_one_ne_zero,reduceCtorEq])|(refine Pwp.skip ?_;simp only [thenS,blockS])|(refine Pwp.cond rfl True.intro (fun h=>?_) (fun h=>?_)<;>(try (cases h;done))<;>(try simp only [h]))|refine Pwp.ret ?_|(refine hK _ ?_;clear hK K)|(refine hK _ _ rfl ?_;clear hK K)|refine CallG.off ?_|with_reducible refine Or.inl ?_|simp only [thenS,blockS]|with_reducible refine And.intro ?_ ?_|with_reducible exact True.intro|simp (dsimp:=false) only [↓gq,↓stepP,↓stepG,go_sem,c1,hol])
      all_goals (try (first|(intro hg;simp [hg];done)|exact of_decide_eq_true rfl|(cases h;done)))
      refine Pwp.rangeI ord.length (fun i s => ∃ E said, LateI E said no ∧ s = L32b ord no due E said i) (s0 := L32b ord no due [] false 0) (Sub.view V0 (by simp [L32b]) rfl (by simp [L32b,bxC,lateQ,votK,entK]) (by simp [L32b,bxC,lateQ,votK,entK])) ⟨[], false, ⟨by simp [lateE], by simp, by simp⟩, rfl⟩ ?_ ?_
      · rintro k s hk ⟨E, said, hI, rfl⟩
        obtain ⟨i, hx, hm⟩ := at_lt hk
        have hg : (ord.map I64)[k]? = some (I64 i) := by rw [List.getElem?_map, hx]; rfl
        have c2 := dlt hk
        have w2 := wrap_succ (i := k) (by omega)
        cases hc : (decide (i < 0) || decide (2 < i)) with
        | true =>
          unfold L32b bxC
          repeat' (first|((first|refine goA rfl fun K hK=>?_|refine goB rfl fun K hK=>?_|refine goC rfl rfl fun K hK=>?_|refine goD rfl rfl fun K hK=>?_);simp (dsimp:=false) only [↓gq,↓stepP,↓stepG,go_sem,hg,c2,w2,hc])|refine Pwp.seq ?_|refine Pwp.block ?_|(refine Pwp.exit ?_;simp only [thenS,blockS,if_true,if_false,reduceIte,Nat.reduceEqDiff,Nat.add_one_ne_zero,reduceCtorEq])|(refine Pwp.skip ?_;simp only [thenS,blockS])|(refine Pwp.cond rfl True.intro (fun h=>?_) (fun h=>?_)<;>(try (cases h;done))<;>(try simp only [h]))|refine Pwp.ret ?_|(refine hK _ ?_;clear hK K)|(refine hK _ _ rfl ?_;clear hK K)|refine CallG.off ?_|with_reducible refine Or.inl ?_|simp only [thenS,blockS]|with_reducible refine And.intro ?_ ?_|with_reducible exact True.intro|simp (dsimp:=false) only [↓gq,↓stepP,↓stepG,go_sem,hg,c2,w2,hc])
          all_goals (try (first|(intro hg;simp [hg];done)|exact of_decide_eq_true rfl|(cases h;done)))
          exact ⟨_, Sub.view V0 (by simp [L32b]) rfl (by simp [L32b,bxC]) (by simp [L32b,bxC]), E, said, hI, rfl⟩
        | false =>
          have hc2 := hc
          simp only [Bool.or_eq_false_iff, decide_eq_false_iff_not] at hc2
          have hml := votK_len E
          cases hq : ((((k : Int) == due) && !said) && decide ((E.length : Int) < 3)) with
          | true =>
            have hq2 := hq
            simp only [Bool.and_eq_true, Bool.not_eq_true', decide_eq_true_eq] at hq2
            obtain ⟨⟨_, rfl⟩, hl⟩ := hq2
            have hq3 : (((k : Int) == due) && decide ((E.length : Int) < 3)) = true := by simpa using hq
            have r3 := run91 3 [lateD E false] duL1 (-1) (by omega) (lateD_ok E false) (by simp) (by simp [duL1])
            have hok := chiefR_ok (n := 3) (by omega) (lateD_ok E false) (m := duL1) (f := -1) (by simp [duL1])
            rw [late_due hI.1 (by omega)] at r3 hok
            have r94 := run94 3 _ 1 (by omega) hok.1 (by simp) rfl
            generalize hd : (⟨0, 4, [true, true, true, false, false, false, false, false], lateV E, List.replicate 8 [], [], [0, 0, 0]⟩ : DRun) = d at *
            have hat : atR [d] 1 = d := rfl
            have hst : d.st = 4 := by rw [← hd]
            simp only [hat, runP, hst] at r94
            have hdo : sentsD (allV 3 (decV 1 false)) = [cellsD 0 14 1 false [] [], cellsD 1 14 1 false [] [], cellsD 2 14 1 false [] []] := by kernel_rfl
            simp only [cOutD, duL1, VMsg.msg, Msg.d, Msg.cells, List.map_nil, hdo] at r3
            unfold chD at r3 r94
            unfold L32b bxC
            repeat' (first|((first|refine goA rfl fun K hK=>?_|refine goB rfl fun K hK=>?_|refine goC rfl rfl fun K hK=>?_|refine goD rfl rfl fun K hK=>?_);simp (dsimp:=false) only [↓gq,↓stepP,↓stepG,go_sem,hg,c2,w2,hc,hq3,hml,Bool.not_false,Bool.and_true])|refine Pwp.seq ?_|refine Pwp.block ?_|(refine Pwp.exit ?_;simp only [thenS,blockS,if_true,if_false,reduceIte,Nat.reduceEqDiff,Nat.add_one_ne_zero,reduceCtorEq])|(refine Pwp.skip ?_;simp only [thenS,blockS])|(refine Pwp.cond rfl True.intro (fun h=>?_) (fun h=>?_)<;>(try (cases h;done))<;>(try simp only [h]))|refine Pwp.ret ?_|(refine hK _ ?_;clear hK K)|(refine hK _ _ rfl ?_;clear hK K)|(refine CallK.giveS (ds:=[.agg [I64 3, .slc 5 (runsC 3 [lateD E false])], .agg [I64 16, I64 0, I64 0, I64 0, I64 0, I64 0, I64 1, I64 0, .v (.bool false), nilD, nilD], I64 (-1)]) (es:=[.agg [I64 3, .slc 5 (runsC 3 [lateD E false])], .agg [I64 16, I64 0, I64 0, I64 0, I64 0, I64 0, I64 1, I64 0, .v (.bool false), .slc 4 (linesD []), .slc 1 []], I64 (-1)]) rfl (by simp [subL, subD, subV, subD_refl, linesD]) r3 (by simp) ?_)|(refine CallK.give (ds:=[.agg [I64 3, .slc 5 (runsC 3 [d])], I64 1]) rfl (r94) (by simp) ?_)|refine CallG.off ?_|with_reducible refine Or.inl ?_|simp only [thenS,blockS]|with_reducible refine And.intro ?_ ?_|with_reducible exact True.intro|simp (dsimp:=false) only [↓gq,↓stepP,↓stepG,go_sem,hg,c2,w2,hc,hq3,hml,Bool.not_false,Bool.and_true])
            all_goals (try (first|(intro hg;simp [hg];done)|exact of_decide_eq_true rfl|(cases h;done)))
            all_goals (try (intro hg; simp only [hg, Bool.not_false, Bool.not_true, Bool.and_self, Bool.true_and, Bool.and_true, true_and, and_self, imp_self, implies_true]; done))
            (refine Fin.data (.inr rfl) (by simp (dsimp:=false) only [↓gq,↓stepP,↓stepG,go_sem,resL]; rfl) (by simp only [and_self]) (by simp (dsimp:=false) only [↓gq,↓stepP,↓stepG,go_sem,resP,Nat.le_refl,List.take_length]; try rfl) ?_)
            exact subD_refl _
          | false =>
            have r3 := run91 3 [lateD E said] (voL1 (i != no)) i (by omega) (lateD_ok E said) (by simp) (by simp [voL1])
            obtain ⟨e2, hI'⟩ := late_step hI (i := i) (by omega) (by omega)
            generalize chiefR 3 [lateD E said] (voL1 (i != no)) i = R at *
            obtain ⟨e, rs', o⟩ := R
            simp only at e2
            subst e2
            simp only [cOutD, voL1, VMsg.msg, Msg.d, Msg.cells, List.map_nil, chD] at r3
            generalize sentsD o = os2 at r3
            cases hs : (!said && decide ((E.length : Int) < 3)) with
            | true =>
              obtain ⟨x1, x2⟩ := late_on hs i no
              have hms : mapSet none (.v (.int .i64 i)) (.v (.bool true)) (entK (votK E)) = some (entK (votK (if i ∈ E then E else E ++ [i]))) := by rw [set_entK, vot_set]
              rw [x1, x2] at hI' r3
              unfold L32b bxC
              repeat' (first|((first|refine goA rfl fun K hK=>?_|refine goB rfl fun K hK=>?_|refine goC rfl rfl fun K hK=>?_|refine goD rfl rfl fun K hK=>?_);simp (dsimp:=false) only [↓gq,↓stepP,↓stepG,go_sem,hg,c2,w2,hc,hq,hml,hs,hms])|refine Pwp.seq ?_|refine Pwp.block ?_|(refine Pwp.exit ?_;simp only [thenS,blockS,if_true,if_false,reduceIte,Nat.reduceEqDiff,Nat.add_one_ne_zero,reduceCtorEq])|(refine Pwp.skip ?_;simp only [thenS,blockS])|(refine Pwp.cond rfl True.intro (fun h=>?_) (fun h=>?_)<;>(try (cases h;done))<;>(try simp only [h]))|refine Pwp.ret ?_|(refine hK _ ?_;clear hK K)|(refine hK _ _ rfl ?_;clear hK K)|(refine CallK.giveS (ds:=[.agg [I64 3, .slc 5 (runsC 3 [lateD E said])], .agg [I64 13, I64 0, I64 0, I64 0, I64 0, I64 0, I64 1, I64 0, .v (.bool (i != no)), nilD, nilD], I64 i]) (es:=[.agg [I64 3, .slc 5 (runsC 3 [lateD E said])], .agg [I64 13, I64 0, I64 0, I64 0, I64 0, I64 0, I64 1, I64 0, .v (.bool (i != no)), .slc 4 (linesD []), .slc 1 []], I64 i]) rfl (by simp [subL, subD, subV, subD_refl, linesD]) r3 (by simp) ?_)|refine CallG.off ?_|with_reducible refine Or.inl ?_|simp only [thenS,blockS]|with_reducible refine And.intro ?_ ?_|with_reducible exact True.intro|simp (dsimp:=false) only [↓gq,↓stepP,↓stepG,go_sem,hg,c2,w2,hc,hq,hml,hs,hms])
              all_goals (try (first|(intro hg;simp [hg];done)|exact of_decide_eq_true rfl|(cases h;done)))
              all_goals (try (intro hg; simp only [hg, Bool.not_false, Bool.not_true, Bool.and_self, Bool.true_and, Bool.and_true, true_and, and_self, imp_self, implies_true]; done))
              exact ⟨_, Sub.view V0 (by simp [L32b]) rfl (by simp [L32b,bxC]) (by simp [L32b,bxC]), _, _, hI', rfl⟩
            | false =>
              obtain ⟨x1, x2⟩ := late_off hs i no
              rw [x1, x2] at hI' r3
              unfold L32b bxC
              repeat' (first|((first|refine goA rfl fun K hK=>?_|refine goB rfl fun K hK=>?_|refine goC rfl rfl fun K hK=>?_|refine goD rfl rfl fun K hK=>?_);simp (dsimp:=false) only [↓gq,↓stepP,↓stepG,go_sem,hg,c2,w2,hc,hq,hml,hs])|refine Pwp.seq ?_|refine Pwp.block ?_|(refine Pwp.exit ?_;simp only [thenS,blockS,if_true,if_false,reduceIte,Nat.reduceEqDiff,Nat.add_one_ne_zero,reduceCtorEq])|(refine Pwp.skip ?_;simp only [thenS,blockS])|(refine Pwp.cond rfl True.intro (fun h=>?_) (fun h=>?_)<;>(try (cases h;done))<;>(try simp only [h]))|refine Pwp.ret ?_|(refine hK _ ?_;clear hK K)|(refine hK _ _ rfl ?_;clear hK K)|(refine CallK.giveS (ds:=[.agg [I64 3, .slc 5 (runsC 3 [lateD E said])], .agg [I64 13, I64 0, I64 0, I64 0, I64 0, I64 0, I64 1, I64 0, .v (.bool (i != no)), nilD, nilD], I64 i]) (es:=[.agg [I64 3, .slc 5 (runsC 3 [lateD E said])], .agg [I64 13, I64 0, I64 0, I64 0, I64 0, I64 0, I64 1, I64 0, .v (.bool (i != no)), .slc 4 (linesD []), .slc 1 []], I64 i]) rfl (by simp [subL, subD, subV, subD_refl, linesD]) r3 (by simp) ?_)|refine CallG.off ?_|with_reducible refine Or.inl ?_|simp only [thenS,blockS]|with_reducible refine And.intro ?_ ?_|with_reducible exact True.intro|simp (dsimp:=false) only [↓gq,↓stepP,↓stepG,go_sem,hg,c2,w2,hc,hq,hml,hs])
              all_goals (try (first|(intro hg;simp [hg];done)|exact of_decide_eq_true rfl|(cases h;done)))
              all_goals (try (intro hg; simp only [hg, Bool.not_false, Bool.not_true, Bool.and_self, Bool.true_and, Bool.and_true, true_and, and_self, imp_self, implies_true]; done))
              exact ⟨_, Sub.view V0 (by simp [L32b]) rfl (by simp [L32b,bxC]) (by simp [L32b,bxC]), _, _, hI', rfl⟩
      · rintro s ⟨E, said, hI, rfl⟩
        have c2 := dge (Nat.le_refl ord.length)
        have r94 := run94 3 [lateD E said] 1 (by omega) (lateD_ok E said) (by simp) rfl
        have r95 := run95 3 [lateD E said] (by simp)
        have hat : atR [lateD E said] 1 = lateD E said := rfl
        have hml := votK_len E
        have hll := lateE_len hI.1
        have hst : (lateD E said).st = lateS E said := rfl
        simp only [hat, runP, hst] at r94
        unfold chD at r94 r95
        cases said with
        | true =>
          have hs4 : lateS E true = 4 := rfl
          rw [hs4] at r94
          unfold L32b bxC
          repeat' (first|((first|refine goA rfl fun K hK=>?_|refine goB rfl fun K hK=>?_|refine goC rfl rfl fun K hK=>?_|refine goD rfl rfl fun K hK=>?_);simp (dsimp:=false) only [↓gq,↓stepP,↓stepG,go_sem,c2])|refine Pwp.seq ?_|refine Pwp.block ?_|(refine Pwp.exit ?_;simp only [thenS,blockS,if_true,if_false,reduceIte,Nat.reduceEqDiff,Nat.add_one_ne_zero,reduceCtorEq])|(refine Pwp.skip ?_;simp only [thenS,blockS])|(refine Pwp.cond rfl True.intro (fun h=>?_) (fun h=>?_)<;>(try (cases h;done))<;>(try simp only [h]))|refine Pwp.ret ?_|(refine hK _ ?_;clear hK K)|(refine hK _ _ rfl ?_;clear hK K)|(refine CallK.give (ds:=[.agg [I64 3, .slc 5 (runsC 3 [lateD E true])], I64 1]) rfl (r94) (by simp) ?_)|refine CallG.off ?_|with_reducible refine Or.inl ?_|simp only [thenS,blockS]|with_reducible refine And.intro ?_ ?_|with_reducible exact True.intro|simp (dsimp:=false) only [↓gq,↓stepP,↓stepG,go_sem,c2])
          all_goals (try (first|(intro hg;simp [hg];done)|exact of_decide_eq_true rfl|(cases h;done)))
          (refine Fin.data (.inr rfl) (by simp (dsimp:=false) only [↓gq,↓stepP,↓stepG,go_sem,resL]; rfl) (by simp only [and_self]) (by simp (dsimp:=false) only [↓gq,↓stepP,↓stepG,go_sem,resP,Nat.le_refl,List.take_length]; try rfl) ?_)
          exact subD_refl _
        | false =>
          by_cases h3 : E.length = 3
          · have hs4 : lateS E false = 3 := by simp [lateS, h3]
            have hl3 : ((E.length : Int) == 3) = true := by rw [h3]; rfl
            rw [hs4] at r94
            unfold L32b bxC
            repeat' (first|((first|refine goA rfl fun K hK=>?_|refine goB rfl fun K hK=>?_|refine goC rfl rfl fun K hK=>?_|refine goD rfl rfl fun K hK=>?_);simp (dsimp:=false) only [↓gq,↓stepP,↓stepG,go_sem,c2,hml,hl3])|refine Pwp.seq ?_|refine Pwp.block ?_|(refine Pwp.exit ?_;simp only [thenS,blockS,if_true,if_false,reduceIte,Nat.reduceEqDiff,Nat.add_one_ne_zero,reduceCtorEq])|(refine Pwp.skip ?_;simp only [thenS,blockS])|(refine Pwp.cond rfl True.intro (fun h=>?_) (fun h=>?_)<;>(try (cases h;done))<;>(try simp only [h]))|refine Pwp.ret ?_|(refine hK _ ?_;clear hK K)|(refine hK _ _ rfl ?_;clear hK K)|(refine CallK.give (ds:=[.agg [I64 3, .slc 5 (runsC 3 [lateD E false])], I64 1]) rfl (r94) (by simp) ?_)|refine CallG.off ?_|with_reducible refine Or.inl ?_|simp only [thenS,blockS]|with_reducible refine And.intro ?_ ?_|with_reducible exact True.intro|simp (dsimp:=false) only [↓gq,↓stepP,↓stepG,go_sem,c2,hml,hl3])
            all_goals (try (first|(intro hg;simp [hg];done)|exact of_decide_eq_true rfl|(cases h;done)))
            (refine Fin.data (.inr rfl) (by simp (dsimp:=false) only [↓gq,↓stepP,↓stepG,go_sem,resL]; rfl) (by simp only [and_self]) (by simp (dsimp:=false) only [↓gq,↓stepP,↓stepG,go_sem,resP,Nat.le_refl,List.take_length]; try rfl) ?_)
            exact subD_refl _
          · have hs4 : lateS E false = 2 := by simp [lateS, h3]
            have hl3 : ((E.length : Int) == 3) = false := by rw [beq_eq_false_iff_ne]; omega
            have hwt : (wtsR 0 [lateD E false]).map I64 = [I64 1] := by simp [wtsR, openR, lateD, hs4]
            rw [hs4] at r94
            rw [hwt] at r95
            unfold L32b bxC
            repeat' (first|((first|refine goA rfl fun K hK=>?_|refine goB rfl fun K hK=>?_|refine goC rfl rfl fun K hK=>?_|refine goD rfl rfl fun K hK=>?_);simp (dsimp:=false) only [↓gq,↓stepP,↓stepG,go_sem,c2,hml,hl3])|refine Pwp.seq ?_|refine Pwp.block ?_|(refine Pwp.exit ?_;simp only [thenS,blockS,if_true,if_false,reduceIte,Nat.reduceEqDiff,Nat.add_one_ne_zero,reduceCtorEq])|(refine Pwp.skip ?_;simp only [thenS,blockS])|(refine Pwp.cond rfl True.intro (fun h=>?_) (fun h=>?_)<;>(try (cases h;done))<;>(try simp only [h]))|refine Pwp.ret ?_|(refine hK _ ?_;clear hK K)|(refine hK _ _ rfl ?_;clear hK K)|(refine CallG.toI (ds:=[.agg [I64 3, .slc 5 (runsC 3 [lateD E false])]]) rfl rfl r95 ?_ ?_)|(refine CallK.give (ds:=[.agg [I64 3, .slc 5 (runsC 3 [lateD E false])], I64 1]) rfl (r94) (by simp) ?_)|refine CallG.off ?_|with_reducible refine Or.inl ?_|simp only [thenS,blockS]|with_reducible refine And.intro ?_ ?_|with_reducible exact True.intro|simp (dsimp:=false) only [↓gq,↓stepP,↓stepG,go_sem,c2,hml,hl3])
            all_goals (try (first|(intro hg;simp [hg];done)|exact of_decide_eq_true rfl|(cases h;done)))
            (refine Fin.data (.inr rfl) (by simp (dsimp:=false) only [↓gq,↓stepP,↓stepG,go_sem,resL]; rfl) (by simp only [and_self]) (by simp (dsimp:=false) only [↓gq,↓stepP,↓stepG,go_sem,resP,Nat.le_refl,List.take_length]; try rfl) ?_)
            exact subD_refl _
end Go.Proofs.Ytdodgbhodkcckaa.Pv
end
section
set_option autoImplicit false
namespace Go.Proofs.Ytdodgbhodkcckaa.Pv
open Go Go.RowKit
theorem run32k (xs : List D) (h : okArgs [(false, [.slc false [.int .i64]]), (false, [.int .i64]), (false, [.int .i64])] xs) : Runs Try.prog 32 (xs.map .d) [] (.d (.v (.bool true))) [] := by
  simp only [okArgs, okL] at h
  obtain ⟨_, _, rfl, ⟨_, _, rfl, h0, rfl⟩, _, _, rfl, ⟨_, _, rfl, h1, rfl⟩, _, _, rfl, ⟨_, _, rfl, h2, rfl⟩, rfl⟩ := h
  obtain ⟨l, rfl⟩ := numsV_of h0
  simp only [okD] at h1 h2
  obtain ⟨a, rfl, _⟩ := h1
  obtain ⟨b, rfl, _⟩ := h2
  exact run32 l a b
end Go.Proofs.Ytdodgbhodkcckaa.Pv
end
section
set_option linter.unusedVariables false
set_option linter.unusedSimpArgs false
set_option autoImplicit false
set_option maxRecDepth 100000
namespace Go.Proofs.Ytdodgbhodkcckaa.Pv
open Go Go.RowKit
def OneOpen (rs : List DRun) : Prop := rs.Pairwise fun a b => a.st < 3 → b.st < 3 → a.cur ≠ b.cur
theorem one_set {rs : List DRun} (h : OneOpen rs) {i : Nat} {d d' : DRun} (hd : rs[i]? = some d) (hc : d'.cur = d.cur) (hs : d'.st < 3 → d.st < 3) : OneOpen (rs.set i d') := by
  obtain ⟨hi, rfl⟩ := List.getElem?_eq_some_iff.1 hd
  unfold OneOpen at *
  rw [List.pairwise_iff_getElem] at *
  intro a b ha hb hab
  rw [List.length_set] at ha hb
  have h0 := h a b ha hb hab
  rw [List.getElem_set, List.getElem_set]
  split <;> split
  · omega
  · subst_vars; intro h1 h2; rw [hc]; exact h0 (hs h1) h2
  · subst_vars; intro h1 h2; rw [hc]; exact h0 h1 (hs h2)
  · exact h0
theorem chiefR_one {n : Nat} {rs : List DRun} (h : OneOpen rs) (m : VMsg) (f : Int) : OneOpen (chiefR n rs m f).rs := by
  refine chiefR_cases (fun R => OneOpen R.rs) ?_ ?_ ?_ ?_ ?_ ?_ ?_ ?_ ?_ ?_
  · intro _ _; exact h
  · intro _ _ _ ha
    unfold OneOpen
    rw [List.pairwise_append]
    refine ⟨h, List.pairwise_singleton _ _, fun a hm b hb => ?_⟩
    obtain rfl : b = zeroR m.currency := by simpa using hb
    intro h1 _
    exact ha a hm h1
  · intro d _ _ hd _ hs _ _ _ _; exact one_set h hd rfl fun h1 => h1
  · intro d _ _ hd _ hs _ _ _ _ _; exact one_set h hd rfl fun h1 => by omega
  · intro d _ _ hd _ hs _ _ _ _ _; exact one_set h hd rfl fun h1 => by omega
  · intro d _ _ hd _ hs _ _ _; exact one_set h hd rfl fun h1 => by omega
  · intro d _ _ hd _ hs _ _ _ _; exact one_set h hd rfl fun h1 => h1
  · intro d _ _ hd _ hs _ _ _ _; exact one_set h hd rfl fun h1 => by omega
  · intro d _ _ hd _ hs; exact one_set h hd rfl fun h1 => hs
  · intros; exact h
def opC (rs : List DRun) : List Int := (rs.filter openR).map (·.cur)
theorem opC_nodup : ∀ {rs : List DRun}, (∀ d ∈ rs, 1 ≤ d.st ∧ d.st ≤ 4) → OneOpen rs → (opC rs).Nodup
  | [], _, _ => List.nodup_nil
  | d :: rs, hs, h => by
    unfold OneOpen at h
    rw [List.pairwise_cons] at h
    have ih := opC_nodup (fun x hx => hs x (List.mem_cons_of_mem _ hx)) h.2
    unfold opC at *
    by_cases ho : openR d = true
    · rw [List.filter_cons_of_pos ho, List.map_cons, List.nodup_cons]
      refine ⟨fun hm => ?_, ih⟩
      obtain ⟨x, hx, he⟩ := List.mem_map.1 hm
      obtain ⟨hx1, hx2⟩ := List.mem_filter.1 hx
      have o1 : d.st < 3 := by simp [openR] at ho; omega
      have o2 : x.st < 3 := by simp [openR] at hx2; omega
      exact h.1 x hx1 o1 o2 he.symm
    · rw [List.filter_cons_of_neg ho]; exact ih
theorem wts_cur : ∀ (rs : List DRun) (i : Nat), (wtsR i rs).length = (opC rs).length ∧ ∀ (j : Nat) (c : Int), (wtsR i rs)[j]? = some c → ∃ d k, rs[k]? = some d ∧ c = ((i + k : Nat) : Int) + 1 ∧ openR d = true ∧ (opC rs)[j]? = some d.cur
  | [], i => ⟨rfl, fun j c h => by simp [wtsR] at h⟩
  | d :: rs, i => by
    obtain ⟨ih1, ih2⟩ := wts_cur rs (i + 1)
    unfold opC at *
    simp only [wtsR]
    by_cases ho : openR d = true
    · rw [if_pos ho, List.filter_cons_of_pos ho, List.map_cons, List.length_cons, List.length_cons, ih1]
      refine ⟨rfl, fun j c h => ?_⟩
      cases j with
      | zero =>
        simp only [List.getElem?_cons_zero, Option.some.injEq] at h
        exact ⟨d, 0, rfl, by rw [← h]; simp, ho, rfl⟩
      | succ j =>
        rw [List.getElem?_cons_succ] at h
        obtain ⟨x, k, h1, h2, h3, h4⟩ := ih2 j c h
        exact ⟨x, k + 1, by simpa using h1, by rw [h2]; congr 2; omega, h3, by simpa using h4⟩
    · rw [if_neg ho, List.filter_cons_of_neg ho]
      refine ⟨ih1, fun j c h => ?_⟩
      obtain ⟨x, k, h1, h2, h3, h4⟩ := ih2 j c h
      exact ⟨x, k + 1, by simpa using h1, by rw [h2]; congr 2; omega, h3, h4⟩
theorem wts_run {rs : List DRun} {j : Nat} {c : Int} (h : (wtsR 0 rs)[j]? = some c) : (decide (c < 1) || decide ((rs.length : Int) < c)) = false ∧ atR rs c ∈ rs ∧ (opC rs)[j]? = some (atR rs c).cur := by
  obtain ⟨d, k, h1, h2, h3, h4⟩ := (wts_cur rs 0).2 j c h
  have hk := (List.getElem?_eq_some_iff.1 h1).1
  have hat : atR rs c = d := by
    unfold atR
    rw [h2, show (((0 + k : Nat) : Int) + 1 - 1).toNat = k by omega, h1]; rfl
  rw [hat]
  exact ⟨by rw [Bool.or_eq_false_iff, decide_eq_false_iff_not, decide_eq_false_iff_not]; omega, List.mem_of_getElem? h1, h4⟩
def opnK (l : List Int) : List (Int × D) := l.map fun c => (c, .v (.int .i64 1))
theorem opn_get (l : List Int) (c : Int) : getK c (opnK l) = if c ∈ l then some (.v (.int .i64 1)) else none := by
  induction l with
  | nil => rfl
  | cons k l ih =>
    simp only [opnK, List.map_cons, getK] at *
    by_cases h : c = k
    · subst h; simp
    · rw [if_neg h, ih]
      by_cases hm : c ∈ l
      · rw [if_pos hm, if_pos (List.mem_cons_of_mem _ hm)]
      · rw [if_neg hm, if_neg (by rw [List.mem_cons]; exact fun hc => hc.elim h hm)]
theorem opn_set {l : List Int} {c : Int} (h : c ∉ l) : setK c (.v (.int .i64 1)) (opnK l) = opnK (l ++ [c]) := by
  induction l with
  | nil => rfl
  | cons k l ih =>
    rw [List.mem_cons, not_or] at h
    simp only [opnK, List.map_cons, setK, List.cons_append] at *
    rw [if_neg h.1, ih h.2]
theorem nodup_at {l : List Int} (h : l.Nodup) {j : Nat} {c : Int} (hc : l[j]? = some c) : c ∉ l.take j ∧ l.take (j + 1) = l.take j ++ [c] := by
  obtain ⟨hj, rfl⟩ := List.getElem?_eq_some_iff.1 hc
  refine ⟨fun hm => ?_, by rw [List.take_add_one, hc]; rfl⟩
  obtain ⟨i, hi, he⟩ := List.mem_iff_getElem.1 hm
  rw [List.length_take] at hi
  rw [List.getElem_take] at he
  exact (List.pairwise_iff_getElem.1 h i j (by omega) hj (by omega)) he
theorem start_e {n : Nat} {rs : List DRun} (hs : ∀ d ∈ rs, 1 ≤ d.st ∧ d.st ≤ 4) (cur : Int) (h1 : 0 ≤ cur) (h2 : cur ≤ 7) (m : VMsg) (hk : m.kind = 5) (hc : m.currency = cur) : ((chiefR n rs m (-1)).e == 0) = decide (cur ∉ opC rs) := by
  have hb : kindBad m (-1) = false := by unfold kindBad clientV nodeV; rw [hk]; rfl
  unfold chiefR
  rw [hb, if_neg (by simp), if_pos (by rw [hk]; rfl), hc]
  unfold cStart
  rw [if_neg (by rw [Bool.not_eq_true, Bool.or_eq_false_iff, decide_eq_false_iff_not, decide_eq_false_iff_not]; omega)]
  by_cases ha : cur ∈ opC rs
  · obtain ⟨d, hd, he⟩ := List.mem_map.1 ha
    obtain ⟨hd1, hd2⟩ := List.mem_filter.1 hd
    have o1 : d.st < 3 := by simp [openR] at hd2; omega
    rw [if_pos (by rw [List.any_eq_true]; exact ⟨d, hd1, by simp [o1, he]⟩)]
    simp [ha]
  · rw [if_neg]
    · simp [ha]
    · rw [List.any_eq_true]
      rintro ⟨d, hd, h3⟩
      simp only [Bool.and_eq_true, decide_eq_true_eq, beq_iff_eq] at h3
      have := hs d hd
      refine ha (List.mem_map.2 ⟨d, List.mem_filter.2 ⟨hd, ?_⟩, h3.2⟩)
      simp [openR]; omega
end Go.Proofs.Ytdodgbhodkcckaa.Pv
end
section
set_option linter.unusedVariables false
set_option linter.unusedSimpArgs false
set_option autoImplicit false
set_option maxRecDepth 100000
namespace Go.Proofs.Ytdodgbhodkcckaa.Pv
open Go Go.RowKit
structure At33 (rs : List DRun) (i : Nat) : Prop where
  ok : RunsOK 3 rs
  one : OneOpen rs
  len : rs.length ≤ i
theorem At33.st {rs : List DRun} {i : Nat} (h : At33 rs i) : ∀ d ∈ rs, 1 ≤ d.st ∧ d.st ≤ 4 := fun d hd => (h.ok d hd).st
def curV (c : Int) : VMsg := ⟨5, 0, 0, 0, c, 0, 0, 0, false, [], []⟩
def L33a (ws : List VW) (rs : List DRun) (i : Nat) : St :=
  ⟨[(23, pint .i64 i), (22, pint .i64 ws.length), (21, .d (.slc 12 (vwsD ws))), (3, .ref 33 0)], [(33, bxC 3 rs)], 56⟩
def L33b (ws : List VW) (rs : List DRun) (i j : Nat) : St :=
  ⟨[(41, pint .i64 j), (40, pint .i64 (wtsR 0 rs).length), (39, .d (.slc 1 ((wtsR 0 rs).map I64))), (23, pint .i64 i), (22, pint .i64 ws.length), (21, .d (.slc 12 (vwsD ws))), (6, .mp 120), (3, .ref 33 0)], [(33, bxC 3 rs), (120, .map (entK (opnK ((opC rs).take j))))], 144⟩
def L33c (ws : List VW) (rs : List DRun) (i j : Nat) : St :=
  ⟨[(66, pint .i64 j), (23, pint .i64 i), (22, pint .i64 ws.length), (21, .d (.slc 12 (vwsD ws))), (6, .mp 120), (3, .ref 33 0)], [(33, bxC 3 rs), (120, .map (entK (opnK (opC rs))))], 268⟩
set_option maxHeartbeats 64000000 in
theorem run33 (ws : List VW) : Runs Try.prog 33 [.d (.slc 12 (vwsD ws))] [] (pbool true) [] := by
  have r89 := run89
  have r90 := run90 ws
  have hvl := vws_len ws
  cases hf : fitsC ws with
  | false =>
    rw [hf] at r90
    refine Runs.of (kit Try.prog) Try.func33 rfl rfl (by rw [Try.ntmps33]; exact of_decide_eq_true rfl) ?_; rw [Try.ntmps33, Try.results33]
    repeat' (first|((first|refine goA rfl fun K hK=>?_|refine goB rfl fun K hK=>?_|refine goC rfl rfl fun K hK=>?_|refine goD rfl rfl fun K hK=>?_);simp (dsimp:=false) only [↓gq,↓stepP,↓stepG,go_sem,Bool.not_true,Bool.not_false])|refine Pwp.seq ?_|refine Pwp.block ?_|(refine Pwp.exit ?_;simp only [thenS,blockS,if_true,if_false,reduceIte,Nat.reduceEqDiff,Nat.add_one_ne_zero,reduceCtorEq])|(refine Pwp.skip ?_;simp only [thenS,blockS])|(refine Pwp.cond rfl True.intro (fun h=>?_) (fun h=>?_)<;>(try (cases h;done))<;>(try simp only [h]))|refine Pwp.ret ?_|(refine hK _ ?_;clear hK K)|(refine hK _ _ rfl ?_;clear hK K)|(refine CallK.toD (ds:=[]) rfl (r89) rfl ?_)|(refine CallK.toD (ds:=[.slc 12 (vwsD ws)]) rfl (r90) rfl ?_)|refine CallG.off ?_|with_reducible refine Or.inl ?_|simp only [thenS,blockS]|with_reducible refine And.intro ?_ ?_|with_reducible exact True.intro|simp (dsimp:=false) only [↓gq,↓stepP,↓stepG,go_sem,Bool.not_true,Bool.not_false])
    all_goals (try (first|(intro hg;simp [hg];done)|exact of_decide_eq_true rfl|(cases h;done)))
    (refine Fin.data (.inr rfl) (by simp (dsimp:=false) only [↓gq,↓stepP,↓stepG,go_sem,resL]; rfl) (by simp only [and_self]) (by simp (dsimp:=false) only [↓gq,↓stepP,↓stepG,go_sem,resP,Nat.le_refl,List.take_length]; try rfl) ?_)
    exact subD_refl _
  | true =>
    rw [hf] at r90
    have hf2 := hf
    simp only [fitsC, Bool.and_eq_true, Bool.not_eq_true', decide_eq_false_iff_not, List.all_eq_true] at hf2
    obtain ⟨hw, hall⟩ := hf2
    refine Runs.of (kit Try.prog) Try.func33 rfl rfl (by rw [Try.ntmps33]; exact of_decide_eq_true rfl) ?_; rw [Try.ntmps33, Try.results33]
    repeat' (first|((first|refine goA rfl fun K hK=>?_|refine goB rfl fun K hK=>?_|refine goC rfl rfl fun K hK=>?_|refine goD rfl rfl fun K hK=>?_);simp (dsimp:=false) only [↓gq,↓stepP,↓stepG,go_sem,Bool.not_true,Bool.not_false,hvl])|refine Pwp.seq ?_|refine Pwp.block ?_|(refine Pwp.exit ?_;simp only [thenS,blockS,if_true,if_false,reduceIte,Nat.reduceEqDiff,Nat.add_one_ne_zero,reduceCtorEq])|(refine Pwp.skip ?_;simp only [thenS,blockS])|(refine Pwp.cond rfl True.intro (fun h=>?_) (fun h=>?_)<;>(try (cases h;done))<;>(try simp only [h]))|refine Pwp.ret ?_|(refine hK _ ?_;clear hK K)|(refine hK _ _ rfl ?_;clear hK K)|(refine CallK.toD (ds:=[]) rfl (r89) rfl ?_)|(refine CallK.toD (ds:=[.slc 12 (vwsD ws)]) rfl (r90) rfl ?_)|refine CallG.off ?_|with_reducible refine Or.inl ?_|simp only [thenS,blockS]|with_reducible refine And.intro ?_ ?_|with_reducible exact True.intro|simp (dsimp:=false) only [↓gq,↓stepP,↓stepG,go_sem,Bool.not_true,Bool.not_false,hvl])
    all_goals (try (first|(intro hg;simp [hg];done)|exact of_decide_eq_true rfl|(cases h;done)))
    refine Pwp.rangeI ws.length (fun i s => ∃ rs, At33 rs i ∧ s = L33a ws rs i) (s0 := L33a ws [] 0) (Sub.view V0 (by simp [L33a]) rfl (by simp [L33a,bxC,runsC,hvl]) (by simp [L33a,bxC,runsC,hvl])) ⟨[], ⟨by simp [RunsOK], List.Pairwise.nil, by simp⟩, rfl⟩ ?_ ?_
    · rintro i s hi ⟨rs0, hA0, rfl⟩
      obtain ⟨v, hx, hm⟩ := at_lt hi
      have hg := vws_get hx
      have c1 := dlt hi
      have w1 := wrap_succ (i := i) (by omega)
      have hwl := hall v hm
      simp only [badC, Bool.not_eq_true', Bool.or_eq_false_iff, decide_eq_false_iff_not] at hwl
      have hll := hA0.len
      have r91 := run91 3 rs0 v.m v.from' (by omega) hA0.ok (by omega) (by omega)
      obtain ⟨k1, k2⟩ := chiefR_ok (n := 3) (by omega) hA0.ok (m := v.m) (f := v.from') (by omega)
      have k3 := chiefR_one (n := 3) hA0.one v.m v.from'
      generalize chiefR 3 rs0 v.m v.from' = R at *
      obtain ⟨e, rs, o⟩ := R
      simp only at k1 k2 k3
      have hA : At33 rs (i + 1) := ⟨k1, k3, by omega⟩
      have r95 := run95 3 rs (by omega)
      have hnd := opC_nodup hA.st k3
      have hwl2 := (wts_cur rs 0).1
      have hwr := wts_len rs 0
      have hwm : ((wtsR 0 rs).map I64).length = (wtsR 0 rs).length := by simp
      simp only [cOutD, chD, VMsg.msg, Msg.d, Msg.cells] at r91 r95
      generalize sentsD o = os at r91
      unfold L33a bxC
      repeat' (first|((first|refine goA rfl fun K hK=>?_|refine goB rfl fun K hK=>?_|refine goC rfl rfl fun K hK=>?_|refine goD rfl rfl fun K hK=>?_);simp (dsimp:=false) only [↓gq,↓stepP,↓stepG,go_sem,hg,c1,hwm])|refine Pwp.seq ?_|refine Pwp.block ?_|(refine Pwp.exit ?_;simp only [thenS,blockS,if_true,if_false,reduceIte,Nat.reduceEqDiff,Nat.add_one_ne_zero,reduceCtorEq])|(refine Pwp.skip ?_;simp only [thenS,blockS])|(refine Pwp.cond rfl True.intro (fun h=>?_) (fun h=>?_)<;>(try (cases h;done))<;>(try simp only [h]))|refine Pwp.ret ?_|(refine hK _ ?_;clear hK K)|(refine hK _ _ rfl ?_;clear hK K)|(refine CallK.give (ds:=[.agg [I64 3, .slc 5 (runsC 3 rs0)], .agg [I64 v.m.kind, I64 v.m.seller, I64 v.m.number, I64 v.m.buyer, I64 v.m.currency, I64 v.m.round, I64 v.m.cycle, I64 v.m.amount, .v (.bool v.m.yes), .slc 4 (linesD v.m.ls), .slc 1 (v.m.ns.map I64)], I64 v.from']) rfl (r91) (by simp) ?_)|(refine CallK.give (ds:=[.agg [I64 3, .slc 5 (runsC 3 rs)]]) rfl (r95) (by simp) ?_)|refine CallG.off ?_|with_reducible refine Or.inl ?_|simp only [thenS,blockS]|with_reducible refine And.intro ?_ ?_|with_reducible exact True.intro|simp (dsimp:=false) only [↓gq,↓stepP,↓stepG,go_sem,hg,c1,hwm])
      all_goals (try (first|(intro hg;simp [hg];done)|exact of_decide_eq_true rfl|(cases h;done)))
      refine Pwp.range (wtsR 0 rs).length (S := L33b ws rs i) (Sub.view V0 (by simp [L33b]) rfl (by simp [L33b,bxC,opnK,entK]) (by simp [L33b,bxC,opnK,entK])) (fun j hj => ?_) ?_
      · obtain ⟨c, hc, hcm⟩ := at_lt hj
        obtain ⟨hcr, hin, hcu⟩ := wts_run hc
        have hgj : ((wtsR 0 rs).map I64)[j]? = some (I64 c) := by rw [List.getElem?_map, hc]; rfl
        have c2 := dlt hj
        have w2 := wrap_succ (i := j) (by omega)
        have w01 : IntKind.wrap .i64 1 = 1 := wrap_of (by omega) (by omega)
        have r94 := run94 3 rs c (by omega) k1 (by omega) hcr
        obtain ⟨n1, n2⟩ := nodup_at hnd hcu
        generalize atR rs c = d at *
        have hmg : ∀ z, mapGet none (.v (.int .i64 d.cur)) (entK (opnK ((opC rs).take j))) z = some (z, false) := fun z => by rw [get_entK, opn_get, if_neg n1]; rfl
        have hms : mapSet none (.v (.int .i64 d.cur)) (.v (.int .i64 1)) (entK (opnK ((opC rs).take j))) = some (entK (opnK ((opC rs).take (j + 1)))) := by rw [set_entK, opn_set n1, n2]
        have hmg2 : ∀ z, mapGet none (.v (.int .i64 d.cur)) (entK (opnK ((opC rs).take (j + 1)))) z = some (.v (.int .i64 1), true) := fun z => by rw [get_entK, opn_get, if_pos (by rw [n2]; simp)]; rfl
        unfold runP chD at r94
        unfold L33b bxC
        repeat' (first|((first|refine goA rfl fun K hK=>?_|refine goB rfl fun K hK=>?_|refine goC rfl rfl fun K hK=>?_|refine goD rfl rfl fun K hK=>?_);simp (dsimp:=false) only [↓gq,↓stepP,↓stepG,go_sem,hgj,c2,w2,w01,hmg,hms,hmg2])|refine Pwp.seq ?_|refine Pwp.block ?_|(refine Pwp.exit ?_;simp only [thenS,blockS,if_true,if_false,reduceIte,Nat.reduceEqDiff,Nat.add_one_ne_zero,reduceCtorEq])|(refine Pwp.skip ?_;simp only [thenS,blockS])|(refine Pwp.cond rfl True.intro (fun h=>?_) (fun h=>?_)<;>(try (cases h;done))<;>(try simp only [h]))|refine Pwp.ret ?_|(refine hK _ ?_;clear hK K)|(refine hK _ _ rfl ?_;clear hK K)|(refine CallK.give (ds:=[.agg [I64 3, .slc 5 (runsC 3 rs)], I64 c]) rfl (r94) (by simp) ?_)|refine CallG.off ?_|with_reducible refine Or.inl ?_|simp only [thenS,blockS]|with_reducible refine And.intro ?_ ?_|with_reducible exact True.intro|simp (dsimp:=false) only [↓gq,↓stepP,↓stepG,go_sem,hgj,c2,w2,w01,hmg,hms,hmg2])
        all_goals (try (first|(intro hg;simp [hg];done)|exact of_decide_eq_true rfl|(cases h;done)))
        exact Sub.view V0 (by simp [L33b]) rfl (by simp [L33b,bxC]) (by simp [L33b,bxC])
      · have c2 := dge (Nat.le_refl (wtsR 0 rs).length)
        unfold L33b bxC
        rw [hwl2, List.take_length]
        rw [hwl2] at c2
        repeat' (first|((first|refine goA rfl fun K hK=>?_|refine goB rfl fun K hK=>?_|refine goC rfl rfl fun K hK=>?_|refine goD rfl rfl fun K hK=>?_);simp (dsimp:=false) only [↓gq,↓stepP,↓stepG,go_sem,c2,w1])|refine Pwp.seq ?_|refine Pwp.block ?_|(refine Pwp.exit ?_;simp only [thenS,blockS,if_true,if_false,reduceIte,Nat.reduceEqDiff,Nat.add_one_ne_zero,reduceCtorEq])|(refine Pwp.skip ?_;simp only [thenS,blockS])|(refine Pwp.cond rfl True.intro (fun h=>?_) (fun h=>?_)<;>(try (cases h;done))<;>(try simp only [h]))|refine Pwp.ret ?_|(refine hK _ ?_;clear hK K)|(refine hK _ _ rfl ?_;clear hK K)|refine CallG.off ?_|with_reducible refine Or.inl ?_|simp only [thenS,blockS]|with_reducible refine And.intro ?_ ?_|with_reducible exact True.intro|simp (dsimp:=false) only [↓gq,↓stepP,↓stepG,go_sem,c2,w1])
        all_goals (try (first|(intro hg;simp [hg];done)|exact of_decide_eq_true rfl|(cases h;done)))
        refine Pwp.range 8 (S := L33c ws rs i) (Sub.view V0 (by simp [L33c]) rfl (by simp [L33c,bxC]) (by simp [L33c,bxC])) (fun j hj => ?_) ?_
        · have c3 : decide ((j : Int) < 8) = true := decide_eq_true (by omega)
          have w3 := wrap_succ (i := j) (by omega)
          have r1 := run91 3 rs (curV (j : Int)) (-1) (by omega) k1 (by omega) (by simp [curV])
          have he := start_e (n := 3) hA.st (j : Int) (by omega) (by omega) (curV (j : Int)) rfl rfl
          generalize chiefR 3 rs (curV (j : Int)) (-1) = R at *
          obtain ⟨e2, rs2, o2⟩ := R
          simp only at he
          simp only [cOutD, curV, chD, VMsg.msg, Msg.d, Msg.cells, List.map_nil] at r1
          generalize sentsD o2 = os2 at r1
          by_cases hj2 : (j : Int) ∈ opC rs
          · have he2 : (e2 == 0) = false := by rw [he]; simpa using hj2
            have hmg : ∀ z, mapGet none (.v (.int .i64 (j : Int))) (entK (opnK (opC rs))) z = some (.v (.int .i64 1), true) := fun z => by rw [get_entK, opn_get, if_pos hj2]; rfl
            unfold L33c bxC
            repeat' (first|((first|refine goA rfl fun K hK=>?_|refine goB rfl fun K hK=>?_|refine goC rfl rfl fun K hK=>?_|refine goD rfl rfl fun K hK=>?_);simp (dsimp:=false) only [↓gq,↓stepP,↓stepG,go_sem,c3,w3,he2,hmg,bne_self_eq_false])|refine Pwp.seq ?_|refine Pwp.block ?_|(refine Pwp.exit ?_;simp only [thenS,blockS,if_true,if_false,reduceIte,Nat.reduceEqDiff,Nat.add_one_ne_zero,reduceCtorEq])|(refine Pwp.skip ?_;simp only [thenS,blockS])|(refine Pwp.cond rfl True.intro (fun h=>?_) (fun h=>?_)<;>(try (cases h;done))<;>(try simp only [h]))|refine Pwp.ret ?_|(refine hK _ ?_;clear hK K)|(refine hK _ _ rfl ?_;clear hK K)|(refine CallK.giveS (ds:=[.agg [I64 3, .slc 5 (runsC 3 rs)], .agg [I64 5, I64 0, I64 0, I64 0, I64 (j : Int), I64 0, I64 0, I64 0, .v (.bool false), nilD, nilD], I64 (-1)]) (es:=[.agg [I64 3, .slc 5 (runsC 3 rs)], .agg [I64 5, I64 0, I64 0, I64 0, I64 (j : Int), I64 0, I64 0, I64 0, .v (.bool false), .slc 4 (linesD []), .slc 1 []], I64 (-1)]) rfl (by simp [subL, subD, subV, subD_refl, linesD]) r1 (by simp) ?_)|refine CallG.off ?_|with_reducible refine Or.inl ?_|simp only [thenS,blockS]|with_reducible refine And.intro ?_ ?_|with_reducible exact True.intro|simp (dsimp:=false) only [↓gq,↓stepP,↓stepG,go_sem,c3,w3,he2,hmg,bne_self_eq_false])
            all_goals (try (first|(intro hg;simp [hg];done)|exact of_decide_eq_true rfl|(cases h;done)))
            exact Sub.view V0 (by simp [L33c]) rfl (by simp [L33c,bxC]) (by simp [L33c,bxC])
          · have he2 : (e2 == 0) = true := by rw [he]; simpa using hj2
            have hmg : ∀ z, mapGet none (.v (.int .i64 (j : Int))) (entK (opnK (opC rs))) z = some (z, false) := fun z => by rw [get_entK, opn_get, if_neg hj2]; rfl
            unfold L33c bxC
            repeat' (first|((first|refine goA rfl fun K hK=>?_|refine goB rfl fun K hK=>?_|refine goC rfl rfl fun K hK=>?_|refine goD rfl rfl fun K hK=>?_);simp (dsimp:=false) only [↓gq,↓stepP,↓stepG,go_sem,c3,w3,he2,hmg,bne_self_eq_false])|refine Pwp.seq ?_|refine Pwp.block ?_|(refine Pwp.exit ?_;simp only [thenS,blockS,if_true,if_false,reduceIte,Nat.reduceEqDiff,Nat.add_one_ne_zero,reduceCtorEq])|(refine Pwp.skip ?_;simp only [thenS,blockS])|(refine Pwp.cond rfl True.intro (fun h=>?_) (fun h=>?_)<;>(try (cases h;done))<;>(try simp only [h]))|refine Pwp.ret ?_|(refine hK _ ?_;clear hK K)|(refine hK _ _ rfl ?_;clear hK K)|(refine CallK.giveS (ds:=[.agg [I64 3, .slc 5 (runsC 3 rs)], .agg [I64 5, I64 0, I64 0, I64 0, I64 (j : Int), I64 0, I64 0, I64 0, .v (.bool false), nilD, nilD], I64 (-1)]) (es:=[.agg [I64 3, .slc 5 (runsC 3 rs)], .agg [I64 5, I64 0, I64 0, I64 0, I64 (j : Int), I64 0, I64 0, I64 0, .v (.bool false), .slc 4 (linesD []), .slc 1 []], I64 (-1)]) rfl (by simp [subL, subD, subV, subD_refl, linesD]) r1 (by simp) ?_)|refine CallG.off ?_|with_reducible refine Or.inl ?_|simp only [thenS,blockS]|with_reducible refine And.intro ?_ ?_|with_reducible exact True.intro|simp (dsimp:=false) only [↓gq,↓stepP,↓stepG,go_sem,c3,w3,he2,hmg,bne_self_eq_false])
            all_goals (try (first|(intro hg;simp [hg];done)|exact of_decide_eq_true rfl|(cases h;done)))
            exact Sub.view V0 (by simp [L33c]) rfl (by simp [L33c,bxC]) (by simp [L33c,bxC])
        · have c3 : decide (((8 : Nat) : Int) < 8) = false := rfl
          unfold L33c bxC
          repeat' (first|((first|refine goA rfl fun K hK=>?_|refine goB rfl fun K hK=>?_|refine goC rfl rfl fun K hK=>?_|refine goD rfl rfl fun K hK=>?_);simp (dsimp:=false) only [↓gq,↓stepP,↓stepG,go_sem,c3,w1])|refine Pwp.seq ?_|refine Pwp.block ?_|(refine Pwp.exit ?_;simp only [thenS,blockS,if_true,if_false,reduceIte,Nat.reduceEqDiff,Nat.add_one_ne_zero,reduceCtorEq])|(refine Pwp.skip ?_;simp only [thenS,blockS])|(refine Pwp.cond rfl True.intro (fun h=>?_) (fun h=>?_)<;>(try (cases h;done))<;>(try simp only [h]))|refine Pwp.ret ?_|(refine hK _ ?_;clear hK K)|(refine hK _ _ rfl ?_;clear hK K)|refine CallG.off ?_|with_reducible refine Or.inl ?_|simp only [thenS,blockS]|with_reducible refine And.intro ?_ ?_|with_reducible exact True.intro|simp (dsimp:=false) only [↓gq,↓stepP,↓stepG,go_sem,c3,w1])
          all_goals (try (first|(intro hg;simp [hg];done)|exact of_decide_eq_true rfl|(cases h;done)))
          exact ⟨_, Sub.view V0 (by simp [L33a]) rfl (by simp [L33a,bxC]) (by simp [L33a,bxC]), rs, hA, rfl⟩
    · rintro s ⟨rs, hA, rfl⟩
      have c1 := dge (Nat.le_refl ws.length)
      unfold L33a bxC
      repeat' (first|((first|refine goA rfl fun K hK=>?_|refine goB rfl fun K hK=>?_|refine goC rfl rfl fun K hK=>?_|refine goD rfl rfl fun K hK=>?_);simp (dsimp:=false) only [↓gq,↓stepP,↓stepG,go_sem,c1])|refine Pwp.seq ?_|refine Pwp.block ?_|(refine Pwp.exit ?_;simp only [thenS,blockS,if_true,if_false,reduceIte,Nat.reduceEqDiff,Nat.add_one_ne_zero,reduceCtorEq])|(refine Pwp.skip ?_;simp only [thenS,blockS])|(refine Pwp.cond rfl True.intro (fun h=>?_) (fun h=>?_)<;>(try (cases h;done))<;>(try simp only [h]))|refine Pwp.ret ?_|(refine hK _ ?_;clear hK K)|(refine hK _ _ rfl ?_;clear hK K)|refine CallG.off ?_|with_reducible refine Or.inl ?_|simp only [thenS,blockS]|with_reducible refine And.intro ?_ ?_|with_reducible exact True.intro|simp (dsimp:=false) only [↓gq,↓stepP,↓stepG,go_sem,c1])
      all_goals (try (first|(intro hg;simp [hg];done)|exact of_decide_eq_true rfl|(cases h;done)))
      (refine Fin.data (.inr rfl) (by simp (dsimp:=false) only [↓gq,↓stepP,↓stepG,go_sem,resL]; rfl) (by simp only [and_self]) (by simp (dsimp:=false) only [↓gq,↓stepP,↓stepG,go_sem,resP,Nat.le_refl,List.take_length]; try rfl) ?_)
      exact subD_refl _
end Go.Proofs.Ytdodgbhodkcckaa.Pv
end
section
set_option autoImplicit false
namespace Go.Proofs.Ytdodgbhodkcckaa.Pv
open Go Go.RowKit
theorem run33k (xs : List D) (h : okArgs [(false, [.slc true wordVL])] xs) : Runs Try.prog 33 (xs.map .d) [] (.d (.v (.bool true))) [] := by
  simp only [okArgs, okL] at h
  obtain ⟨_, _, rfl, ⟨_, _, rfl, h0, rfl⟩, rfl⟩ := h
  obtain ⟨ws, rfl, _⟩ := wordsV_of h0
  exact run33 ws
end Go.Proofs.Ytdodgbhodkcckaa.Pv
end
section
set_option linter.unusedVariables false
set_option linter.unusedSimpArgs false
set_option autoImplicit false
set_option maxRecDepth 100000
namespace Go.Proofs.Ytdodgbhodkcckaa.Pv
open Go Go.RowKit
theorem nets_in {n : Int} {l : List Line} (h : netsE n l = 0) : ∃ N : Nat, n = (N : Int) ∧ N ≤ 8 ∧ fitV n none l = 0 := by
  unfold netsE at h
  by_cases hr : (decide (n < 0) || decide (8 < n)) = true
  · rw [if_pos hr] at h; cases h
  · rw [if_neg hr] at h
    rw [Bool.or_eq_true, decide_eq_true_eq, decide_eq_true_eq] at hr
    exact ⟨n.toNat, by omega, by omega, h⟩
end Go.Proofs.Ytdodgbhodkcckaa.Pv
end
section
set_option linter.unusedVariables false
set_option linter.unusedSimpArgs false
set_option autoImplicit false
set_option maxRecDepth 100000
namespace Go.Proofs.Ytdodgbhodkcckaa.Pv
open Go Go.RowKit
def arrV (v : List Bool) : D := .agg [.v (.bool (v.getD 0 false)), .v (.bool (v.getD 1 false)), .v (.bool (v.getD 2 false))]
structure RunV (d : DRun) : Prop where
  v3 : d.st = 3 → okB d.vot 3 = true
  nin : ∀ a ∈ d.ns, In64 a
  nul : d.st = 2 ∨ d.st = 3 → sumOf d.ns = 0
structure OneI (rs : List DRun) (K1 K2 : List (Int × D)) : Prop where
  dec : ∀ n d, (n, d) ∈ K1 → ∃ was : Bool, d = .v (.bool was) ∧ 1 ≤ n ∧ n ≤ (rs.length : Int) ∧ (atR rs n).st = (if was = true then 3 else 4)
  yes : ∀ n : Int, 1 ≤ n → n ≤ (rs.length : Int) → (atR rs n).st ≤ 3 → (getK n K2).getD (arrV []) = arrV (atR rs n).vot
  new : ∀ n : Int, (rs.length : Int) < n → getK n K2 = none
  one : ∀ d ∈ rs, RunV d
  frm : ∀ n d, getK n K2 = some d → ∃ v, d = arrV v
theorem frm_set {K : List (Int × D)} (h : ∀ n d, getK n K = some d → ∃ v, d = arrV v) (c : Int) (v : List Bool) : ∀ n d, getK n (setK c (arrV v) K) = some d → ∃ v, d = arrV v := by
  intro n d hd
  rw [getK_set] at hd
  split at hd
  · exact ⟨v, (Option.some.inj hd).symm⟩
  · exact h n d hd
theorem atR_put {rs : List DRun} {c : Int} (h1 : 1 ≤ c) (h2 : c ≤ (rs.length : Int)) (d : DRun) : atR (cPut rs c d) c = d := by
  unfold atR cPut
  rw [List.getElem?_set_self (by omega)]; rfl
theorem atR_put_ne {rs : List DRun} {c n : Int} (h1 : 1 ≤ c) (h2 : 1 ≤ n) (h : n ≠ c) (d : DRun) : atR (cPut rs c d) n = atR rs n := by
  unfold atR cPut
  rw [List.getElem?_set_ne (by omega)]
theorem atR_old {rs ks : List DRun} {n : Int} (h1 : 1 ≤ n) (h2 : n ≤ (rs.length : Int)) : atR (rs ++ ks) n = atR rs n := by
  unfold atR
  rw [List.getElem?_append_left (by omega)]
theorem atR_new {rs : List DRun} {n : Int} (h1 : n = (rs.length : Int) + 1) (d : DRun) : atR (rs ++ [d]) n = d := by
  unfold atR
  rw [List.getElem?_append_right (by omega), show (n - 1).toNat - rs.length = 0 by omega]; rfl
theorem atR_of {rs : List DRun} {c : Int} {d : DRun} (h : rs[(c - 1).toNat]? = some d) : atR rs c = d := by unfold atR; rw [h]; rfl
theorem OneI.put {rs : List DRun} {K1 K2 K2' : List (Int × D)} (h : OneI rs K1 K2) {c : Int} (h1 : 1 ≤ c) (h2 : c ≤ (rs.length : Int)) {d : DRun} (hd : rs[(c - 1).toNat]? = some d) (hs : d.st < 3) {d' : DRun} (hv : RunV d')
    (hy : d'.st ≤ 3 → (getK c K2').getD (arrV []) = arrV d'.vot) (hk : ∀ n, n ≠ c → getK n K2' = getK n K2) (hfm : ∀ n d, getK n K2' = some d → ∃ v, d = arrV v) : OneI (cPut rs c d') K1 K2' := by
  refine ⟨fun n x hx => ?_, fun n n1 n2 n3 => ?_, fun n hn => ?_, fun x hx => ?_, hfm⟩
  · obtain ⟨was, e1, e2, e3, e4⟩ := h.dec n x hx
    have hne : n ≠ c := by
      rintro rfl
      rw [atR_of hd] at e4
      cases was <;> simp at e4 <;> omega
    exact ⟨was, e1, e2, by rw [cPut_len]; exact e3, by rw [atR_put_ne h1 e2 hne]; exact e4⟩
  · rw [cPut_len] at n2
    by_cases hne : n = c
    · subst hne
      rw [atR_put h1 h2] at n3 ⊢
      exact hy n3
    · rw [atR_put_ne h1 n1 hne] at n3 ⊢
      rw [hk n hne]
      exact h.yes n n1 n2 n3
  · rw [cPut_len] at hn
    rw [hk n (by omega)]
    exact h.new n hn
  · rcases List.mem_or_eq_of_mem_set hx with hx | rfl
    · exact h.one x hx
    · exact hv
def K2n (rs : List DRun) (K2 : List (Int × D)) (m : VMsg) (f : Int) (e : Int) : List (Int × D) := if (e == 0 && (m.kind == 13 && m.yes)) = true then setK m.cycle (arrV (votB (atR rs m.cycle) f.toNat).vot) K2 else K2
def SaysI (rs : List DRun) (p : Int × VMsg) : Prop := p.2.kind = 14 → 1 ≤ p.2.cycle ∧ p.2.cycle ≤ (rs.length : Int) ∧ (atR rs p.2.cycle).st = (if p.2.yes = true then 3 else 4)
theorem badB_nets {d : DRun} (h : badB 3 d = false) (hl : (bothN 3 d).length ≤ 1000) : sumOf (outs 3 (bothN 3 d)) = 0 ∧ ∀ a ∈ outs 3 (bothN 3 d), In64 a := by
  unfold badB at h
  rw [Bool.or_eq_false_iff, bne_eq_false_iff_eq, decide_eq_false_iff_not] at h
  obtain ⟨N, hN, _, hf⟩ := nets_in h.1
  have hok := fit_ok hf
  have hok3 : ∀ x ∈ bothN 3 d, LineOK 3 x := hok
  refine ⟨sum_outs (n := 3) hok3, fun a ha => ?_⟩
  simp only [outs, List.mem_map] at ha
  obtain ⟨j, _, rfl⟩ := ha
  have := netL_in (j := (j : Int)) hok3 hl
  unfold In64; omega
theorem one_step {rs : List DRun} {K1 K2 : List (Int × D)} (h : OneI rs K1 K2) (hR : RunsOK 3 rs) (m : VMsg) (f : Int) (hml : m.ls.length ≤ 100) :
    OneI (chiefR 3 rs m f).rs K1 (K2n rs K2 m f (chiefR 3 rs m f).e) ∧ ∀ p ∈ (chiefR 3 rs m f).o, SaysI (chiefR 3 rs m f).rs p := by
  have hold : ∀ {d : DRun}, 1 ≤ m.cycle → m.cycle ≤ (rs.length : Int) → rs[(m.cycle - 1).toNat]? = some d → d.st ≤ 3 → (getK m.cycle K2).getD (arrV []) = arrV d.vot := by
    intro d h1 h2 hd hs
    have := h.yes m.cycle h1 h2 (by rw [atR_of hd]; exact hs)
    rwa [atR_of hd] at this
  have hrun : ∀ {d : DRun}, rs[(m.cycle - 1).toNat]? = some d → RunV d := fun hd => h.one _ (List.mem_of_getElem? hd)
  have hend : ∀ {d : DRun} (d' : DRun) (yes : Bool), 1 ≤ m.cycle → m.cycle ≤ (rs.length : Int) → rs[(m.cycle - 1).toNat]? = some d → ∀ p ∈ allV 3 (decV m.cycle yes), SaysI (cPut rs m.cycle { d' with st := if yes = true then 3 else 4 }) p := by
    intro d d' yes h1 h2 hd p hp hk
    rw [allV_is hp, cPut_len]
    refine ⟨h1, h2, ?_⟩
    show (atR (cPut rs m.cycle _) m.cycle).st = _
    rw [atR_put h1 h2]
    rfl
  refine chiefR_cases (fun R => OneI R.rs K1 (K2n rs K2 m f R.e) ∧ ∀ p ∈ R.o, SaysI R.rs p) ?_ ?_ ?_ ?_ ?_ ?_ ?_ ?_ ?_ ?_
  · intro e he
    have : K2n rs K2 m f e = K2 := by unfold K2n; rw [show (e == 0) = false by simpa using he]; rfl
    simp only [this]
    exact ⟨h, by simp⟩
  · intro hk h1 h2 ha
    have : K2n rs K2 m f 0 = K2 := by unfold K2n; rw [hk]; rfl
    simp only [this]
    refine ⟨⟨fun n x hx => ?_, fun n n1 n2 n3 => ?_, fun n hn => ?_, fun x hx => ?_, h.frm⟩, fun p hp hk => ?_⟩
    · obtain ⟨was, e1, e2, e3, e4⟩ := h.dec n x hx
      exact ⟨was, e1, e2, by simp; omega, by rw [atR_old e2 e3]; exact e4⟩
    · by_cases hn : n ≤ (rs.length : Int)
      · rw [atR_old n1 hn] at n3 ⊢
        exact h.yes n n1 hn n3
      · have hn2 : n = (rs.length : Int) + 1 := by simp at n2; omega
        rw [atR_new hn2, h.new n (by omega)]; rfl
    · simp at hn
      exact h.new n (by omega)
    · rcases List.mem_append.1 hx with hx | hx
      · exact h.one x hx
      · obtain rfl : x = zeroR m.currency := by simpa using hx
        exact ⟨fun e => by simp [zeroR] at e, by simp [zeroR], fun e => by simp [zeroR] at e⟩
    · rw [allV_is hp] at hk; simp [askV] at hk
  · intro d h1 h2 hd hk hs _ _ _ _
    have : K2n rs K2 m f 0 = K2 := by unfold K2n; rw [hk]; rfl
    simp only [this]
    refine ⟨h.put h1 h2 hd (by omega) ⟨fun e => ?_, (hrun hd).nin, fun e => ?_⟩ (fun _ => hold (d := d) h1 h2 hd (by omega)) (fun _ _ => rfl) h.frm, by simp⟩
    · simp only [offB] at e; omega
    · simp only [offB] at e; omega
  · intro d h1 h2 hd hk hs _ _ _ _ _
    have : K2n rs K2 m f 0 = K2 := by unfold K2n; rw [hk]; rfl
    simp only [cEnd, this]
    refine ⟨h.put h1 h2 hd (by omega) ⟨fun e => by simp at e, (hrun hd).nin, fun e => by simp at e⟩ (fun e => by simp at e) (fun _ _ => rfl) h.frm, hend _ false h1 h2 hd⟩
  · intro d h1 h2 hd hk hs _ _ hf _ hb
    have hbl := ((hR d (List.mem_of_getElem? hd)).offB (f := f.toNat) hf hml).both
    have : K2n rs K2 m f 0 = K2 := by unfold K2n; rw [hk]; rfl
    simp only [this]
    obtain ⟨b1, b2⟩ := badB_nets hb (by omega)
    refine ⟨h.put h1 h2 hd (by omega) ⟨fun e => by simp [prepB] at e, b2, fun _ => b1⟩ (fun _ => hold (d := d) h1 h2 hd (by omega)) (fun _ _ => rfl) h.frm, fun p hp hk => ?_⟩
    rw [allV_is hp] at hk; simp [prepV] at hk
  · intro d h1 h2 hd hk hs _ _ hy
    have : K2n rs K2 m f 0 = K2 := by unfold K2n; rw [hk, hy]; rfl
    simp only [cEnd, this]
    refine ⟨h.put h1 h2 hd (by omega) ⟨fun e => by simp at e, (hrun hd).nin, fun e => by simp at e⟩ (fun e => by simp at e) (fun _ _ => rfl) h.frm, hend _ false h1 h2 hd⟩
  · intro d h1 h2 hd hk hs _ _ hy _
    have : K2n rs K2 m f 0 = setK m.cycle (arrV (votB d f.toNat).vot) K2 := by unfold K2n; rw [hk, hy, atR_of hd]; rfl
    simp only [this]
    refine ⟨h.put h1 h2 hd (by omega) ⟨fun e => ?_, (hrun hd).nin, fun e => (hrun hd).nul e⟩ (fun _ => ?_) (fun n hn => ?_) (frm_set h.frm _ _), by simp⟩
    · simp only [votB] at e; omega
    · rw [getK_set, if_pos rfl]; rfl
    · rw [getK_set, if_neg hn]
  · intro d h1 h2 hd hk hs _ _ hy hok
    have : K2n rs K2 m f 0 = setK m.cycle (arrV (votB d f.toNat).vot) K2 := by unfold K2n; rw [hk, hy, atR_of hd]; rfl
    simp only [cEnd, this]
    refine ⟨h.put h1 h2 hd (by omega) ⟨fun _ => hok, (hrun hd).nin, fun _ => (hrun hd).nul (.inl hs)⟩ (fun _ => ?_) (fun n hn => ?_) (frm_set h.frm _ _), hend _ true h1 h2 hd⟩
    · rw [getK_set, if_pos rfl]; rfl
    · rw [getK_set, if_neg hn]
  · intro d h1 h2 hd hk hs
    have : K2n rs K2 m f 0 = K2 := by unfold K2n; rw [hk]; rfl
    simp only [cEnd, this]
    refine ⟨h.put h1 h2 hd hs ⟨fun e => by simp at e, (hrun hd).nin, fun e => by simp at e⟩ (fun e => by simp at e) (fun _ _ => rfl) h.frm, hend _ false h1 h2 hd⟩
  · intro d h1 h2 hd hk hs
    have : K2n rs K2 m f 0 = K2 := by unfold K2n; rw [hk]; rfl
    simp only [this]
    refine ⟨h, fun p hp _ => ?_⟩
    obtain rfl : p = (f, decV m.cycle (d.st == 3)) := by simpa using hp
    refine ⟨h1, h2, ?_⟩
    show (atR rs m.cycle).st = if (d.st == 3) = true then 3 else 4
    rw [atR_of hd]
    have := (hR d (List.mem_of_getElem? hd)).st
    by_cases h3 : d.st = 3
    · rw [if_pos (by simpa using h3)]; exact h3
    · rw [if_neg (by simpa using h3)]; omega
theorem one_vote {rs : List DRun} {m : VMsg} {f : Int} (h0 : (chiefR 3 rs m f).e = 0) (hk : m.kind = 13) (hy : m.yes = true) :
    1 ≤ m.cycle ∧ m.cycle ≤ (rs.length : Int) ∧ (atR rs m.cycle).st = 2 ∧ 0 ≤ f ∧ f < 3 := by
  revert h0
  refine chiefR_cases (fun R => R.e = 0 → 1 ≤ m.cycle ∧ m.cycle ≤ (rs.length : Int) ∧ (atR rs m.cycle).st = 2 ∧ 0 ≤ f ∧ f < 3) ?_ ?_ ?_ ?_ ?_ ?_ ?_ ?_ ?_ ?_
  · intro e he h; exact absurd h he
  · intro h; rw [hk] at h; cases h
  · intro _ _ _ _ h; rw [hk] at h; cases h
  · intro _ _ _ _ h; rw [hk] at h; cases h
  · intro _ _ _ _ h; rw [hk] at h; cases h
  · intro _ _ _ _ _ _ _ _ h; rw [hy] at h; cases h
  · intro d h1 h2 hd _ hs f1 f2 _ _ _; exact ⟨h1, h2, by rw [atR_of hd]; exact hs, f1, f2⟩
  · intro d h1 h2 hd _ hs f1 f2 _ _ _; exact ⟨h1, h2, by rw [atR_of hd]; exact hs, f1, f2⟩
  · intro _ _ _ _ h; rw [hk] at h; cases h
  · intro _ _ _ _ h; rw [hk] at h; cases h
theorem one_all {rs : List DRun} {K1 K2 : List (Int × D)} (h : OneI rs K1 K2) {n : Int} (h1 : 1 ≤ n) (h2 : n ≤ (rs.length : Int)) (hs : (atR rs n).st = 3) : (getK n K2).getD (arrV []) = arrV [true, true, true] := by
  rw [h.yes n h1 h2 (by omega)]
  have hm : atR rs n ∈ rs := by
    obtain ⟨_, _, h3⟩ := atR_some (rs := rs) (c := n) (by rw [Bool.or_eq_false_iff, decide_eq_false_iff_not, decide_eq_false_iff_not]; omega)
    exact List.mem_of_getElem? h3
  have := (h.one _ hm).v3 hs
  simp only [okB, List.range, List.range.loop, List.all_cons, List.all_nil, Bool.and_true, Bool.and_eq_true] at this
  obtain ⟨a, b, c⟩ := this
  unfold arrV
  rw [a, b, c]; rfl
theorem one_said {rs : List DRun} {K1 K2 : List (Int × D)} (h : OneI rs K1 K2) {n : Int} {y : Bool} (h1 : 1 ≤ n) (h2 : n ≤ (rs.length : Int)) (hs : (atR rs n).st = if y = true then 3 else 4) :
    (∀ d, getK n K1 = some d → d = .v (.bool y)) ∧ OneI rs (setK n (.v (.bool y)) K1) K2 := by
  have key : ∀ d, getK n K1 = some d → d = .v (.bool y) := by
    intro d hd
    obtain ⟨was, e1, _, _, e4⟩ := h.dec n d (getK_mem hd)
    rw [e1, hs] at *
    cases was <;> cases y <;> simp at e4 ⊢
  refine ⟨key, ⟨fun k d hk => ?_, h.yes, h.new, h.one, h.frm⟩⟩
  rcases setK_mem hk with ⟨rfl, rfl⟩ | hk
  · exact ⟨y, rfl, h1, h2, hs⟩
  · exact h.dec k d hk
end Go.Proofs.Ytdodgbhodkcckaa.Pv
end
section
set_option linter.unusedVariables false
set_option linter.unusedSimpArgs false
set_option autoImplicit false
set_option maxRecDepth 100000
namespace Go.Proofs.Ytdodgbhodkcckaa.Pv
open Go Go.RowKit
structure At30 (rs : List DRun) (K1 K2 : List (Int × D)) (i : Nat) : Prop where
  ok : RunsOK 3 rs
  one : OneI rs K1 K2
  len : rs.length ≤ i
def L30a (ws : List VW) (rs : List DRun) (K1 K2 : List (Int × D)) (i : Nat) : St :=
  ⟨[(35, pint .i64 i), (34, pint .i64 ws.length), (33, .d (.slc 12 (vwsD ws))), (5, .mp 52), (4, .mp 44), (3, .ref 33 0)], [(33, bxC 3 rs), (44, .map (entK K1)), (52, .map (entK K2))], 72⟩
def L30b (ws : List VW) (rs : List DRun) (K1 K2 : List (Int × D)) (os : List D) (i j : Nat) : St :=
  ⟨[(94, pint .i64 j), (93, pint .i64 os.length), (92, .d (.slc 12 os)), (35, pint .i64 i), (34, pint .i64 ws.length), (33, .d (.slc 12 (vwsD ws))), (5, .mp 52), (4, .mp 44), (3, .ref 33 0)], [(33, bxC 3 rs), (44, .map (entK K1)), (52, .map (entK K2))], 296⟩
def L30c (ws : List VW) (rs : List DRun) (K1 K2 : List (Int × D)) (born : List Nat) (clk : Nat) (seen : List Nat) (i : Nat) : St :=
  ⟨[(136, .ref 301 0), (35, pint .i64 i), (34, pint .i64 ws.length), (33, .d (.slc 12 (vwsD ws))), (5, .mp 52), (4, .mp 44), (3, .ref 33 0)], [(33, bxC 3 rs), (44, .mapg (entK K1) born clk), (52, .map (entK K2)), (301, .iter 44 clk seen)], 492⟩
theorem entK_mem {l : List (Int × D)} {j : Nat} {e : D × D} (h : (entK l)[j]? = some e) : ∃ n d, e = (.v (.int .i64 n), d) ∧ (n, d) ∈ l := by
  unfold entK at h
  rw [List.getElem?_map] at h
  cases hp : l[j]? with
  | none => rw [hp] at h; cases h
  | some p =>
    rw [hp] at h
    obtain rfl := Option.some.inj h
    exact ⟨p.1, p.2, rfl, List.mem_of_getElem? hp⟩
theorem entK_form {l : List (Int × D)} {j : Nat} {e : D × D} (h : (entK l)[j]? = some e) : ∃ n d, e = (.v (.int .i64 n), d) := by
  obtain ⟨n, d, h1, _⟩ := entK_mem h
  exact ⟨n, d, h1⟩
theorem one_get {l : List (Int × D)} {n : Int} {y : Bool} (h : ∀ d, getK n l = some d → d = .v (.bool y)) : ∃ w b : Bool, mapGet none (.v (.int .i64 n)) (entK l) (.v (.bool false)) = some (.v (.bool w), b) ∧ (b && (w != y)) = false := by
  rw [get_entK]
  cases hd : getK n l with
  | none => exact ⟨false, false, rfl, rfl⟩
  | some d =>
    obtain rfl := h d hd
    exact ⟨y, true, rfl, by simp⟩
theorem one_lkp {rs : List DRun} {K1 K2 : List (Int × D)} (h : OneI rs K1 K2) {n : Int} (h1 : 1 ≤ n) (h2 : n ≤ (rs.length : Int)) (hs : (atR rs n).st ≤ 3) :
    ∃ b : Bool, mapGet none (.v (.int .i64 n)) (entK K2) (.agg [.v (.bool false), .v (.bool false), .v (.bool false)]) = some (.agg [.v (.bool ((atR rs n).vot.getD 0 false)), .v (.bool ((atR rs n).vot.getD 1 false)), .v (.bool ((atR rs n).vot.getD 2 false))], b) := by
  have hy := h.yes n h1 h2 hs
  rw [get_entK]
  cases hd : getK n K2 with
  | none => rw [hd] at hy; exact ⟨false, congrArg some (Prod.ext hy rfl)⟩
  | some d => rw [hd] at hy; exact ⟨true, congrArg some (Prod.ext hy rfl)⟩
theorem one_yes {rs : List DRun} {K1 K2 : List (Int × D)} (h : OneI rs K1 K2) {n : Int} (h1 : 1 ≤ n) (h2 : n ≤ (rs.length : Int)) (hs : (atR rs n).st = if (true : Bool) = true then 3 else 4) :
    ∃ b : Bool, mapGet none (.v (.int .i64 n)) (entK K2) (.agg [.v (.bool false), .v (.bool false), .v (.bool false)]) = some (.agg [.v (.bool true), .v (.bool true), .v (.bool true)], b) := by
  have hy := one_all h h1 h2 (by simpa using hs)
  rw [get_entK]
  cases hd : getK n K2 with
  | none => rw [hd] at hy; exact ⟨false, congrArg some (Prod.ext hy rfl)⟩
  | some d => rw [hd] at hy; exact ⟨true, congrArg some (Prod.ext hy rfl)⟩
theorem one_any {rs : List DRun} {K1 K2 : List (Int × D)} (h : OneI rs K1 K2) (n : Int) :
    ∃ b x y z : Bool, mapGet none (.v (.int .i64 n)) (entK K2) (.agg [.v (.bool false), .v (.bool false), .v (.bool false)]) = some (.agg [.v (.bool x), .v (.bool y), .v (.bool z)], b) := by
  rw [get_entK]
  cases hd : getK n K2 with
  | none => exact ⟨false, false, false, false, rfl⟩
  | some d =>
    obtain ⟨v, rfl⟩ := h.frm n d hd
    exact ⟨true, v.getD 0 false, v.getD 1 false, v.getD 2 false, rfl⟩
theorem arr_set0 {d : DRun} (h : d.vot.length = 8) : arrV (votB d (Int.toNat 0)).vot = .agg [.v (.bool true), .v (.bool (d.vot.getD 1 false)), .v (.bool (d.vot.getD 2 false))] := by
  unfold arrV votB
  simp only [show Int.toNat 0 = 0 from rfl]
  rw [getD_set_self (by rw [h]; decide), getD_set_ne (by decide), getD_set_ne (by decide)]
theorem arr_set1 {d : DRun} (h : d.vot.length = 8) : arrV (votB d (Int.toNat 1)).vot = .agg [.v (.bool (d.vot.getD 0 false)), .v (.bool true), .v (.bool (d.vot.getD 2 false))] := by
  unfold arrV votB
  simp only [show Int.toNat 1 = 1 from rfl]
  rw [getD_set_self (by rw [h]; decide), getD_set_ne (by decide), getD_set_ne (by decide)]
theorem arr_set2 {d : DRun} (h : d.vot.length = 8) : arrV (votB d (Int.toNat 2)).vot = .agg [.v (.bool (d.vot.getD 0 false)), .v (.bool (d.vot.getD 1 false)), .v (.bool true)] := by
  unfold arrV votB
  simp only [show Int.toNat 2 = 2 from rfl]
  rw [getD_set_self (by rw [h]; decide), getD_set_ne (by decide), getD_set_ne (by decide)]
set_option maxHeartbeats 64000000 in
theorem run30 (ws : List VW) : Runs Try.prog 30 [.d (.slc 12 (vwsD ws))] [] (pbool true) [] := by
  have r89 := run89
  have r90 := run90 ws
  have hvl := vws_len ws
  cases hf : fitsC ws with
  | false =>
    rw [hf] at r90
    refine Runs.of (kit Try.prog) Try.func30 rfl rfl (by rw [Try.ntmps30]; exact of_decide_eq_true rfl) ?_; rw [Try.ntmps30, Try.results30]
    repeat' (first|((first|refine goA rfl fun K hK=>?_|refine goB rfl fun K hK=>?_|refine goC rfl rfl fun K hK=>?_|refine goD rfl rfl fun K hK=>?_);simp (dsimp:=false) only [↓gq,↓stepP,↓stepG,go_sem,Bool.not_true,Bool.not_false])|refine Pwp.seq ?_|refine Pwp.block ?_|(refine Pwp.exit ?_;simp only [thenS,blockS,if_true,if_false,reduceIte,Nat.reduceEqDiff,Nat.add_one_ne_zero,reduceCtorEq])|(refine Pwp.skip ?_;simp only [thenS,blockS])|(refine Pwp.cond rfl True.intro (fun h=>?_) (fun h=>?_)<;>(try (cases h;done))<;>(try simp only [h]))|refine Pwp.ret ?_|(refine hK _ ?_;clear hK K)|(refine hK _ _ rfl ?_;clear hK K)|(refine CallK.toD (ds:=[]) rfl (r89) rfl ?_)|(refine CallK.toD (ds:=[.slc 12 (vwsD ws)]) rfl (r90) rfl ?_)|refine CallG.off ?_|with_reducible refine Or.inl ?_|simp only [thenS,blockS]|with_reducible refine And.intro ?_ ?_|with_reducible exact True.intro|simp (dsimp:=false) only [↓gq,↓stepP,↓stepG,go_sem,Bool.not_true,Bool.not_false])
    all_goals (try (first|(intro hg;simp [hg];done)|exact of_decide_eq_true rfl|(cases h;done)))
    (refine Fin.data (.inr rfl) (by simp (dsimp:=false) only [↓gq,↓stepP,↓stepG,go_sem,resL]; rfl) (by simp only [and_self]) (by simp (dsimp:=false) only [↓gq,↓stepP,↓stepG,go_sem,resP,Nat.le_refl,List.take_length]; try rfl) ?_)
    exact subD_refl _
  | true =>
    rw [hf] at r90
    have hf2 := hf
    simp only [fitsC, Bool.and_eq_true, Bool.not_eq_true', decide_eq_false_iff_not, List.all_eq_true] at hf2
    obtain ⟨hw, hall⟩ := hf2
    refine Runs.of (kit Try.prog) Try.func30 rfl rfl (by rw [Try.ntmps30]; exact of_decide_eq_true rfl) ?_; rw [Try.ntmps30, Try.results30]
    repeat' (first|((first|refine goA rfl fun K hK=>?_|refine goB rfl fun K hK=>?_|refine goC rfl rfl fun K hK=>?_|refine goD rfl rfl fun K hK=>?_);simp (dsimp:=false) only [↓gq,↓stepP,↓stepG,go_sem,Bool.not_true,Bool.not_false,hvl])|refine Pwp.seq ?_|refine Pwp.block ?_|(refine Pwp.exit ?_;simp only [thenS,blockS,if_true,if_false,reduceIte,Nat.reduceEqDiff,Nat.add_one_ne_zero,reduceCtorEq])|(refine Pwp.skip ?_;simp only [thenS,blockS])|(refine Pwp.cond rfl True.intro (fun h=>?_) (fun h=>?_)<;>(try (cases h;done))<;>(try simp only [h]))|refine Pwp.ret ?_|(refine hK _ ?_;clear hK K)|(refine hK _ _ rfl ?_;clear hK K)|(refine CallK.toD (ds:=[]) rfl (r89) rfl ?_)|(refine CallK.toD (ds:=[.slc 12 (vwsD ws)]) rfl (r90) rfl ?_)|refine CallG.off ?_|with_reducible refine Or.inl ?_|simp only [thenS,blockS]|with_reducible refine And.intro ?_ ?_|with_reducible exact True.intro|simp (dsimp:=false) only [↓gq,↓stepP,↓stepG,go_sem,Bool.not_true,Bool.not_false,hvl])
    all_goals (try (first|(intro hg;simp [hg];done)|exact of_decide_eq_true rfl|(cases h;done)))
    refine Pwp.rangeI ws.length (fun i s => ∃ rs K1 K2, At30 rs K1 K2 i ∧ s = L30a ws rs K1 K2 i) (s0 := L30a ws [] [] [] 0) (Sub.view V0 (by simp [L30a]) rfl (by simp [L30a,bxC,runsC,entK,hvl]) (by simp [L30a,bxC,runsC,entK,hvl])) ⟨[], [], [], ⟨by simp [RunsOK], ⟨by simp, fun n h1 h2 => by simp at h2; omega, fun _ _ => rfl, by simp, fun _ _ h => by cases h⟩, by simp⟩, rfl⟩ ?_ ?_
    · rintro i s hi ⟨rs0, K1, K0, hA0, rfl⟩
      obtain ⟨⟨fr, m⟩, hx, hm⟩ := at_lt hi
      have hg := vws_get hx
      have c1 := dlt hi
      have w1 := wrap_succ (i := i) (by omega)
      have hwl := hall _ hm
      simp only [badC, Bool.not_eq_true', Bool.or_eq_false_iff, decide_eq_false_iff_not] at hwl
      have hll := hA0.len
      have r91 := run91 3 rs0 m fr (by omega) hA0.ok (by omega) (by omega)
      obtain ⟨k1, k2⟩ := chiefR_ok (n := 3) (by omega) hA0.ok (m := m) (f := fr) (by omega)
      obtain ⟨o1, o2⟩ := one_step hA0.one hA0.ok m fr (by omega)
      obtain ⟨q1, q2⟩ := chiefR_o (n := 3) (by omega) hA0.ok m fr (by omega)
      have hvt := one_vote (rs := rs0) (m := m) (f := fr)
      have hsl := sents_len (chiefR 3 rs0 m fr).o
      generalize chiefR 3 rs0 m fr = R at *
      obtain ⟨e, rs, o⟩ := R
      simp only at k1 k2 o1 o2 q1 q2 hvt hsl
      simp only [cOutD, chD, VMsg.msg, Msg.d, Msg.cells] at r91
      simp only at hg
      cases hv : ((e == 0) && (m.kind == 13)) && m.yes with
      | false =>
        have hK : K2n rs0 K0 m fr e = K0 := by unfold K2n; rw [← Bool.and_assoc, hv]; rfl
        rw [hK] at o1
        generalize K0 = K2 at *
        cases hcc : (decide (m.cycle < 1) || decide ((rs0.length : Int) < m.cycle)) with
        | true =>
          have r94 := run94n 3 rs0 m.cycle hcc
          unfold chD at r94
          unfold L30a bxC
          repeat' (first|((first|refine goA rfl fun K hK=>?_|refine goB rfl fun K hK=>?_|refine goC rfl rfl fun K hK=>?_|refine goD rfl rfl fun K hK=>?_);simp (dsimp:=false) only [↓gq,↓stepP,↓stepG,go_sem,hg,c1,hv])|refine Pwp.seq ?_|refine Pwp.block ?_|(refine Pwp.exit ?_;simp only [thenS,blockS,if_true,if_false,reduceIte,Nat.reduceEqDiff,Nat.add_one_ne_zero,reduceCtorEq])|(refine Pwp.skip ?_;simp only [thenS,blockS])|(refine Pwp.cond rfl True.intro (fun h=>?_) (fun h=>?_)<;>(try (cases h;done))<;>(try simp only [h]))|refine Pwp.ret ?_|(refine hK _ ?_;clear hK K)|(refine hK _ _ rfl ?_;clear hK K)|(refine CallK.toD (ds:=[.agg [I64 3, .slc 5 (runsC 3 rs0)], I64 m.cycle]) rfl (r94) rfl ?_)|(refine CallK.give (ds:=[.agg [I64 3, .slc 5 (runsC 3 rs0)], .agg [I64 m.kind, I64 m.seller, I64 m.number, I64 m.buyer, I64 m.currency, I64 m.round, I64 m.cycle, I64 m.amount, .v (.bool m.yes), .slc 4 (linesD m.ls), .slc 1 (m.ns.map I64)], I64 fr]) rfl (r91) (by simp) ?_)|refine CallG.off ?_|with_reducible refine Or.inl ?_|simp only [thenS,blockS]|with_reducible refine And.intro ?_ ?_|with_reducible exact True.intro|simp (dsimp:=false) only [↓gq,↓stepP,↓stepG,go_sem,hg,c1,hv])
          all_goals (try (first|(intro hg;simp [hg];done)|exact of_decide_eq_true rfl|(cases h;done)))
          all_goals (try (intro hg; simp only [hg, Bool.not_false, Bool.not_true, Bool.and_self, Bool.true_and, Bool.and_true, true_and, and_self, imp_self, implies_true]; done))
          refine Pwp.rangeI (sentsD o).length (fun j s => ∃ J, OneI rs J K2 ∧ s = L30b ws rs J K2 (sentsD o) i j) (s0 := L30b ws rs K1 K2 (sentsD o) i 0) (Sub.view V0 (by simp [L30b]) rfl (by simp [L30b,bxC]) (by simp [L30b,bxC])) ⟨K1, o1, rfl⟩ ?_ ?_
          · rintro j s hj ⟨J, hJ, rfl⟩
            obtain ⟨p, hp, hpm⟩ := at_lt (l := o) (i := j) (by rw [sents_len] at hj; exact hj)
            have hgp := sents_get hp
            have c2 := dlt hj
            have w2 := wrap_succ (i := j) (by omega)
            cases hk : (p.2.kind != 14) with
            | true =>
              unfold L30b bxC
              repeat' (first|((first|refine goA rfl fun K hK=>?_|refine goB rfl fun K hK=>?_|refine goC rfl rfl fun K hK=>?_|refine goD rfl rfl fun K hK=>?_);simp (dsimp:=false) only [↓gq,↓stepP,↓stepG,go_sem,hgp,c2,w2,hk])|refine Pwp.seq ?_|refine Pwp.block ?_|(refine Pwp.exit ?_;simp only [thenS,blockS,if_true,if_false,reduceIte,Nat.reduceEqDiff,Nat.add_one_ne_zero,reduceCtorEq])|(refine Pwp.skip ?_;simp only [thenS,blockS])|(refine Pwp.cond rfl True.intro (fun h=>?_) (fun h=>?_)<;>(try (cases h;done))<;>(try simp only [h]))|refine Pwp.ret ?_|(refine hK _ ?_;clear hK K)|(refine hK _ _ rfl ?_;clear hK K)|refine CallG.off ?_|with_reducible refine Or.inl ?_|simp only [thenS,blockS]|with_reducible refine And.intro ?_ ?_|with_reducible exact True.intro|simp (dsimp:=false) only [↓gq,↓stepP,↓stepG,go_sem,hgp,c2,w2,hk])
              all_goals (try (first|(intro hg;simp [hg];done)|exact of_decide_eq_true rfl|(cases h;done)))
              exact ⟨_, Sub.view V0 (by simp [L30b]) rfl (by simp [L30b,bxC]) (by simp [L30b,bxC]), J, hJ, rfl⟩
            | false =>
              obtain ⟨s1, s2, s3⟩ := o2 p hpm (by simpa using hk)
              obtain ⟨g1, g2⟩ := one_said hJ s1 s2 s3
              obtain ⟨w, b, hm1, hbw⟩ : ∃ w b : Bool, mapGet none (.v (.int .i64 p.2.cycle)) (entK J) (.v (.bool false)) = some (.v (.bool w), b) ∧ (b && (w != p.2.yes)) = false := one_get g1
              cases hy : p.2.yes with
              | true =>
                rw [hy] at s3 g2
                have hbw2 : (b && !w) = false := by revert hbw; rw [hy]; cases b <;> cases w <;> simp
                obtain ⟨b3, hm2⟩ := one_yes hJ s1 s2 s3
                unfold L30b bxC
                repeat' (first|((first|refine goA rfl fun K hK=>?_|refine goB rfl fun K hK=>?_|refine goC rfl rfl fun K hK=>?_|refine goD rfl rfl fun K hK=>?_);simp (dsimp:=false) only [↓gq,↓stepP,↓stepG,go_sem,hgp,c2,w2,hk,hm1,hbw2,hy,hm2,set_entK])|refine Pwp.seq ?_|refine Pwp.block ?_|(refine Pwp.exit ?_;simp only [thenS,blockS,if_true,if_false,reduceIte,Nat.reduceEqDiff,Nat.add_one_ne_zero,reduceCtorEq])|(refine Pwp.skip ?_;simp only [thenS,blockS])|(refine Pwp.cond rfl True.intro (fun h=>?_) (fun h=>?_)<;>(try (cases h;done))<;>(try simp only [h]))|refine Pwp.ret ?_|(refine hK _ ?_;clear hK K)|(refine hK _ _ rfl ?_;clear hK K)|refine CallG.off ?_|with_reducible refine Or.inl ?_|simp only [thenS,blockS]|with_reducible refine And.intro ?_ ?_|with_reducible exact True.intro|simp (dsimp:=false) only [↓gq,↓stepP,↓stepG,go_sem,hgp,c2,w2,hk,hm1,hbw2,hy,hm2,set_entK])
                all_goals (try (first|(intro hg;simp [hg];done)|exact of_decide_eq_true rfl|(cases h;done)))
                all_goals (try (intro hg; simp only [hg, Bool.not_false, Bool.not_true, Bool.and_self, Bool.true_and, Bool.and_true, true_and, and_self, imp_self, implies_true]; done))
                exact ⟨_, Sub.view V0 (by simp [L30b]) rfl (by simp [L30b,bxC]) (by simp [L30b,bxC]), _, g2, rfl⟩
              | false =>
                rw [hy] at g2
                obtain ⟨b3, x1, x2, x3, hm2⟩ := one_any hJ p.2.cycle
                have hbw2 : (b && !!w) = false := by revert hbw; rw [hy]; cases b <;> cases w <;> simp
                unfold L30b bxC
                repeat' (first|((first|refine goA rfl fun K hK=>?_|refine goB rfl fun K hK=>?_|refine goC rfl rfl fun K hK=>?_|refine goD rfl rfl fun K hK=>?_);simp (dsimp:=false) only [↓gq,↓stepP,↓stepG,go_sem,hgp,c2,w2,hk,hm1,hbw2,hy,hm2,set_entK])|refine Pwp.seq ?_|refine Pwp.block ?_|(refine Pwp.exit ?_;simp only [thenS,blockS,if_true,if_false,reduceIte,Nat.reduceEqDiff,Nat.add_one_ne_zero,reduceCtorEq])|(refine Pwp.skip ?_;simp only [thenS,blockS])|(refine Pwp.cond rfl True.intro (fun h=>?_) (fun h=>?_)<;>(try (cases h;done))<;>(try simp only [h]))|refine Pwp.ret ?_|(refine hK _ ?_;clear hK K)|(refine hK _ _ rfl ?_;clear hK K)|refine CallG.off ?_|with_reducible refine Or.inl ?_|simp only [thenS,blockS]|with_reducible refine And.intro ?_ ?_|with_reducible exact True.intro|simp (dsimp:=false) only [↓gq,↓stepP,↓stepG,go_sem,hgp,c2,w2,hk,hm1,hbw2,hy,hm2,set_entK])
                all_goals (try (first|(intro hg;simp [hg];done)|exact of_decide_eq_true rfl|(cases h;done)))
                all_goals (try (intro hg; simp only [hg, Bool.not_false, Bool.not_true, Bool.and_self, Bool.true_and, Bool.and_true, true_and, and_self, imp_self, implies_true]; done))
                exact ⟨_, Sub.view V0 (by simp [L30b]) rfl (by simp [L30b,bxC]) (by simp [L30b,bxC]), _, g2, rfl⟩
          · rintro s ⟨J, hJ, rfl⟩
            have c2 := dge (Nat.le_refl (sentsD o).length)
            have hA' : At30 rs J K2 (i + 1) := ⟨k1, hJ, by omega⟩
            unfold L30b bxC
            repeat' (first|((first|refine goA rfl fun K hK=>?_|refine goB rfl fun K hK=>?_|refine goC rfl rfl fun K hK=>?_|refine goD rfl rfl fun K hK=>?_);simp (dsimp:=false) only [↓gq,↓stepP,↓stepG,go_sem,c2])|refine Pwp.seq ?_|refine Pwp.block ?_|(refine Pwp.exit ?_;simp only [thenS,blockS,if_true,if_false,reduceIte,Nat.reduceEqDiff,Nat.add_one_ne_zero,reduceCtorEq])|(refine Pwp.skip ?_;simp only [thenS,blockS])|(refine Pwp.cond rfl True.intro (fun h=>?_) (fun h=>?_)<;>(try (cases h;done))<;>(try simp only [h]))|refine Pwp.ret ?_|(refine hK _ ?_;clear hK K)|(refine hK _ _ rfl ?_;clear hK K)|refine CallG.off ?_|with_reducible refine Or.inl ?_|simp only [thenS,blockS]|with_reducible refine And.intro ?_ ?_|with_reducible exact True.intro|simp (dsimp:=false) only [↓gq,↓stepP,↓stepG,go_sem,c2])
            all_goals (try (first|(intro hg;simp [hg];done)|exact of_decide_eq_true rfl|(cases h;done)))
            intro born clk hbl hbs
            repeat' (first|((first|refine goA rfl fun K hK=>?_|refine goB rfl fun K hK=>?_|refine goC rfl rfl fun K hK=>?_|refine goD rfl rfl fun K hK=>?_);simp (dsimp:=false) only [↓gq,↓stepP,↓stepG,go_sem])|refine Pwp.seq ?_|refine Pwp.block ?_|(refine Pwp.exit ?_;simp only [thenS,blockS,if_true,if_false,reduceIte,Nat.reduceEqDiff,Nat.add_one_ne_zero,reduceCtorEq])|(refine Pwp.skip ?_;simp only [thenS,blockS])|(refine Pwp.cond rfl True.intro (fun h=>?_) (fun h=>?_)<;>(try (cases h;done))<;>(try simp only [h]))|refine Pwp.ret ?_|(refine hK _ ?_;clear hK K)|(refine hK _ _ rfl ?_;clear hK K)|refine CallG.off ?_|with_reducible refine Or.inl ?_|simp only [thenS,blockS]|with_reducible refine And.intro ?_ ?_|with_reducible exact True.intro|simp (dsimp:=false) only [↓gq,↓stepP,↓stepG,go_sem])
            all_goals (try (first|(intro hg;simp [hg];done)|exact of_decide_eq_true rfl|(cases h;done)))
            refine Pwp.rangeM born (fun seen s => s = L30c ws rs J K2 born clk seen i) (s0 := L30c ws rs J K2 born clk [] i) (Sub.view V0 (by simp [L30c]) rfl (by simp [L30c,bxC]) (by simp [L30c,bxC])) rfl ?_
            rintro seen s rfl
            unfold L30c bxC
            repeat' (first|((first|refine goA rfl fun K hK=>?_|refine goB rfl fun K hK=>?_|refine goC rfl rfl fun K hK=>?_|refine goD rfl rfl fun K hK=>?_);simp (dsimp:=false) only [↓gq,↓stepP,↓stepG,go_sem])|refine Pwp.seq ?_|refine Pwp.block ?_|(refine Pwp.exit ?_;simp only [thenS,blockS,if_true,if_false,reduceIte,Nat.reduceEqDiff,Nat.add_one_ne_zero,reduceCtorEq])|(refine Pwp.skip ?_;simp only [thenS,blockS])|(refine Pwp.cond rfl True.intro (fun h=>?_) (fun h=>?_)<;>(try (cases h;done))<;>(try simp only [h]))|refine Pwp.ret ?_|(refine hK _ ?_;clear hK K)|(refine hK _ _ rfl ?_;clear hK K)|refine CallG.off ?_|with_reducible refine Or.inl ?_|simp only [thenS,blockS]|with_reducible refine And.intro ?_ ?_|with_reducible exact True.intro|simp (dsimp:=false) only [↓gq,↓stepP,↓stepG,go_sem])
            all_goals (try (first|(intro hg;simp [hg];done)|exact of_decide_eq_true rfl|(cases h;done)))
            · intro j e z he hb hz
              obtain ⟨n0, d0, rfl⟩ := entK_form he
              repeat' (first|((first|refine goA rfl fun K hK=>?_|refine goB rfl fun K hK=>?_|refine goC rfl rfl fun K hK=>?_|refine goD rfl rfl fun K hK=>?_);simp (dsimp:=false) only [↓gq,↓stepP,↓stepG,go_sem])|refine Pwp.seq ?_|refine Pwp.block ?_|(refine Pwp.exit ?_;simp only [thenS,blockS,if_true,if_false,reduceIte,Nat.reduceEqDiff,Nat.add_one_ne_zero,reduceCtorEq])|(refine Pwp.skip ?_;simp only [thenS,blockS])|(refine Pwp.cond rfl True.intro (fun h=>?_) (fun h=>?_)<;>(try (cases h;done))<;>(try simp only [h]))|refine Pwp.ret ?_|(refine hK _ ?_;clear hK K)|(refine hK _ _ rfl ?_;clear hK K)|refine CallG.off ?_|with_reducible refine Or.inl ?_|simp only [thenS,blockS]|with_reducible refine And.intro ?_ ?_|with_reducible exact True.intro|simp (dsimp:=false) only [↓gq,↓stepP,↓stepG,go_sem])
              all_goals (try (first|(intro hg;simp [hg];done)|exact of_decide_eq_true rfl|(cases h;done)))
              · exact List.mem_of_getElem? hb
              intro j2 e2 he2 hb2
              obtain ⟨n, d, rfl, hnd⟩ := entK_mem he2
              obtain ⟨was, rfl, n1, n2, n3⟩ := hJ.dec n d hnd
              have hcr : (decide (n < 1) || decide ((rs.length : Int) < n)) = false := by rw [Bool.or_eq_false_iff, decide_eq_false_iff_not, decide_eq_false_iff_not]; omega
              have r94 := run94 3 rs n (by omega) k1 (by omega) hcr
              have hdm : atR rs n ∈ rs := List.mem_of_getElem? (atR_some hcr).2.2
              have hdv := hJ.one _ hdm
              have r41 := run41 (atR rs n).ns (by have := (k1 _ hdm).ns; omega) hdv.nin
              unfold runP chD at r94
              cases was with
              | true =>
                simp only [if_true] at n3
                rw [hdv.nul (.inr n3), if_pos (by rfl)] at r41
                rw [n3] at r94
                repeat' (first|((first|refine goA rfl fun K hK=>?_|refine goB rfl fun K hK=>?_|refine goC rfl rfl fun K hK=>?_|refine goD rfl rfl fun K hK=>?_);simp (dsimp:=false) only [↓gq,↓stepP,↓stepG,go_sem,bne_self_eq_false,beq_self_eq_true])|refine Pwp.seq ?_|refine Pwp.block ?_|(refine Pwp.exit ?_;simp only [thenS,blockS,if_true,if_false,reduceIte,Nat.reduceEqDiff,Nat.add_one_ne_zero,reduceCtorEq])|(refine Pwp.skip ?_;simp only [thenS,blockS])|(refine Pwp.cond rfl True.intro (fun h=>?_) (fun h=>?_)<;>(try (cases h;done))<;>(try simp only [h]))|refine Pwp.ret ?_|(refine hK _ ?_;clear hK K)|(refine hK _ _ rfl ?_;clear hK K)|(refine CallK.give (ds:=[.agg [I64 3, .slc 5 (runsC 3 rs)], I64 n]) rfl (r94) (by simp) ?_)|(refine CallK.give (ds:=[.slc 1 ((atR rs n).ns.map I64)]) rfl (r41) (by simp) ?_)|refine CallG.off ?_|with_reducible refine Or.inl ?_|simp only [thenS,blockS]|with_reducible refine And.intro ?_ ?_|with_reducible exact True.intro|simp (dsimp:=false) only [↓gq,↓stepP,↓stepG,go_sem,bne_self_eq_false,beq_self_eq_true])
                all_goals (try (first|(intro hg;simp [hg];done)|exact of_decide_eq_true rfl|(cases h;done)))
                all_goals (try (intro hg; simp only [hg, Bool.not_false, Bool.not_true, Bool.and_self, Bool.true_and, Bool.and_true, true_and, and_self, imp_self, implies_true]; done))
                exact ⟨_, z, Sub.view V0 (by simp [L30c]) rfl (by simp [L30c,bxC]) (by simp [L30c,bxC]), List.mem_of_getElem? hb, hz, rfl⟩
              | false =>
                simp only [Bool.false_eq_true, if_false] at n3
                obtain ⟨x, y, hxy⟩ : ∃ x y, (if fits (sumOf (atR rs n).ns) = true then [I64 (sumOf (atR rs n).ns), I64 0] else [I64 0, I64 10]) = [I64 x, I64 y] := by split <;> exact ⟨_, _, rfl⟩
                rw [hxy] at r41
                rw [n3] at r94
                repeat' (first|((first|refine goA rfl fun K hK=>?_|refine goB rfl fun K hK=>?_|refine goC rfl rfl fun K hK=>?_|refine goD rfl rfl fun K hK=>?_);simp (dsimp:=false) only [↓gq,↓stepP,↓stepG,go_sem,bne_self_eq_false,beq_self_eq_true])|refine Pwp.seq ?_|refine Pwp.block ?_|(refine Pwp.exit ?_;simp only [thenS,blockS,if_true,if_false,reduceIte,Nat.reduceEqDiff,Nat.add_one_ne_zero,reduceCtorEq])|(refine Pwp.skip ?_;simp only [thenS,blockS])|(refine Pwp.cond rfl True.intro (fun h=>?_) (fun h=>?_)<;>(try (cases h;done))<;>(try simp only [h]))|refine Pwp.ret ?_|(refine hK _ ?_;clear hK K)|(refine hK _ _ rfl ?_;clear hK K)|(refine CallK.give (ds:=[.agg [I64 3, .slc 5 (runsC 3 rs)], I64 n]) rfl (r94) (by simp) ?_)|(refine CallK.give (ds:=[.slc 1 ((atR rs n).ns.map I64)]) rfl (r41) (by simp) ?_)|refine CallG.off ?_|with_reducible refine Or.inl ?_|simp only [thenS,blockS]|with_reducible refine And.intro ?_ ?_|with_reducible exact True.intro|simp (dsimp:=false) only [↓gq,↓stepP,↓stepG,go_sem,bne_self_eq_false,beq_self_eq_true])
                all_goals (try (first|(intro hg;simp [hg];done)|exact of_decide_eq_true rfl|(cases h;done)))
                all_goals (try (intro hg; simp only [hg, Bool.not_false, Bool.not_true, Bool.and_self, Bool.true_and, Bool.and_true, true_and, and_self, imp_self, implies_true]; done))
                exact ⟨_, z, Sub.view V0 (by simp [L30c]) rfl (by simp [L30c,bxC]) (by simp [L30c,bxC]), List.mem_of_getElem? hb, hz, rfl⟩
            · intro hseen
              repeat' (first|((first|refine goA rfl fun K hK=>?_|refine goB rfl fun K hK=>?_|refine goC rfl rfl fun K hK=>?_|refine goD rfl rfl fun K hK=>?_);simp (dsimp:=false) only [↓gq,↓stepP,↓stepG,go_sem,w1])|refine Pwp.seq ?_|refine Pwp.block ?_|(refine Pwp.exit ?_;simp only [thenS,blockS,if_true,if_false,reduceIte,Nat.reduceEqDiff,Nat.add_one_ne_zero,reduceCtorEq])|(refine Pwp.skip ?_;simp only [thenS,blockS])|(refine Pwp.cond rfl True.intro (fun h=>?_) (fun h=>?_)<;>(try (cases h;done))<;>(try simp only [h]))|refine Pwp.ret ?_|(refine hK _ ?_;clear hK K)|(refine hK _ _ rfl ?_;clear hK K)|refine CallG.off ?_|with_reducible refine Or.inl ?_|simp only [thenS,blockS]|with_reducible refine And.intro ?_ ?_|with_reducible exact True.intro|simp (dsimp:=false) only [↓gq,↓stepP,↓stepG,go_sem,w1])
              all_goals (try (first|(intro hg;simp [hg];done)|exact of_decide_eq_true rfl|(cases h;done)))
              exact ⟨_, Sub.view V0 (by simp [L30a]) rfl (by simp [L30a,bxC]) (by simp [L30a,bxC]), rs, J, K2, hA', rfl⟩
        | false =>
          have r94 := run94 3 rs0 m.cycle (by omega) hA0.ok (by omega) hcc
          unfold runP chD at r94
          unfold L30a bxC
          repeat' (first|((first|refine goA rfl fun K hK=>?_|refine goB rfl fun K hK=>?_|refine goC rfl rfl fun K hK=>?_|refine goD rfl rfl fun K hK=>?_);simp (dsimp:=false) only [↓gq,↓stepP,↓stepG,go_sem,hg,c1,hv])|refine Pwp.seq ?_|refine Pwp.block ?_|(refine Pwp.exit ?_;simp only [thenS,blockS,if_true,if_false,reduceIte,Nat.reduceEqDiff,Nat.add_one_ne_zero,reduceCtorEq])|(refine Pwp.skip ?_;simp only [thenS,blockS])|(refine Pwp.cond rfl True.intro (fun h=>?_) (fun h=>?_)<;>(try (cases h;done))<;>(try simp only [h]))|refine Pwp.ret ?_|(refine hK _ ?_;clear hK K)|(refine hK _ _ rfl ?_;clear hK K)|(refine CallK.give (ds:=[.agg [I64 3, .slc 5 (runsC 3 rs0)], I64 m.cycle]) rfl (r94) (by simp) ?_)|(refine CallK.give (ds:=[.agg [I64 3, .slc 5 (runsC 3 rs0)], .agg [I64 m.kind, I64 m.seller, I64 m.number, I64 m.buyer, I64 m.currency, I64 m.round, I64 m.cycle, I64 m.amount, .v (.bool m.yes), .slc 4 (linesD m.ls), .slc 1 (m.ns.map I64)], I64 fr]) rfl (r91) (by simp) ?_)|refine CallG.off ?_|with_reducible refine Or.inl ?_|simp only [thenS,blockS]|with_reducible refine And.intro ?_ ?_|with_reducible exact True.intro|simp (dsimp:=false) only [↓gq,↓stepP,↓stepG,go_sem,hg,c1,hv])
          all_goals (try (first|(intro hg;simp [hg];done)|exact of_decide_eq_true rfl|(cases h;done)))
          all_goals (try (intro hg; simp only [hg, Bool.not_false, Bool.not_true, Bool.and_self, Bool.true_and, Bool.and_true, true_and, and_self, imp_self, implies_true]; done))
          refine Pwp.rangeI (sentsD o).length (fun j s => ∃ J, OneI rs J K2 ∧ s = L30b ws rs J K2 (sentsD o) i j) (s0 := L30b ws rs K1 K2 (sentsD o) i 0) (Sub.view V0 (by simp [L30b]) rfl (by simp [L30b,bxC]) (by simp [L30b,bxC])) ⟨K1, o1, rfl⟩ ?_ ?_
          · rintro j s hj ⟨J, hJ, rfl⟩
            obtain ⟨p, hp, hpm⟩ := at_lt (l := o) (i := j) (by rw [sents_len] at hj; exact hj)
            have hgp := sents_get hp
            have c2 := dlt hj
            have w2 := wrap_succ (i := j) (by omega)
            cases hk : (p.2.kind != 14) with
            | true =>
              unfold L30b bxC
              repeat' (first|((first|refine goA rfl fun K hK=>?_|refine goB rfl fun K hK=>?_|refine goC rfl rfl fun K hK=>?_|refine goD rfl rfl fun K hK=>?_);simp (dsimp:=false) only [↓gq,↓stepP,↓stepG,go_sem,hgp,c2,w2,hk])|refine Pwp.seq ?_|refine Pwp.block ?_|(refine Pwp.exit ?_;simp only [thenS,blockS,if_true,if_false,reduceIte,Nat.reduceEqDiff,Nat.add_one_ne_zero,reduceCtorEq])|(refine Pwp.skip ?_;simp only [thenS,blockS])|(refine Pwp.cond rfl True.intro (fun h=>?_) (fun h=>?_)<;>(try (cases h;done))<;>(try simp only [h]))|refine Pwp.ret ?_|(refine hK _ ?_;clear hK K)|(refine hK _ _ rfl ?_;clear hK K)|refine CallG.off ?_|with_reducible refine Or.inl ?_|simp only [thenS,blockS]|with_reducible refine And.intro ?_ ?_|with_reducible exact True.intro|simp (dsimp:=false) only [↓gq,↓stepP,↓stepG,go_sem,hgp,c2,w2,hk])
              all_goals (try (first|(intro hg;simp [hg];done)|exact of_decide_eq_true rfl|(cases h;done)))
              exact ⟨_, Sub.view V0 (by simp [L30b]) rfl (by simp [L30b,bxC]) (by simp [L30b,bxC]), J, hJ, rfl⟩
            | false =>
              obtain ⟨s1, s2, s3⟩ := o2 p hpm (by simpa using hk)
              obtain ⟨g1, g2⟩ := one_said hJ s1 s2 s3
              obtain ⟨w, b, hm1, hbw⟩ : ∃ w b : Bool, mapGet none (.v (.int .i64 p.2.cycle)) (entK J) (.v (.bool false)) = some (.v (.bool w), b) ∧ (b && (w != p.2.yes)) = false := one_get g1
              cases hy : p.2.yes with
              | true =>
                rw [hy] at s3 g2
                have hbw2 : (b && !w) = false := by revert hbw; rw [hy]; cases b <;> cases w <;> simp
                obtain ⟨b3, hm2⟩ := one_yes hJ s1 s2 s3
                unfold L30b bxC
                repeat' (first|((first|refine goA rfl fun K hK=>?_|refine goB rfl fun K hK=>?_|refine goC rfl rfl fun K hK=>?_|refine goD rfl rfl fun K hK=>?_);simp (dsimp:=false) only [↓gq,↓stepP,↓stepG,go_sem,hgp,c2,w2,hk,hm1,hbw2,hy,hm2,set_entK])|refine Pwp.seq ?_|refine Pwp.block ?_|(refine Pwp.exit ?_;simp only [thenS,blockS,if_true,if_false,reduceIte,Nat.reduceEqDiff,Nat.add_one_ne_zero,reduceCtorEq])|(refine Pwp.skip ?_;simp only [thenS,blockS])|(refine Pwp.cond rfl True.intro (fun h=>?_) (fun h=>?_)<;>(try (cases h;done))<;>(try simp only [h]))|refine Pwp.ret ?_|(refine hK _ ?_;clear hK K)|(refine hK _ _ rfl ?_;clear hK K)|refine CallG.off ?_|with_reducible refine Or.inl ?_|simp only [thenS,blockS]|with_reducible refine And.intro ?_ ?_|with_reducible exact True.intro|simp (dsimp:=false) only [↓gq,↓stepP,↓stepG,go_sem,hgp,c2,w2,hk,hm1,hbw2,hy,hm2,set_entK])
                all_goals (try (first|(intro hg;simp [hg];done)|exact of_decide_eq_true rfl|(cases h;done)))
                all_goals (try (intro hg; simp only [hg, Bool.not_false, Bool.not_true, Bool.and_self, Bool.true_and, Bool.and_true, true_and, and_self, imp_self, implies_true]; done))
                exact ⟨_, Sub.view V0 (by simp [L30b]) rfl (by simp [L30b,bxC]) (by simp [L30b,bxC]), _, g2, rfl⟩
              | false =>
                rw [hy] at g2
                obtain ⟨b3, x1, x2, x3, hm2⟩ := one_any hJ p.2.cycle
                have hbw2 : (b && !!w) = false := by revert hbw; rw [hy]; cases b <;> cases w <;> simp
                unfold L30b bxC
                repeat' (first|((first|refine goA rfl fun K hK=>?_|refine goB rfl fun K hK=>?_|refine goC rfl rfl fun K hK=>?_|refine goD rfl rfl fun K hK=>?_);simp (dsimp:=false) only [↓gq,↓stepP,↓stepG,go_sem,hgp,c2,w2,hk,hm1,hbw2,hy,hm2,set_entK])|refine Pwp.seq ?_|refine Pwp.block ?_|(refine Pwp.exit ?_;simp only [thenS,blockS,if_true,if_false,reduceIte,Nat.reduceEqDiff,Nat.add_one_ne_zero,reduceCtorEq])|(refine Pwp.skip ?_;simp only [thenS,blockS])|(refine Pwp.cond rfl True.intro (fun h=>?_) (fun h=>?_)<;>(try (cases h;done))<;>(try simp only [h]))|refine Pwp.ret ?_|(refine hK _ ?_;clear hK K)|(refine hK _ _ rfl ?_;clear hK K)|refine CallG.off ?_|with_reducible refine Or.inl ?_|simp only [thenS,blockS]|with_reducible refine And.intro ?_ ?_|with_reducible exact True.intro|simp (dsimp:=false) only [↓gq,↓stepP,↓stepG,go_sem,hgp,c2,w2,hk,hm1,hbw2,hy,hm2,set_entK])
                all_goals (try (first|(intro hg;simp [hg];done)|exact of_decide_eq_true rfl|(cases h;done)))
                all_goals (try (intro hg; simp only [hg, Bool.not_false, Bool.not_true, Bool.and_self, Bool.true_and, Bool.and_true, true_and, and_self, imp_self, implies_true]; done))
                exact ⟨_, Sub.view V0 (by simp [L30b]) rfl (by simp [L30b,bxC]) (by simp [L30b,bxC]), _, g2, rfl⟩
          · rintro s ⟨J, hJ, rfl⟩
            have c2 := dge (Nat.le_refl (sentsD o).length)
            have hA' : At30 rs J K2 (i + 1) := ⟨k1, hJ, by omega⟩
            unfold L30b bxC
            repeat' (first|((first|refine goA rfl fun K hK=>?_|refine goB rfl fun K hK=>?_|refine goC rfl rfl fun K hK=>?_|refine goD rfl rfl fun K hK=>?_);simp (dsimp:=false) only [↓gq,↓stepP,↓stepG,go_sem,c2])|refine Pwp.seq ?_|refine Pwp.block ?_|(refine Pwp.exit ?_;simp only [thenS,blockS,if_true,if_false,reduceIte,Nat.reduceEqDiff,Nat.add_one_ne_zero,reduceCtorEq])|(refine Pwp.skip ?_;simp only [thenS,blockS])|(refine Pwp.cond rfl True.intro (fun h=>?_) (fun h=>?_)<;>(try (cases h;done))<;>(try simp only [h]))|refine Pwp.ret ?_|(refine hK _ ?_;clear hK K)|(refine hK _ _ rfl ?_;clear hK K)|refine CallG.off ?_|with_reducible refine Or.inl ?_|simp only [thenS,blockS]|with_reducible refine And.intro ?_ ?_|with_reducible exact True.intro|simp (dsimp:=false) only [↓gq,↓stepP,↓stepG,go_sem,c2])
            all_goals (try (first|(intro hg;simp [hg];done)|exact of_decide_eq_true rfl|(cases h;done)))
            intro born clk hbl hbs
            repeat' (first|((first|refine goA rfl fun K hK=>?_|refine goB rfl fun K hK=>?_|refine goC rfl rfl fun K hK=>?_|refine goD rfl rfl fun K hK=>?_);simp (dsimp:=false) only [↓gq,↓stepP,↓stepG,go_sem])|refine Pwp.seq ?_|refine Pwp.block ?_|(refine Pwp.exit ?_;simp only [thenS,blockS,if_true,if_false,reduceIte,Nat.reduceEqDiff,Nat.add_one_ne_zero,reduceCtorEq])|(refine Pwp.skip ?_;simp only [thenS,blockS])|(refine Pwp.cond rfl True.intro (fun h=>?_) (fun h=>?_)<;>(try (cases h;done))<;>(try simp only [h]))|refine Pwp.ret ?_|(refine hK _ ?_;clear hK K)|(refine hK _ _ rfl ?_;clear hK K)|refine CallG.off ?_|with_reducible refine Or.inl ?_|simp only [thenS,blockS]|with_reducible refine And.intro ?_ ?_|with_reducible exact True.intro|simp (dsimp:=false) only [↓gq,↓stepP,↓stepG,go_sem])
            all_goals (try (first|(intro hg;simp [hg];done)|exact of_decide_eq_true rfl|(cases h;done)))
            refine Pwp.rangeM born (fun seen s => s = L30c ws rs J K2 born clk seen i) (s0 := L30c ws rs J K2 born clk [] i) (Sub.view V0 (by simp [L30c]) rfl (by simp [L30c,bxC]) (by simp [L30c,bxC])) rfl ?_
            rintro seen s rfl
            unfold L30c bxC
            repeat' (first|((first|refine goA rfl fun K hK=>?_|refine goB rfl fun K hK=>?_|refine goC rfl rfl fun K hK=>?_|refine goD rfl rfl fun K hK=>?_);simp (dsimp:=false) only [↓gq,↓stepP,↓stepG,go_sem])|refine Pwp.seq ?_|refine Pwp.block ?_|(refine Pwp.exit ?_;simp only [thenS,blockS,if_true,if_false,reduceIte,Nat.reduceEqDiff,Nat.add_one_ne_zero,reduceCtorEq])|(refine Pwp.skip ?_;simp only [thenS,blockS])|(refine Pwp.cond rfl True.intro (fun h=>?_) (fun h=>?_)<;>(try (cases h;done))<;>(try simp only [h]))|refine Pwp.ret ?_|(refine hK _ ?_;clear hK K)|(refine hK _ _ rfl ?_;clear hK K)|refine CallG.off ?_|with_reducible refine Or.inl ?_|simp only [thenS,blockS]|with_reducible refine And.intro ?_ ?_|with_reducible exact True.intro|simp (dsimp:=false) only [↓gq,↓stepP,↓stepG,go_sem])
            all_goals (try (first|(intro hg;simp [hg];done)|exact of_decide_eq_true rfl|(cases h;done)))
            · intro j e z he hb hz
              obtain ⟨n0, d0, rfl⟩ := entK_form he
              repeat' (first|((first|refine goA rfl fun K hK=>?_|refine goB rfl fun K hK=>?_|refine goC rfl rfl fun K hK=>?_|refine goD rfl rfl fun K hK=>?_);simp (dsimp:=false) only [↓gq,↓stepP,↓stepG,go_sem])|refine Pwp.seq ?_|refine Pwp.block ?_|(refine Pwp.exit ?_;simp only [thenS,blockS,if_true,if_false,reduceIte,Nat.reduceEqDiff,Nat.add_one_ne_zero,reduceCtorEq])|(refine Pwp.skip ?_;simp only [thenS,blockS])|(refine Pwp.cond rfl True.intro (fun h=>?_) (fun h=>?_)<;>(try (cases h;done))<;>(try simp only [h]))|refine Pwp.ret ?_|(refine hK _ ?_;clear hK K)|(refine hK _ _ rfl ?_;clear hK K)|refine CallG.off ?_|with_reducible refine Or.inl ?_|simp only [thenS,blockS]|with_reducible refine And.intro ?_ ?_|with_reducible exact True.intro|simp (dsimp:=false) only [↓gq,↓stepP,↓stepG,go_sem])
              all_goals (try (first|(intro hg;simp [hg];done)|exact of_decide_eq_true rfl|(cases h;done)))
              · exact List.mem_of_getElem? hb
              intro j2 e2 he2 hb2
              obtain ⟨n, d, rfl, hnd⟩ := entK_mem he2
              obtain ⟨was, rfl, n1, n2, n3⟩ := hJ.dec n d hnd
              have hcr : (decide (n < 1) || decide ((rs.length : Int) < n)) = false := by rw [Bool.or_eq_false_iff, decide_eq_false_iff_not, decide_eq_false_iff_not]; omega
              have r94 := run94 3 rs n (by omega) k1 (by omega) hcr
              have hdm : atR rs n ∈ rs := List.mem_of_getElem? (atR_some hcr).2.2
              have hdv := hJ.one _ hdm
              have r41 := run41 (atR rs n).ns (by have := (k1 _ hdm).ns; omega) hdv.nin
              unfold runP chD at r94
              cases was with
              | true =>
                simp only [if_true] at n3
                rw [hdv.nul (.inr n3), if_pos (by rfl)] at r41
                rw [n3] at r94
                repeat' (first|((first|refine goA rfl fun K hK=>?_|refine goB rfl fun K hK=>?_|refine goC rfl rfl fun K hK=>?_|refine goD rfl rfl fun K hK=>?_);simp (dsimp:=false) only [↓gq,↓stepP,↓stepG,go_sem,bne_self_eq_false,beq_self_eq_true])|refine Pwp.seq ?_|refine Pwp.block ?_|(refine Pwp.exit ?_;simp only [thenS,blockS,if_true,if_false,reduceIte,Nat.reduceEqDiff,Nat.add_one_ne_zero,reduceCtorEq])|(refine Pwp.skip ?_;simp only [thenS,blockS])|(refine Pwp.cond rfl True.intro (fun h=>?_) (fun h=>?_)<;>(try (cases h;done))<;>(try simp only [h]))|refine Pwp.ret ?_|(refine hK _ ?_;clear hK K)|(refine hK _ _ rfl ?_;clear hK K)|(refine CallK.give (ds:=[.agg [I64 3, .slc 5 (runsC 3 rs)], I64 n]) rfl (r94) (by simp) ?_)|(refine CallK.give (ds:=[.slc 1 ((atR rs n).ns.map I64)]) rfl (r41) (by simp) ?_)|refine CallG.off ?_|with_reducible refine Or.inl ?_|simp only [thenS,blockS]|with_reducible refine And.intro ?_ ?_|with_reducible exact True.intro|simp (dsimp:=false) only [↓gq,↓stepP,↓stepG,go_sem,bne_self_eq_false,beq_self_eq_true])
                all_goals (try (first|(intro hg;simp [hg];done)|exact of_decide_eq_true rfl|(cases h;done)))
                all_goals (try (intro hg; simp only [hg, Bool.not_false, Bool.not_true, Bool.and_self, Bool.true_and, Bool.and_true, true_and, and_self, imp_self, implies_true]; done))
                exact ⟨_, z, Sub.view V0 (by simp [L30c]) rfl (by simp [L30c,bxC]) (by simp [L30c,bxC]), List.mem_of_getElem? hb, hz, rfl⟩
              | false =>
                simp only [Bool.false_eq_true, if_false] at n3
                obtain ⟨x, y, hxy⟩ : ∃ x y, (if fits (sumOf (atR rs n).ns) = true then [I64 (sumOf (atR rs n).ns), I64 0] else [I64 0, I64 10]) = [I64 x, I64 y] := by split <;> exact ⟨_, _, rfl⟩
                rw [hxy] at r41
                rw [n3] at r94
                repeat' (first|((first|refine goA rfl fun K hK=>?_|refine goB rfl fun K hK=>?_|refine goC rfl rfl fun K hK=>?_|refine goD rfl rfl fun K hK=>?_);simp (dsimp:=false) only [↓gq,↓stepP,↓stepG,go_sem,bne_self_eq_false,beq_self_eq_true])|refine Pwp.seq ?_|refine Pwp.block ?_|(refine Pwp.exit ?_;simp only [thenS,blockS,if_true,if_false,reduceIte,Nat.reduceEqDiff,Nat.add_one_ne_zero,reduceCtorEq])|(refine Pwp.skip ?_;simp only [thenS,blockS])|(refine Pwp.cond rfl True.intro (fun h=>?_) (fun h=>?_)<;>(try (cases h;done))<;>(try simp only [h]))|refine Pwp.ret ?_|(refine hK _ ?_;clear hK K)|(refine hK _ _ rfl ?_;clear hK K)|(refine CallK.give (ds:=[.agg [I64 3, .slc 5 (runsC 3 rs)], I64 n]) rfl (r94) (by simp) ?_)|(refine CallK.give (ds:=[.slc 1 ((atR rs n).ns.map I64)]) rfl (r41) (by simp) ?_)|refine CallG.off ?_|with_reducible refine Or.inl ?_|simp only [thenS,blockS]|with_reducible refine And.intro ?_ ?_|with_reducible exact True.intro|simp (dsimp:=false) only [↓gq,↓stepP,↓stepG,go_sem,bne_self_eq_false,beq_self_eq_true])
                all_goals (try (first|(intro hg;simp [hg];done)|exact of_decide_eq_true rfl|(cases h;done)))
                all_goals (try (intro hg; simp only [hg, Bool.not_false, Bool.not_true, Bool.and_self, Bool.true_and, Bool.and_true, true_and, and_self, imp_self, implies_true]; done))
                exact ⟨_, z, Sub.view V0 (by simp [L30c]) rfl (by simp [L30c,bxC]) (by simp [L30c,bxC]), List.mem_of_getElem? hb, hz, rfl⟩
            · intro hseen
              repeat' (first|((first|refine goA rfl fun K hK=>?_|refine goB rfl fun K hK=>?_|refine goC rfl rfl fun K hK=>?_|refine goD rfl rfl fun K hK=>?_);simp (dsimp:=false) only [↓gq,↓stepP,↓stepG,go_sem,w1])|refine Pwp.seq ?_|refine Pwp.block ?_|(refine Pwp.exit ?_;simp only [thenS,blockS,if_true,if_false,reduceIte,Nat.reduceEqDiff,Nat.add_one_ne_zero,reduceCtorEq])|(refine Pwp.skip ?_;simp only [thenS,blockS])|(refine Pwp.cond rfl True.intro (fun h=>?_) (fun h=>?_)<;>(try (cases h;done))<;>(try simp only [h]))|refine Pwp.ret ?_|(refine hK _ ?_;clear hK K)|(refine hK _ _ rfl ?_;clear hK K)|refine CallG.off ?_|with_reducible refine Or.inl ?_|simp only [thenS,blockS]|with_reducible refine And.intro ?_ ?_|with_reducible exact True.intro|simp (dsimp:=false) only [↓gq,↓stepP,↓stepG,go_sem,w1])
              all_goals (try (first|(intro hg;simp [hg];done)|exact of_decide_eq_true rfl|(cases h;done)))
              exact ⟨_, Sub.view V0 (by simp [L30a]) rfl (by simp [L30a,bxC]) (by simp [L30a,bxC]), rs, J, K2, hA', rfl⟩
      | true =>
        have hv2 := hv
        simp only [Bool.and_eq_true, beq_iff_eq] at hv2
        obtain ⟨h1, h2, h3, h4, h5⟩ := hvt hv2.1.1 hv2.1.2 hv2.2
        have hcc : (decide (m.cycle < 1) || decide ((rs0.length : Int) < m.cycle)) = false := by rw [Bool.or_eq_false_iff, decide_eq_false_iff_not, decide_eq_false_iff_not]; omega
        have r94 := run94 3 rs0 m.cycle (by omega) hA0.ok (by omega) hcc
        have k0 := hA0.ok _ (List.mem_of_getElem? (atR_some hcc).2.2)
        obtain ⟨bb, hmg⟩ := one_lkp hA0.one h1 h2 (by omega)
        have hK : K2n rs0 K0 m fr e = setK m.cycle (arrV (votB (atR rs0 m.cycle) fr.toNat).vot) K0 := by unfold K2n; rw [← Bool.and_assoc, hv]; rfl
        have h2s : ((2 : Int) == 2) = true := rfl
        unfold runP chD at r94
        rw [h3] at r94
        obtain rfl | rfl | rfl : fr = 0 ∨ fr = 1 ∨ fr = 2 := by omega
        · have hav : arrV (votB (atR rs0 m.cycle) (Int.toNat 0)).vot = .agg [.v (.bool true), .v (.bool ((atR rs0 m.cycle).vot.getD 1 false)), .v (.bool ((atR rs0 m.cycle).vot.getD 2 false))] := arr_set0 (k0.vot)
          rw [hav] at hK
          rw [hK] at o1
          generalize hKK : setK m.cycle (.agg [.v (.bool true), .v (.bool ((atR rs0 m.cycle).vot.getD 1 false)), .v (.bool ((atR rs0 m.cycle).vot.getD 2 false))]) K0 = K2 at *
          unfold L30a bxC
          repeat' (first|((first|refine goA rfl fun K hK=>?_|refine goB rfl fun K hK=>?_|refine goC rfl rfl fun K hK=>?_|refine goD rfl rfl fun K hK=>?_);simp (dsimp:=false) only [↓gq,↓stepP,↓stepG,go_sem,hg,c1,hv,hmg,set_entK,hKK,h2s,Int.reduceLE,Int.reduceLT])|refine Pwp.seq ?_|refine Pwp.block ?_|(refine Pwp.exit ?_;simp only [thenS,blockS,if_true,if_false,reduceIte,Nat.reduceEqDiff,Nat.add_one_ne_zero,reduceCtorEq])|(refine Pwp.skip ?_;simp only [thenS,blockS])|(refine Pwp.cond rfl True.intro (fun h=>?_) (fun h=>?_)<;>(try (cases h;done))<;>(try simp only [h]))|refine Pwp.ret ?_|(refine hK _ ?_;clear hK K)|(refine hK _ _ rfl ?_;clear hK K)|(refine CallK.give (ds:=[.agg [I64 3, .slc 5 (runsC 3 rs0)], I64 m.cycle]) rfl (r94) (by simp) ?_)|(refine CallK.give (ds:=[.agg [I64 3, .slc 5 (runsC 3 rs0)], .agg [I64 m.kind, I64 m.seller, I64 m.number, I64 m.buyer, I64 m.currency, I64 m.round, I64 m.cycle, I64 m.amount, .v (.bool m.yes), .slc 4 (linesD m.ls), .slc 1 (m.ns.map I64)], I64 0]) rfl (r91) (by simp) ?_)|refine CallG.off ?_|with_reducible refine Or.inl ?_|simp only [thenS,blockS]|with_reducible refine And.intro ?_ ?_|with_reducible exact True.intro|simp (dsimp:=false) only [↓gq,↓stepP,↓stepG,go_sem,hg,c1,hv,hmg,set_entK,hKK,h2s,Int.reduceLE,Int.reduceLT])
          all_goals (try (first|(intro hg;simp [hg];done)|exact of_decide_eq_true rfl|(cases h;done)))
          all_goals (try (intro hg; simp only [hg, Bool.not_false, Bool.not_true, Bool.and_self, Bool.true_and, Bool.and_true, true_and, and_self, imp_self, implies_true]; done))
          refine Pwp.rangeI (sentsD o).length (fun j s => ∃ J, OneI rs J K2 ∧ s = L30b ws rs J K2 (sentsD o) i j) (s0 := L30b ws rs K1 K2 (sentsD o) i 0) (Sub.view V0 (by simp [L30b]) rfl (by simp [L30b,bxC]) (by simp [L30b,bxC])) ⟨K1, o1, rfl⟩ ?_ ?_
          · rintro j s hj ⟨J, hJ, rfl⟩
            obtain ⟨p, hp, hpm⟩ := at_lt (l := o) (i := j) (by rw [sents_len] at hj; exact hj)
            have hgp := sents_get hp
            have c2 := dlt hj
            have w2 := wrap_succ (i := j) (by omega)
            cases hk : (p.2.kind != 14) with
            | true =>
              unfold L30b bxC
              repeat' (first|((first|refine goA rfl fun K hK=>?_|refine goB rfl fun K hK=>?_|refine goC rfl rfl fun K hK=>?_|refine goD rfl rfl fun K hK=>?_);simp (dsimp:=false) only [↓gq,↓stepP,↓stepG,go_sem,hgp,c2,w2,hk])|refine Pwp.seq ?_|refine Pwp.block ?_|(refine Pwp.exit ?_;simp only [thenS,blockS,if_true,if_false,reduceIte,Nat.reduceEqDiff,Nat.add_one_ne_zero,reduceCtorEq])|(refine Pwp.skip ?_;simp only [thenS,blockS])|(refine Pwp.cond rfl True.intro (fun h=>?_) (fun h=>?_)<;>(try (cases h;done))<;>(try simp only [h]))|refine Pwp.ret ?_|(refine hK _ ?_;clear hK K)|(refine hK _ _ rfl ?_;clear hK K)|refine CallG.off ?_|with_reducible refine Or.inl ?_|simp only [thenS,blockS]|with_reducible refine And.intro ?_ ?_|with_reducible exact True.intro|simp (dsimp:=false) only [↓gq,↓stepP,↓stepG,go_sem,hgp,c2,w2,hk])
              all_goals (try (first|(intro hg;simp [hg];done)|exact of_decide_eq_true rfl|(cases h;done)))
              exact ⟨_, Sub.view V0 (by simp [L30b]) rfl (by simp [L30b,bxC]) (by simp [L30b,bxC]), J, hJ, rfl⟩
            | false =>
              obtain ⟨s1, s2, s3⟩ := o2 p hpm (by simpa using hk)
              obtain ⟨g1, g2⟩ := one_said hJ s1 s2 s3
              obtain ⟨w, b, hm1, hbw⟩ : ∃ w b : Bool, mapGet none (.v (.int .i64 p.2.cycle)) (entK J) (.v (.bool false)) = some (.v (.bool w), b) ∧ (b && (w != p.2.yes)) = false := one_get g1
              cases hy : p.2.yes with
              | true =>
                rw [hy] at s3 g2
                have hbw2 : (b && !w) = false := by revert hbw; rw [hy]; cases b <;> cases w <;> simp
                obtain ⟨b3, hm2⟩ := one_yes hJ s1 s2 s3
                unfold L30b bxC
                repeat' (first|((first|refine goA rfl fun K hK=>?_|refine goB rfl fun K hK=>?_|refine goC rfl rfl fun K hK=>?_|refine goD rfl rfl fun K hK=>?_);simp (dsimp:=false) only [↓gq,↓stepP,↓stepG,go_sem,hgp,c2,w2,hk,hm1,hbw2,hy,hm2,set_entK])|refine Pwp.seq ?_|refine Pwp.block ?_|(refine Pwp.exit ?_;simp only [thenS,blockS,if_true,if_false,reduceIte,Nat.reduceEqDiff,Nat.add_one_ne_zero,reduceCtorEq])|(refine Pwp.skip ?_;simp only [thenS,blockS])|(refine Pwp.cond rfl True.intro (fun h=>?_) (fun h=>?_)<;>(try (cases h;done))<;>(try simp only [h]))|refine Pwp.ret ?_|(refine hK _ ?_;clear hK K)|(refine hK _ _ rfl ?_;clear hK K)|refine CallG.off ?_|with_reducible refine Or.inl ?_|simp only [thenS,blockS]|with_reducible refine And.intro ?_ ?_|with_reducible exact True.intro|simp (dsimp:=false) only [↓gq,↓stepP,↓stepG,go_sem,hgp,c2,w2,hk,hm1,hbw2,hy,hm2,set_entK])
                all_goals (try (first|(intro hg;simp [hg];done)|exact of_decide_eq_true rfl|(cases h;done)))
                all_goals (try (intro hg; simp only [hg, Bool.not_false, Bool.not_true, Bool.and_self, Bool.true_and, Bool.and_true, true_and, and_self, imp_self, implies_true]; done))
                exact ⟨_, Sub.view V0 (by simp [L30b]) rfl (by simp [L30b,bxC]) (by simp [L30b,bxC]), _, g2, rfl⟩
              | false =>
                rw [hy] at g2
                obtain ⟨b3, x1, x2, x3, hm2⟩ := one_any hJ p.2.cycle
                have hbw2 : (b && !!w) = false := by revert hbw; rw [hy]; cases b <;> cases w <;> simp
                unfold L30b bxC
                repeat' (first|((first|refine goA rfl fun K hK=>?_|refine goB rfl fun K hK=>?_|refine goC rfl rfl fun K hK=>?_|refine goD rfl rfl fun K hK=>?_);simp (dsimp:=false) only [↓gq,↓stepP,↓stepG,go_sem,hgp,c2,w2,hk,hm1,hbw2,hy,hm2,set_entK])|refine Pwp.seq ?_|refine Pwp.block ?_|(refine Pwp.exit ?_;simp only [thenS,blockS,if_true,if_false,reduceIte,Nat.reduceEqDiff,Nat.add_one_ne_zero,reduceCtorEq])|(refine Pwp.skip ?_;simp only [thenS,blockS])|(refine Pwp.cond rfl True.intro (fun h=>?_) (fun h=>?_)<;>(try (cases h;done))<;>(try simp only [h]))|refine Pwp.ret ?_|(refine hK _ ?_;clear hK K)|(refine hK _ _ rfl ?_;clear hK K)|refine CallG.off ?_|with_reducible refine Or.inl ?_|simp only [thenS,blockS]|with_reducible refine And.intro ?_ ?_|with_reducible exact True.intro|simp (dsimp:=false) only [↓gq,↓stepP,↓stepG,go_sem,hgp,c2,w2,hk,hm1,hbw2,hy,hm2,set_entK])
                all_goals (try (first|(intro hg;simp [hg];done)|exact of_decide_eq_true rfl|(cases h;done)))
                all_goals (try (intro hg; simp only [hg, Bool.not_false, Bool.not_true, Bool.and_self, Bool.true_and, Bool.and_true, true_and, and_self, imp_self, implies_true]; done))
                exact ⟨_, Sub.view V0 (by simp [L30b]) rfl (by simp [L30b,bxC]) (by simp [L30b,bxC]), _, g2, rfl⟩
          · rintro s ⟨J, hJ, rfl⟩
            have c2 := dge (Nat.le_refl (sentsD o).length)
            have hA' : At30 rs J K2 (i + 1) := ⟨k1, hJ, by omega⟩
            unfold L30b bxC
            repeat' (first|((first|refine goA rfl fun K hK=>?_|refine goB rfl fun K hK=>?_|refine goC rfl rfl fun K hK=>?_|refine goD rfl rfl fun K hK=>?_);simp (dsimp:=false) only [↓gq,↓stepP,↓stepG,go_sem,c2])|refine Pwp.seq ?_|refine Pwp.block ?_|(refine Pwp.exit ?_;simp only [thenS,blockS,if_true,if_false,reduceIte,Nat.reduceEqDiff,Nat.add_one_ne_zero,reduceCtorEq])|(refine Pwp.skip ?_;simp only [thenS,blockS])|(refine Pwp.cond rfl True.intro (fun h=>?_) (fun h=>?_)<;>(try (cases h;done))<;>(try simp only [h]))|refine Pwp.ret ?_|(refine hK _ ?_;clear hK K)|(refine hK _ _ rfl ?_;clear hK K)|refine CallG.off ?_|with_reducible refine Or.inl ?_|simp only [thenS,blockS]|with_reducible refine And.intro ?_ ?_|with_reducible exact True.intro|simp (dsimp:=false) only [↓gq,↓stepP,↓stepG,go_sem,c2])
            all_goals (try (first|(intro hg;simp [hg];done)|exact of_decide_eq_true rfl|(cases h;done)))
            intro born clk hbl hbs
            repeat' (first|((first|refine goA rfl fun K hK=>?_|refine goB rfl fun K hK=>?_|refine goC rfl rfl fun K hK=>?_|refine goD rfl rfl fun K hK=>?_);simp (dsimp:=false) only [↓gq,↓stepP,↓stepG,go_sem])|refine Pwp.seq ?_|refine Pwp.block ?_|(refine Pwp.exit ?_;simp only [thenS,blockS,if_true,if_false,reduceIte,Nat.reduceEqDiff,Nat.add_one_ne_zero,reduceCtorEq])|(refine Pwp.skip ?_;simp only [thenS,blockS])|(refine Pwp.cond rfl True.intro (fun h=>?_) (fun h=>?_)<;>(try (cases h;done))<;>(try simp only [h]))|refine Pwp.ret ?_|(refine hK _ ?_;clear hK K)|(refine hK _ _ rfl ?_;clear hK K)|refine CallG.off ?_|with_reducible refine Or.inl ?_|simp only [thenS,blockS]|with_reducible refine And.intro ?_ ?_|with_reducible exact True.intro|simp (dsimp:=false) only [↓gq,↓stepP,↓stepG,go_sem])
            all_goals (try (first|(intro hg;simp [hg];done)|exact of_decide_eq_true rfl|(cases h;done)))
            refine Pwp.rangeM born (fun seen s => s = L30c ws rs J K2 born clk seen i) (s0 := L30c ws rs J K2 born clk [] i) (Sub.view V0 (by simp [L30c]) rfl (by simp [L30c,bxC]) (by simp [L30c,bxC])) rfl ?_
            rintro seen s rfl
            unfold L30c bxC
            repeat' (first|((first|refine goA rfl fun K hK=>?_|refine goB rfl fun K hK=>?_|refine goC rfl rfl fun K hK=>?_|refine goD rfl rfl fun K hK=>?_);simp (dsimp:=false) only [↓gq,↓stepP,↓stepG,go_sem])|refine Pwp.seq ?_|refine Pwp.block ?_|(refine Pwp.exit ?_;simp only [thenS,blockS,if_true,if_false,reduceIte,Nat.reduceEqDiff,Nat.add_one_ne_zero,reduceCtorEq])|(refine Pwp.skip ?_;simp only [thenS,blockS])|(refine Pwp.cond rfl True.intro (fun h=>?_) (fun h=>?_)<;>(try (cases h;done))<;>(try simp only [h]))|refine Pwp.ret ?_|(refine hK _ ?_;clear hK K)|(refine hK _ _ rfl ?_;clear hK K)|refine CallG.off ?_|with_reducible refine Or.inl ?_|simp only [thenS,blockS]|with_reducible refine And.intro ?_ ?_|with_reducible exact True.intro|simp (dsimp:=false) only [↓gq,↓stepP,↓stepG,go_sem])
            all_goals (try (first|(intro hg;simp [hg];done)|exact of_decide_eq_true rfl|(cases h;done)))
            · intro j e z he hb hz
              obtain ⟨n0, d0, rfl⟩ := entK_form he
              repeat' (first|((first|refine goA rfl fun K hK=>?_|refine goB rfl fun K hK=>?_|refine goC rfl rfl fun K hK=>?_|refine goD rfl rfl fun K hK=>?_);simp (dsimp:=false) only [↓gq,↓stepP,↓stepG,go_sem])|refine Pwp.seq ?_|refine Pwp.block ?_|(refine Pwp.exit ?_;simp only [thenS,blockS,if_true,if_false,reduceIte,Nat.reduceEqDiff,Nat.add_one_ne_zero,reduceCtorEq])|(refine Pwp.skip ?_;simp only [thenS,blockS])|(refine Pwp.cond rfl True.intro (fun h=>?_) (fun h=>?_)<;>(try (cases h;done))<;>(try simp only [h]))|refine Pwp.ret ?_|(refine hK _ ?_;clear hK K)|(refine hK _ _ rfl ?_;clear hK K)|refine CallG.off ?_|with_reducible refine Or.inl ?_|simp only [thenS,blockS]|with_reducible refine And.intro ?_ ?_|with_reducible exact True.intro|simp (dsimp:=false) only [↓gq,↓stepP,↓stepG,go_sem])
              all_goals (try (first|(intro hg;simp [hg];done)|exact of_decide_eq_true rfl|(cases h;done)))
              · exact List.mem_of_getElem? hb
              intro j2 e2 he2 hb2
              obtain ⟨n, d, rfl, hnd⟩ := entK_mem he2
              obtain ⟨was, rfl, n1, n2, n3⟩ := hJ.dec n d hnd
              have hcr : (decide (n < 1) || decide ((rs.length : Int) < n)) = false := by rw [Bool.or_eq_false_iff, decide_eq_false_iff_not, decide_eq_false_iff_not]; omega
              have r94 := run94 3 rs n (by omega) k1 (by omega) hcr
              have hdm : atR rs n ∈ rs := List.mem_of_getElem? (atR_some hcr).2.2
              have hdv := hJ.one _ hdm
              have r41 := run41 (atR rs n).ns (by have := (k1 _ hdm).ns; omega) hdv.nin
              unfold runP chD at r94
              cases was with
              | true =>
                simp only [if_true] at n3
                rw [hdv.nul (.inr n3), if_pos (by rfl)] at r41
                rw [n3] at r94
                repeat' (first|((first|refine goA rfl fun K hK=>?_|refine goB rfl fun K hK=>?_|refine goC rfl rfl fun K hK=>?_|refine goD rfl rfl fun K hK=>?_);simp (dsimp:=false) only [↓gq,↓stepP,↓stepG,go_sem,bne_self_eq_false,beq_self_eq_true])|refine Pwp.seq ?_|refine Pwp.block ?_|(refine Pwp.exit ?_;simp only [thenS,blockS,if_true,if_false,reduceIte,Nat.reduceEqDiff,Nat.add_one_ne_zero,reduceCtorEq])|(refine Pwp.skip ?_;simp only [thenS,blockS])|(refine Pwp.cond rfl True.intro (fun h=>?_) (fun h=>?_)<;>(try (cases h;done))<;>(try simp only [h]))|refine Pwp.ret ?_|(refine hK _ ?_;clear hK K)|(refine hK _ _ rfl ?_;clear hK K)|(refine CallK.give (ds:=[.agg [I64 3, .slc 5 (runsC 3 rs)], I64 n]) rfl (r94) (by simp) ?_)|(refine CallK.give (ds:=[.slc 1 ((atR rs n).ns.map I64)]) rfl (r41) (by simp) ?_)|refine CallG.off ?_|with_reducible refine Or.inl ?_|simp only [thenS,blockS]|with_reducible refine And.intro ?_ ?_|with_reducible exact True.intro|simp (dsimp:=false) only [↓gq,↓stepP,↓stepG,go_sem,bne_self_eq_false,beq_self_eq_true])
                all_goals (try (first|(intro hg;simp [hg];done)|exact of_decide_eq_true rfl|(cases h;done)))
                all_goals (try (intro hg; simp only [hg, Bool.not_false, Bool.not_true, Bool.and_self, Bool.true_and, Bool.and_true, true_and, and_self, imp_self, implies_true]; done))
                exact ⟨_, z, Sub.view V0 (by simp [L30c]) rfl (by simp [L30c,bxC]) (by simp [L30c,bxC]), List.mem_of_getElem? hb, hz, rfl⟩
              | false =>
                simp only [Bool.false_eq_true, if_false] at n3
                obtain ⟨x, y, hxy⟩ : ∃ x y, (if fits (sumOf (atR rs n).ns) = true then [I64 (sumOf (atR rs n).ns), I64 0] else [I64 0, I64 10]) = [I64 x, I64 y] := by split <;> exact ⟨_, _, rfl⟩
                rw [hxy] at r41
                rw [n3] at r94
                repeat' (first|((first|refine goA rfl fun K hK=>?_|refine goB rfl fun K hK=>?_|refine goC rfl rfl fun K hK=>?_|refine goD rfl rfl fun K hK=>?_);simp (dsimp:=false) only [↓gq,↓stepP,↓stepG,go_sem,bne_self_eq_false,beq_self_eq_true])|refine Pwp.seq ?_|refine Pwp.block ?_|(refine Pwp.exit ?_;simp only [thenS,blockS,if_true,if_false,reduceIte,Nat.reduceEqDiff,Nat.add_one_ne_zero,reduceCtorEq])|(refine Pwp.skip ?_;simp only [thenS,blockS])|(refine Pwp.cond rfl True.intro (fun h=>?_) (fun h=>?_)<;>(try (cases h;done))<;>(try simp only [h]))|refine Pwp.ret ?_|(refine hK _ ?_;clear hK K)|(refine hK _ _ rfl ?_;clear hK K)|(refine CallK.give (ds:=[.agg [I64 3, .slc 5 (runsC 3 rs)], I64 n]) rfl (r94) (by simp) ?_)|(refine CallK.give (ds:=[.slc 1 ((atR rs n).ns.map I64)]) rfl (r41) (by simp) ?_)|refine CallG.off ?_|with_reducible refine Or.inl ?_|simp only [thenS,blockS]|with_reducible refine And.intro ?_ ?_|with_reducible exact True.intro|simp (dsimp:=false) only [↓gq,↓stepP,↓stepG,go_sem,bne_self_eq_false,beq_self_eq_true])
                all_goals (try (first|(intro hg;simp [hg];done)|exact of_decide_eq_true rfl|(cases h;done)))
                all_goals (try (intro hg; simp only [hg, Bool.not_false, Bool.not_true, Bool.and_self, Bool.true_and, Bool.and_true, true_and, and_self, imp_self, implies_true]; done))
                exact ⟨_, z, Sub.view V0 (by simp [L30c]) rfl (by simp [L30c,bxC]) (by simp [L30c,bxC]), List.mem_of_getElem? hb, hz, rfl⟩
            · intro hseen
              repeat' (first|((first|refine goA rfl fun K hK=>?_|refine goB rfl fun K hK=>?_|refine goC rfl rfl fun K hK=>?_|refine goD rfl rfl fun K hK=>?_);simp (dsimp:=false) only [↓gq,↓stepP,↓stepG,go_sem,w1])|refine Pwp.seq ?_|refine Pwp.block ?_|(refine Pwp.exit ?_;simp only [thenS,blockS,if_true,if_false,reduceIte,Nat.reduceEqDiff,Nat.add_one_ne_zero,reduceCtorEq])|(refine Pwp.skip ?_;simp only [thenS,blockS])|(refine Pwp.cond rfl True.intro (fun h=>?_) (fun h=>?_)<;>(try (cases h;done))<;>(try simp only [h]))|refine Pwp.ret ?_|(refine hK _ ?_;clear hK K)|(refine hK _ _ rfl ?_;clear hK K)|refine CallG.off ?_|with_reducible refine Or.inl ?_|simp only [thenS,blockS]|with_reducible refine And.intro ?_ ?_|with_reducible exact True.intro|simp (dsimp:=false) only [↓gq,↓stepP,↓stepG,go_sem,w1])
              all_goals (try (first|(intro hg;simp [hg];done)|exact of_decide_eq_true rfl|(cases h;done)))
              exact ⟨_, Sub.view V0 (by simp [L30a]) rfl (by simp [L30a,bxC]) (by simp [L30a,bxC]), rs, J, K2, hA', rfl⟩
        · have hav : arrV (votB (atR rs0 m.cycle) (Int.toNat 1)).vot = .agg [.v (.bool ((atR rs0 m.cycle).vot.getD 0 false)), .v (.bool true), .v (.bool ((atR rs0 m.cycle).vot.getD 2 false))] := arr_set1 (k0.vot)
          rw [hav] at hK
          rw [hK] at o1
          generalize hKK : setK m.cycle (.agg [.v (.bool ((atR rs0 m.cycle).vot.getD 0 false)), .v (.bool true), .v (.bool ((atR rs0 m.cycle).vot.getD 2 false))]) K0 = K2 at *
          unfold L30a bxC
          repeat' (first|((first|refine goA rfl fun K hK=>?_|refine goB rfl fun K hK=>?_|refine goC rfl rfl fun K hK=>?_|refine goD rfl rfl fun K hK=>?_);simp (dsimp:=false) only [↓gq,↓stepP,↓stepG,go_sem,hg,c1,hv,hmg,set_entK,hKK,h2s,Int.reduceLE,Int.reduceLT])|refine Pwp.seq ?_|refine Pwp.block ?_|(refine Pwp.exit ?_;simp only [thenS,blockS,if_true,if_false,reduceIte,Nat.reduceEqDiff,Nat.add_one_ne_zero,reduceCtorEq])|(refine Pwp.skip ?_;simp only [thenS,blockS])|(refine Pwp.cond rfl True.intro (fun h=>?_) (fun h=>?_)<;>(try (cases h;done))<;>(try simp only [h]))|refine Pwp.ret ?_|(refine hK _ ?_;clear hK K)|(refine hK _ _ rfl ?_;clear hK K)|(refine CallK.give (ds:=[.agg [I64 3, .slc 5 (runsC 3 rs0)], I64 m.cycle]) rfl (r94) (by simp) ?_)|(refine CallK.give (ds:=[.agg [I64 3, .slc 5 (runsC 3 rs0)], .agg [I64 m.kind, I64 m.seller, I64 m.number, I64 m.buyer, I64 m.currency, I64 m.round, I64 m.cycle, I64 m.amount, .v (.bool m.yes), .slc 4 (linesD m.ls), .slc 1 (m.ns.map I64)], I64 1]) rfl (r91) (by simp) ?_)|refine CallG.off ?_|with_reducible refine Or.inl ?_|simp only [thenS,blockS]|with_reducible refine And.intro ?_ ?_|with_reducible exact True.intro|simp (dsimp:=false) only [↓gq,↓stepP,↓stepG,go_sem,hg,c1,hv,hmg,set_entK,hKK,h2s,Int.reduceLE,Int.reduceLT])
          all_goals (try (first|(intro hg;simp [hg];done)|exact of_decide_eq_true rfl|(cases h;done)))
          all_goals (try (intro hg; simp only [hg, Bool.not_false, Bool.not_true, Bool.and_self, Bool.true_and, Bool.and_true, true_and, and_self, imp_self, implies_true]; done))
          refine Pwp.rangeI (sentsD o).length (fun j s => ∃ J, OneI rs J K2 ∧ s = L30b ws rs J K2 (sentsD o) i j) (s0 := L30b ws rs K1 K2 (sentsD o) i 0) (Sub.view V0 (by simp [L30b]) rfl (by simp [L30b,bxC]) (by simp [L30b,bxC])) ⟨K1, o1, rfl⟩ ?_ ?_
          · rintro j s hj ⟨J, hJ, rfl⟩
            obtain ⟨p, hp, hpm⟩ := at_lt (l := o) (i := j) (by rw [sents_len] at hj; exact hj)
            have hgp := sents_get hp
            have c2 := dlt hj
            have w2 := wrap_succ (i := j) (by omega)
            cases hk : (p.2.kind != 14) with
            | true =>
              unfold L30b bxC
              repeat' (first|((first|refine goA rfl fun K hK=>?_|refine goB rfl fun K hK=>?_|refine goC rfl rfl fun K hK=>?_|refine goD rfl rfl fun K hK=>?_);simp (dsimp:=false) only [↓gq,↓stepP,↓stepG,go_sem,hgp,c2,w2,hk])|refine Pwp.seq ?_|refine Pwp.block ?_|(refine Pwp.exit ?_;simp only [thenS,blockS,if_true,if_false,reduceIte,Nat.reduceEqDiff,Nat.add_one_ne_zero,reduceCtorEq])|(refine Pwp.skip ?_;simp only [thenS,blockS])|(refine Pwp.cond rfl True.intro (fun h=>?_) (fun h=>?_)<;>(try (cases h;done))<;>(try simp only [h]))|refine Pwp.ret ?_|(refine hK _ ?_;clear hK K)|(refine hK _ _ rfl ?_;clear hK K)|refine CallG.off ?_|with_reducible refine Or.inl ?_|simp only [thenS,blockS]|with_reducible refine And.intro ?_ ?_|with_reducible exact True.intro|simp (dsimp:=false) only [↓gq,↓stepP,↓stepG,go_sem,hgp,c2,w2,hk])
              all_goals (try (first|(intro hg;simp [hg];done)|exact of_decide_eq_true rfl|(cases h;done)))
              exact ⟨_, Sub.view V0 (by simp [L30b]) rfl (by simp [L30b,bxC]) (by simp [L30b,bxC]), J, hJ, rfl⟩
            | false =>
              obtain ⟨s1, s2, s3⟩ := o2 p hpm (by simpa using hk)
              obtain ⟨g1, g2⟩ := one_said hJ s1 s2 s3
              obtain ⟨w, b, hm1, hbw⟩ : ∃ w b : Bool, mapGet none (.v (.int .i64 p.2.cycle)) (entK J) (.v (.bool false)) = some (.v (.bool w), b) ∧ (b && (w != p.2.yes)) = false := one_get g1
              cases hy : p.2.yes with
              | true =>
                rw [hy] at s3 g2
                have hbw2 : (b && !w) = false := by revert hbw; rw [hy]; cases b <;> cases w <;> simp
                obtain ⟨b3, hm2⟩ := one_yes hJ s1 s2 s3
                unfold L30b bxC
                repeat' (first|((first|refine goA rfl fun K hK=>?_|refine goB rfl fun K hK=>?_|refine goC rfl rfl fun K hK=>?_|refine goD rfl rfl fun K hK=>?_);simp (dsimp:=false) only [↓gq,↓stepP,↓stepG,go_sem,hgp,c2,w2,hk,hm1,hbw2,hy,hm2,set_entK])|refine Pwp.seq ?_|refine Pwp.block ?_|(refine Pwp.exit ?_;simp only [thenS,blockS,if_true,if_false,reduceIte,Nat.reduceEqDiff,Nat.add_one_ne_zero,reduceCtorEq])|(refine Pwp.skip ?_;simp only [thenS,blockS])|(refine Pwp.cond rfl True.intro (fun h=>?_) (fun h=>?_)<;>(try (cases h;done))<;>(try simp only [h]))|refine Pwp.ret ?_|(refine hK _ ?_;clear hK K)|(refine hK _ _ rfl ?_;clear hK K)|refine CallG.off ?_|with_reducible refine Or.inl ?_|simp only [thenS,blockS]|with_reducible refine And.intro ?_ ?_|with_reducible exact True.intro|simp (dsimp:=false) only [↓gq,↓stepP,↓stepG,go_sem,hgp,c2,w2,hk,hm1,hbw2,hy,hm2,set_entK])
                all_goals (try (first|(intro hg;simp [hg];done)|exact of_decide_eq_true rfl|(cases h;done)))
                all_goals (try (intro hg; simp only [hg, Bool.not_false, Bool.not_true, Bool.and_self, Bool.true_and, Bool.and_true, true_and, and_self, imp_self, implies_true]; done))
                exact ⟨_, Sub.view V0 (by simp [L30b]) rfl (by simp [L30b,bxC]) (by simp [L30b,bxC]), _, g2, rfl⟩
              | false =>
                rw [hy] at g2
                obtain ⟨b3, x1, x2, x3, hm2⟩ := one_any hJ p.2.cycle
                have hbw2 : (b && !!w) = false := by revert hbw; rw [hy]; cases b <;> cases w <;> simp
                unfold L30b bxC
                repeat' (first|((first|refine goA rfl fun K hK=>?_|refine goB rfl fun K hK=>?_|refine goC rfl rfl fun K hK=>?_|refine goD rfl rfl fun K hK=>?_);simp (dsimp:=false) only [↓gq,↓stepP,↓stepG,go_sem,hgp,c2,w2,hk,hm1,hbw2,hy,hm2,set_entK])|refine Pwp.seq ?_|refine Pwp.block ?_|(refine Pwp.exit ?_;simp only [thenS,blockS,if_true,if_false,reduceIte,Nat.reduceEqDiff,Nat.add_one_ne_zero,reduceCtorEq])|(refine Pwp.skip ?_;simp only [thenS,blockS])|(refine Pwp.cond rfl True.intro (fun h=>?_) (fun h=>?_)<;>(try (cases h;done))<;>(try simp only [h]))|refine Pwp.ret ?_|(refine hK _ ?_;clear hK K)|(refine hK _ _ rfl ?_;clear hK K)|refine CallG.off ?_|with_reducible refine Or.inl ?_|simp only [thenS,blockS]|with_reducible refine And.intro ?_ ?_|with_reducible exact True.intro|simp (dsimp:=false) only [↓gq,↓stepP,↓stepG,go_sem,hgp,c2,w2,hk,hm1,hbw2,hy,hm2,set_entK])
                all_goals (try (first|(intro hg;simp [hg];done)|exact of_decide_eq_true rfl|(cases h;done)))
                all_goals (try (intro hg; simp only [hg, Bool.not_false, Bool.not_true, Bool.and_self, Bool.true_and, Bool.and_true, true_and, and_self, imp_self, implies_true]; done))
                exact ⟨_, Sub.view V0 (by simp [L30b]) rfl (by simp [L30b,bxC]) (by simp [L30b,bxC]), _, g2, rfl⟩
          · rintro s ⟨J, hJ, rfl⟩
            have c2 := dge (Nat.le_refl (sentsD o).length)
            have hA' : At30 rs J K2 (i + 1) := ⟨k1, hJ, by omega⟩
            unfold L30b bxC
            repeat' (first|((first|refine goA rfl fun K hK=>?_|refine goB rfl fun K hK=>?_|refine goC rfl rfl fun K hK=>?_|refine goD rfl rfl fun K hK=>?_);simp (dsimp:=false) only [↓gq,↓stepP,↓stepG,go_sem,c2])|refine Pwp.seq ?_|refine Pwp.block ?_|(refine Pwp.exit ?_;simp only [thenS,blockS,if_true,if_false,reduceIte,Nat.reduceEqDiff,Nat.add_one_ne_zero,reduceCtorEq])|(refine Pwp.skip ?_;simp only [thenS,blockS])|(refine Pwp.cond rfl True.intro (fun h=>?_) (fun h=>?_)<;>(try (cases h;done))<;>(try simp only [h]))|refine Pwp.ret ?_|(refine hK _ ?_;clear hK K)|(refine hK _ _ rfl ?_;clear hK K)|refine CallG.off ?_|with_reducible refine Or.inl ?_|simp only [thenS,blockS]|with_reducible refine And.intro ?_ ?_|with_reducible exact True.intro|simp (dsimp:=false) only [↓gq,↓stepP,↓stepG,go_sem,c2])
            all_goals (try (first|(intro hg;simp [hg];done)|exact of_decide_eq_true rfl|(cases h;done)))
            intro born clk hbl hbs
            repeat' (first|((first|refine goA rfl fun K hK=>?_|refine goB rfl fun K hK=>?_|refine goC rfl rfl fun K hK=>?_|refine goD rfl rfl fun K hK=>?_);simp (dsimp:=false) only [↓gq,↓stepP,↓stepG,go_sem])|refine Pwp.seq ?_|refine Pwp.block ?_|(refine Pwp.exit ?_;simp only [thenS,blockS,if_true,if_false,reduceIte,Nat.reduceEqDiff,Nat.add_one_ne_zero,reduceCtorEq])|(refine Pwp.skip ?_;simp only [thenS,blockS])|(refine Pwp.cond rfl True.intro (fun h=>?_) (fun h=>?_)<;>(try (cases h;done))<;>(try simp only [h]))|refine Pwp.ret ?_|(refine hK _ ?_;clear hK K)|(refine hK _ _ rfl ?_;clear hK K)|refine CallG.off ?_|with_reducible refine Or.inl ?_|simp only [thenS,blockS]|with_reducible refine And.intro ?_ ?_|with_reducible exact True.intro|simp (dsimp:=false) only [↓gq,↓stepP,↓stepG,go_sem])
            all_goals (try (first|(intro hg;simp [hg];done)|exact of_decide_eq_true rfl|(cases h;done)))
            refine Pwp.rangeM born (fun seen s => s = L30c ws rs J K2 born clk seen i) (s0 := L30c ws rs J K2 born clk [] i) (Sub.view V0 (by simp [L30c]) rfl (by simp [L30c,bxC]) (by simp [L30c,bxC])) rfl ?_
            rintro seen s rfl
            unfold L30c bxC
            repeat' (first|((first|refine goA rfl fun K hK=>?_|refine goB rfl fun K hK=>?_|refine goC rfl rfl fun K hK=>?_|refine goD rfl rfl fun K hK=>?_);simp (dsimp:=false) only [↓gq,↓stepP,↓stepG,go_sem])|refine Pwp.seq ?_|refine Pwp.block ?_|(refine Pwp.exit ?_;simp only [thenS,blockS,if_true,if_false,reduceIte,Nat.reduceEqDiff,Nat.add_one_ne_zero,reduceCtorEq])|(refine Pwp.skip ?_;simp only [thenS,blockS])|(refine Pwp.cond rfl True.intro (fun h=>?_) (fun h=>?_)<;>(try (cases h;done))<;>(try simp only [h]))|refine Pwp.ret ?_|(refine hK _ ?_;clear hK K)|(refine hK _ _ rfl ?_;clear hK K)|refine CallG.off ?_|with_reducible refine Or.inl ?_|simp only [thenS,blockS]|with_reducible refine And.intro ?_ ?_|with_reducible exact True.intro|simp (dsimp:=false) only [↓gq,↓stepP,↓stepG,go_sem])
            all_goals (try (first|(intro hg;simp [hg];done)|exact of_decide_eq_true rfl|(cases h;done)))
            · intro j e z he hb hz
              obtain ⟨n0, d0, rfl⟩ := entK_form he
              repeat' (first|((first|refine goA rfl fun K hK=>?_|refine goB rfl fun K hK=>?_|refine goC rfl rfl fun K hK=>?_|refine goD rfl rfl fun K hK=>?_);simp (dsimp:=false) only [↓gq,↓stepP,↓stepG,go_sem])|refine Pwp.seq ?_|refine Pwp.block ?_|(refine Pwp.exit ?_;simp only [thenS,blockS,if_true,if_false,reduceIte,Nat.reduceEqDiff,Nat.add_one_ne_zero,reduceCtorEq])|(refine Pwp.skip ?_;simp only [thenS,blockS])|(refine Pwp.cond rfl True.intro (fun h=>?_) (fun h=>?_)<;>(try (cases h;done))<;>(try simp only [h]))|refine Pwp.ret ?_|(refine hK _ ?_;clear hK K)|(refine hK _ _ rfl ?_;clear hK K)|refine CallG.off ?_|with_reducible refine Or.inl ?_|simp only [thenS,blockS]|with_reducible refine And.intro ?_ ?_|with_reducible exact True.intro|simp (dsimp:=false) only [↓gq,↓stepP,↓stepG,go_sem])
              all_goals (try (first|(intro hg;simp [hg];done)|exact of_decide_eq_true rfl|(cases h;done)))
              · exact List.mem_of_getElem? hb
              intro j2 e2 he2 hb2
              obtain ⟨n, d, rfl, hnd⟩ := entK_mem he2
              obtain ⟨was, rfl, n1, n2, n3⟩ := hJ.dec n d hnd
              have hcr : (decide (n < 1) || decide ((rs.length : Int) < n)) = false := by rw [Bool.or_eq_false_iff, decide_eq_false_iff_not, decide_eq_false_iff_not]; omega
              have r94 := run94 3 rs n (by omega) k1 (by omega) hcr
              have hdm : atR rs n ∈ rs := List.mem_of_getElem? (atR_some hcr).2.2
              have hdv := hJ.one _ hdm
              have r41 := run41 (atR rs n).ns (by have := (k1 _ hdm).ns; omega) hdv.nin
              unfold runP chD at r94
              cases was with
              | true =>
                simp only [if_true] at n3
                rw [hdv.nul (.inr n3), if_pos (by rfl)] at r41
                rw [n3] at r94
                repeat' (first|((first|refine goA rfl fun K hK=>?_|refine goB rfl fun K hK=>?_|refine goC rfl rfl fun K hK=>?_|refine goD rfl rfl fun K hK=>?_);simp (dsimp:=false) only [↓gq,↓stepP,↓stepG,go_sem,bne_self_eq_false,beq_self_eq_true])|refine Pwp.seq ?_|refine Pwp.block ?_|(refine Pwp.exit ?_;simp only [thenS,blockS,if_true,if_false,reduceIte,Nat.reduceEqDiff,Nat.add_one_ne_zero,reduceCtorEq])|(refine Pwp.skip ?_;simp only [thenS,blockS])|(refine Pwp.cond rfl True.intro (fun h=>?_) (fun h=>?_)<;>(try (cases h;done))<;>(try simp only [h]))|refine Pwp.ret ?_|(refine hK _ ?_;clear hK K)|(refine hK _ _ rfl ?_;clear hK K)|(refine CallK.give (ds:=[.agg [I64 3, .slc 5 (runsC 3 rs)], I64 n]) rfl (r94) (by simp) ?_)|(refine CallK.give (ds:=[.slc 1 ((atR rs n).ns.map I64)]) rfl (r41) (by simp) ?_)|refine CallG.off ?_|with_reducible refine Or.inl ?_|simp only [thenS,blockS]|with_reducible refine And.intro ?_ ?_|with_reducible exact True.intro|simp (dsimp:=false) only [↓gq,↓stepP,↓stepG,go_sem,bne_self_eq_false,beq_self_eq_true])
                all_goals (try (first|(intro hg;simp [hg];done)|exact of_decide_eq_true rfl|(cases h;done)))
                all_goals (try (intro hg; simp only [hg, Bool.not_false, Bool.not_true, Bool.and_self, Bool.true_and, Bool.and_true, true_and, and_self, imp_self, implies_true]; done))
                exact ⟨_, z, Sub.view V0 (by simp [L30c]) rfl (by simp [L30c,bxC]) (by simp [L30c,bxC]), List.mem_of_getElem? hb, hz, rfl⟩
              | false =>
                simp only [Bool.false_eq_true, if_false] at n3
                obtain ⟨x, y, hxy⟩ : ∃ x y, (if fits (sumOf (atR rs n).ns) = true then [I64 (sumOf (atR rs n).ns), I64 0] else [I64 0, I64 10]) = [I64 x, I64 y] := by split <;> exact ⟨_, _, rfl⟩
                rw [hxy] at r41
                rw [n3] at r94
                repeat' (first|((first|refine goA rfl fun K hK=>?_|refine goB rfl fun K hK=>?_|refine goC rfl rfl fun K hK=>?_|refine goD rfl rfl fun K hK=>?_);simp (dsimp:=false) only [↓gq,↓stepP,↓stepG,go_sem,bne_self_eq_false,beq_self_eq_true])|refine Pwp.seq ?_|refine Pwp.block ?_|(refine Pwp.exit ?_;simp only [thenS,blockS,if_true,if_false,reduceIte,Nat.reduceEqDiff,Nat.add_one_ne_zero,reduceCtorEq])|(refine Pwp.skip ?_;simp only [thenS,blockS])|(refine Pwp.cond rfl True.intro (fun h=>?_) (fun h=>?_)<;>(try (cases h;done))<;>(try simp only [h]))|refine Pwp.ret ?_|(refine hK _ ?_;clear hK K)|(refine hK _ _ rfl ?_;clear hK K)|(refine CallK.give (ds:=[.agg [I64 3, .slc 5 (runsC 3 rs)], I64 n]) rfl (r94) (by simp) ?_)|(refine CallK.give (ds:=[.slc 1 ((atR rs n).ns.map I64)]) rfl (r41) (by simp) ?_)|refine CallG.off ?_|with_reducible refine Or.inl ?_|simp only [thenS,blockS]|with_reducible refine And.intro ?_ ?_|with_reducible exact True.intro|simp (dsimp:=false) only [↓gq,↓stepP,↓stepG,go_sem,bne_self_eq_false,beq_self_eq_true])
                all_goals (try (first|(intro hg;simp [hg];done)|exact of_decide_eq_true rfl|(cases h;done)))
                all_goals (try (intro hg; simp only [hg, Bool.not_false, Bool.not_true, Bool.and_self, Bool.true_and, Bool.and_true, true_and, and_self, imp_self, implies_true]; done))
                exact ⟨_, z, Sub.view V0 (by simp [L30c]) rfl (by simp [L30c,bxC]) (by simp [L30c,bxC]), List.mem_of_getElem? hb, hz, rfl⟩
            · intro hseen
              repeat' (first|((first|refine goA rfl fun K hK=>?_|refine goB rfl fun K hK=>?_|refine goC rfl rfl fun K hK=>?_|refine goD rfl rfl fun K hK=>?_);simp (dsimp:=false) only [↓gq,↓stepP,↓stepG,go_sem,w1])|refine Pwp.seq ?_|refine Pwp.block ?_|(refine Pwp.exit ?_;simp only [thenS,blockS,if_true,if_false,reduceIte,Nat.reduceEqDiff,Nat.add_one_ne_zero,reduceCtorEq])|(refine Pwp.skip ?_;simp only [thenS,blockS])|(refine Pwp.cond rfl True.intro (fun h=>?_) (fun h=>?_)<;>(try (cases h;done))<;>(try simp only [h]))|refine Pwp.ret ?_|(refine hK _ ?_;clear hK K)|(refine hK _ _ rfl ?_;clear hK K)|refine CallG.off ?_|with_reducible refine Or.inl ?_|simp only [thenS,blockS]|with_reducible refine And.intro ?_ ?_|with_reducible exact True.intro|simp (dsimp:=false) only [↓gq,↓stepP,↓stepG,go_sem,w1])
              all_goals (try (first|(intro hg;simp [hg];done)|exact of_decide_eq_true rfl|(cases h;done)))
              exact ⟨_, Sub.view V0 (by simp [L30a]) rfl (by simp [L30a,bxC]) (by simp [L30a,bxC]), rs, J, K2, hA', rfl⟩
        · have hav : arrV (votB (atR rs0 m.cycle) (Int.toNat 2)).vot = .agg [.v (.bool ((atR rs0 m.cycle).vot.getD 0 false)), .v (.bool ((atR rs0 m.cycle).vot.getD 1 false)), .v (.bool true)] := arr_set2 (k0.vot)
          rw [hav] at hK
          rw [hK] at o1
          generalize hKK : setK m.cycle (.agg [.v (.bool ((atR rs0 m.cycle).vot.getD 0 false)), .v (.bool ((atR rs0 m.cycle).vot.getD 1 false)), .v (.bool true)]) K0 = K2 at *
          unfold L30a bxC
          repeat' (first|((first|refine goA rfl fun K hK=>?_|refine goB rfl fun K hK=>?_|refine goC rfl rfl fun K hK=>?_|refine goD rfl rfl fun K hK=>?_);simp (dsimp:=false) only [↓gq,↓stepP,↓stepG,go_sem,hg,c1,hv,hmg,set_entK,hKK,h2s,Int.reduceLE,Int.reduceLT])|refine Pwp.seq ?_|refine Pwp.block ?_|(refine Pwp.exit ?_;simp only [thenS,blockS,if_true,if_false,reduceIte,Nat.reduceEqDiff,Nat.add_one_ne_zero,reduceCtorEq])|(refine Pwp.skip ?_;simp only [thenS,blockS])|(refine Pwp.cond rfl True.intro (fun h=>?_) (fun h=>?_)<;>(try (cases h;done))<;>(try simp only [h]))|refine Pwp.ret ?_|(refine hK _ ?_;clear hK K)|(refine hK _ _ rfl ?_;clear hK K)|(refine CallK.give (ds:=[.agg [I64 3, .slc 5 (runsC 3 rs0)], I64 m.cycle]) rfl (r94) (by simp) ?_)|(refine CallK.give (ds:=[.agg [I64 3, .slc 5 (runsC 3 rs0)], .agg [I64 m.kind, I64 m.seller, I64 m.number, I64 m.buyer, I64 m.currency, I64 m.round, I64 m.cycle, I64 m.amount, .v (.bool m.yes), .slc 4 (linesD m.ls), .slc 1 (m.ns.map I64)], I64 2]) rfl (r91) (by simp) ?_)|refine CallG.off ?_|with_reducible refine Or.inl ?_|simp only [thenS,blockS]|with_reducible refine And.intro ?_ ?_|with_reducible exact True.intro|simp (dsimp:=false) only [↓gq,↓stepP,↓stepG,go_sem,hg,c1,hv,hmg,set_entK,hKK,h2s,Int.reduceLE,Int.reduceLT])
          all_goals (try (first|(intro hg;simp [hg];done)|exact of_decide_eq_true rfl|(cases h;done)))
          all_goals (try (intro hg; simp only [hg, Bool.not_false, Bool.not_true, Bool.and_self, Bool.true_and, Bool.and_true, true_and, and_self, imp_self, implies_true]; done))
          refine Pwp.rangeI (sentsD o).length (fun j s => ∃ J, OneI rs J K2 ∧ s = L30b ws rs J K2 (sentsD o) i j) (s0 := L30b ws rs K1 K2 (sentsD o) i 0) (Sub.view V0 (by simp [L30b]) rfl (by simp [L30b,bxC]) (by simp [L30b,bxC])) ⟨K1, o1, rfl⟩ ?_ ?_
          · rintro j s hj ⟨J, hJ, rfl⟩
            obtain ⟨p, hp, hpm⟩ := at_lt (l := o) (i := j) (by rw [sents_len] at hj; exact hj)
            have hgp := sents_get hp
            have c2 := dlt hj
            have w2 := wrap_succ (i := j) (by omega)
            cases hk : (p.2.kind != 14) with
            | true =>
              unfold L30b bxC
              repeat' (first|((first|refine goA rfl fun K hK=>?_|refine goB rfl fun K hK=>?_|refine goC rfl rfl fun K hK=>?_|refine goD rfl rfl fun K hK=>?_);simp (dsimp:=false) only [↓gq,↓stepP,↓stepG,go_sem,hgp,c2,w2,hk])|refine Pwp.seq ?_|refine Pwp.block ?_|(refine Pwp.exit ?_;simp only [thenS,blockS,if_true,if_false,reduceIte,Nat.reduceEqDiff,Nat.add_one_ne_zero,reduceCtorEq])|(refine Pwp.skip ?_;simp only [thenS,blockS])|(refine Pwp.cond rfl True.intro (fun h=>?_) (fun h=>?_)<;>(try (cases h;done))<;>(try simp only [h]))|refine Pwp.ret ?_|(refine hK _ ?_;clear hK K)|(refine hK _ _ rfl ?_;clear hK K)|refine CallG.off ?_|with_reducible refine Or.inl ?_|simp only [thenS,blockS]|with_reducible refine And.intro ?_ ?_|with_reducible exact True.intro|simp (dsimp:=false) only [↓gq,↓stepP,↓stepG,go_sem,hgp,c2,w2,hk])
              all_goals (try (first|(intro hg;simp [hg];done)|exact of_decide_eq_true rfl|(cases h;done)))
              exact ⟨_, Sub.view V0 (by simp [L30b]) rfl (by simp [L30b,bxC]) (by simp [L30b,bxC]), J, hJ, rfl⟩
            | false =>
              obtain ⟨s1, s2, s3⟩ := o2 p hpm (by simpa using hk)
              obtain ⟨g1, g2⟩ := one_said hJ s1 s2 s3
              obtain ⟨w, b, hm1, hbw⟩ : ∃ w b : Bool, mapGet none (.v (.int .i64 p.2.cycle)) (entK J) (.v (.bool false)) = some (.v (.bool w), b) ∧ (b && (w != p.2.yes)) = false := one_get g1
              cases hy : p.2.yes with
              | true =>
                rw [hy] at s3 g2
                have hbw2 : (b && !w) = false := by revert hbw; rw [hy]; cases b <;> cases w <;> simp
                obtain ⟨b3, hm2⟩ := one_yes hJ s1 s2 s3
                unfold L30b bxC
                repeat' (first|((first|refine goA rfl fun K hK=>?_|refine goB rfl fun K hK=>?_|refine goC rfl rfl fun K hK=>?_|refine goD rfl rfl fun K hK=>?_);simp (dsimp:=false) only [↓gq,↓stepP,↓stepG,go_sem,hgp,c2,w2,hk,hm1,hbw2,hy,hm2,set_entK])|refine Pwp.seq ?_|refine Pwp.block ?_|(refine Pwp.exit ?_;simp only [thenS,blockS,if_true,if_false,reduceIte,Nat.reduceEqDiff,Nat.add_one_ne_zero,reduceCtorEq])|(refine Pwp.skip ?_;simp only [thenS,blockS])|(refine Pwp.cond rfl True.intro (fun h=>?_) (fun h=>?_)<;>(try (cases h;done))<;>(try simp only [h]))|refine Pwp.ret ?_|(refine hK _ ?_;clear hK K)|(refine hK _ _ rfl ?_;clear hK K)|refine CallG.off ?_|with_reducible refine Or.inl ?_|simp only [thenS,blockS]|with_reducible refine And.intro ?_ ?_|with_reducible exact True.intro|simp (dsimp:=false) only [↓gq,↓stepP,↓stepG,go_sem,hgp,c2,w2,hk,hm1,hbw2,hy,hm2,set_entK])
                all_goals (try (first|(intro hg;simp [hg];done)|exact of_decide_eq_true rfl|(cases h;done)))
                all_goals (try (intro hg; simp only [hg, Bool.not_false, Bool.not_true, Bool.and_self, Bool.true_and, Bool.and_true, true_and, and_self, imp_self, implies_true]; done))
                exact ⟨_, Sub.view V0 (by simp [L30b]) rfl (by simp [L30b,bxC]) (by simp [L30b,bxC]), _, g2, rfl⟩
              | false =>
                rw [hy] at g2
                obtain ⟨b3, x1, x2, x3, hm2⟩ := one_any hJ p.2.cycle
                have hbw2 : (b && !!w) = false := by revert hbw; rw [hy]; cases b <;> cases w <;> simp
                unfold L30b bxC
                repeat' (first|((first|refine goA rfl fun K hK=>?_|refine goB rfl fun K hK=>?_|refine goC rfl rfl fun K hK=>?_|refine goD rfl rfl fun K hK=>?_);simp (dsimp:=false) only [↓gq,↓stepP,↓stepG,go_sem,hgp,c2,w2,hk,hm1,hbw2,hy,hm2,set_entK])|refine Pwp.seq ?_|refine Pwp.block ?_|(refine Pwp.exit ?_;simp only [thenS,blockS,if_true,if_false,reduceIte,Nat.reduceEqDiff,Nat.add_one_ne_zero,reduceCtorEq])|(refine Pwp.skip ?_;simp only [thenS,blockS])|(refine Pwp.cond rfl True.intro (fun h=>?_) (fun h=>?_)<;>(try (cases h;done))<;>(try simp only [h]))|refine Pwp.ret ?_|(refine hK _ ?_;clear hK K)|(refine hK _ _ rfl ?_;clear hK K)|refine CallG.off ?_|with_reducible refine Or.inl ?_|simp only [thenS,blockS]|with_reducible refine And.intro ?_ ?_|with_reducible exact True.intro|simp (dsimp:=false) only [↓gq,↓stepP,↓stepG,go_sem,hgp,c2,w2,hk,hm1,hbw2,hy,hm2,set_entK])
                all_goals (try (first|(intro hg;simp [hg];done)|exact of_decide_eq_true rfl|(cases h;done)))
                all_goals (try (intro hg; simp only [hg, Bool.not_false, Bool.not_true, Bool.and_self, Bool.true_and, Bool.and_true, true_and, and_self, imp_self, implies_true]; done))
                exact ⟨_, Sub.view V0 (by simp [L30b]) rfl (by simp [L30b,bxC]) (by simp [L30b,bxC]), _, g2, rfl⟩
          · rintro s ⟨J, hJ, rfl⟩
            have c2 := dge (Nat.le_refl (sentsD o).length)
            have hA' : At30 rs J K2 (i + 1) := ⟨k1, hJ, by omega⟩
            unfold L30b bxC
            repeat' (first|((first|refine goA rfl fun K hK=>?_|refine goB rfl fun K hK=>?_|refine goC rfl rfl fun K hK=>?_|refine goD rfl rfl fun K hK=>?_);simp (dsimp:=false) only [↓gq,↓stepP,↓stepG,go_sem,c2])|refine Pwp.seq ?_|refine Pwp.block ?_|(refine Pwp.exit ?_;simp only [thenS,blockS,if_true,if_false,reduceIte,Nat.reduceEqDiff,Nat.add_one_ne_zero,reduceCtorEq])|(refine Pwp.skip ?_;simp only [thenS,blockS])|(refine Pwp.cond rfl True.intro (fun h=>?_) (fun h=>?_)<;>(try (cases h;done))<;>(try simp only [h]))|refine Pwp.ret ?_|(refine hK _ ?_;clear hK K)|(refine hK _ _ rfl ?_;clear hK K)|refine CallG.off ?_|with_reducible refine Or.inl ?_|simp only [thenS,blockS]|with_reducible refine And.intro ?_ ?_|with_reducible exact True.intro|simp (dsimp:=false) only [↓gq,↓stepP,↓stepG,go_sem,c2])
            all_goals (try (first|(intro hg;simp [hg];done)|exact of_decide_eq_true rfl|(cases h;done)))
            intro born clk hbl hbs
            repeat' (first|((first|refine goA rfl fun K hK=>?_|refine goB rfl fun K hK=>?_|refine goC rfl rfl fun K hK=>?_|refine goD rfl rfl fun K hK=>?_);simp (dsimp:=false) only [↓gq,↓stepP,↓stepG,go_sem])|refine Pwp.seq ?_|refine Pwp.block ?_|(refine Pwp.exit ?_;simp only [thenS,blockS,if_true,if_false,reduceIte,Nat.reduceEqDiff,Nat.add_one_ne_zero,reduceCtorEq])|(refine Pwp.skip ?_;simp only [thenS,blockS])|(refine Pwp.cond rfl True.intro (fun h=>?_) (fun h=>?_)<;>(try (cases h;done))<;>(try simp only [h]))|refine Pwp.ret ?_|(refine hK _ ?_;clear hK K)|(refine hK _ _ rfl ?_;clear hK K)|refine CallG.off ?_|with_reducible refine Or.inl ?_|simp only [thenS,blockS]|with_reducible refine And.intro ?_ ?_|with_reducible exact True.intro|simp (dsimp:=false) only [↓gq,↓stepP,↓stepG,go_sem])
            all_goals (try (first|(intro hg;simp [hg];done)|exact of_decide_eq_true rfl|(cases h;done)))
            refine Pwp.rangeM born (fun seen s => s = L30c ws rs J K2 born clk seen i) (s0 := L30c ws rs J K2 born clk [] i) (Sub.view V0 (by simp [L30c]) rfl (by simp [L30c,bxC]) (by simp [L30c,bxC])) rfl ?_
            rintro seen s rfl
            unfold L30c bxC
            repeat' (first|((first|refine goA rfl fun K hK=>?_|refine goB rfl fun K hK=>?_|refine goC rfl rfl fun K hK=>?_|refine goD rfl rfl fun K hK=>?_);simp (dsimp:=false) only [↓gq,↓stepP,↓stepG,go_sem])|refine Pwp.seq ?_|refine Pwp.block ?_|(refine Pwp.exit ?_;simp only [thenS,blockS,if_true,if_false,reduceIte,Nat.reduceEqDiff,Nat.add_one_ne_zero,reduceCtorEq])|(refine Pwp.skip ?_;simp only [thenS,blockS])|(refine Pwp.cond rfl True.intro (fun h=>?_) (fun h=>?_)<;>(try (cases h;done))<;>(try simp only [h]))|refine Pwp.ret ?_|(refine hK _ ?_;clear hK K)|(refine hK _ _ rfl ?_;clear hK K)|refine CallG.off ?_|with_reducible refine Or.inl ?_|simp only [thenS,blockS]|with_reducible refine And.intro ?_ ?_|with_reducible exact True.intro|simp (dsimp:=false) only [↓gq,↓stepP,↓stepG,go_sem])
            all_goals (try (first|(intro hg;simp [hg];done)|exact of_decide_eq_true rfl|(cases h;done)))
            · intro j e z he hb hz
              obtain ⟨n0, d0, rfl⟩ := entK_form he
              repeat' (first|((first|refine goA rfl fun K hK=>?_|refine goB rfl fun K hK=>?_|refine goC rfl rfl fun K hK=>?_|refine goD rfl rfl fun K hK=>?_);simp (dsimp:=false) only [↓gq,↓stepP,↓stepG,go_sem])|refine Pwp.seq ?_|refine Pwp.block ?_|(refine Pwp.exit ?_;simp only [thenS,blockS,if_true,if_false,reduceIte,Nat.reduceEqDiff,Nat.add_one_ne_zero,reduceCtorEq])|(refine Pwp.skip ?_;simp only [thenS,blockS])|(refine Pwp.cond rfl True.intro (fun h=>?_) (fun h=>?_)<;>(try (cases h;done))<;>(try simp only [h]))|refine Pwp.ret ?_|(refine hK _ ?_;clear hK K)|(refine hK _ _ rfl ?_;clear hK K)|refine CallG.off ?_|with_reducible refine Or.inl ?_|simp only [thenS,blockS]|with_reducible refine And.intro ?_ ?_|with_reducible exact True.intro|simp (dsimp:=false) only [↓gq,↓stepP,↓stepG,go_sem])
              all_goals (try (first|(intro hg;simp [hg];done)|exact of_decide_eq_true rfl|(cases h;done)))
              · exact List.mem_of_getElem? hb
              intro j2 e2 he2 hb2
              obtain ⟨n, d, rfl, hnd⟩ := entK_mem he2
              obtain ⟨was, rfl, n1, n2, n3⟩ := hJ.dec n d hnd
              have hcr : (decide (n < 1) || decide ((rs.length : Int) < n)) = false := by rw [Bool.or_eq_false_iff, decide_eq_false_iff_not, decide_eq_false_iff_not]; omega
              have r94 := run94 3 rs n (by omega) k1 (by omega) hcr
              have hdm : atR rs n ∈ rs := List.mem_of_getElem? (atR_some hcr).2.2
              have hdv := hJ.one _ hdm
              have r41 := run41 (atR rs n).ns (by have := (k1 _ hdm).ns; omega) hdv.nin
              unfold runP chD at r94
              cases was with
              | true =>
                simp only [if_true] at n3
                rw [hdv.nul (.inr n3), if_pos (by rfl)] at r41
                rw [n3] at r94
                repeat' (first|((first|refine goA rfl fun K hK=>?_|refine goB rfl fun K hK=>?_|refine goC rfl rfl fun K hK=>?_|refine goD rfl rfl fun K hK=>?_);simp (dsimp:=false) only [↓gq,↓stepP,↓stepG,go_sem,bne_self_eq_false,beq_self_eq_true])|refine Pwp.seq ?_|refine Pwp.block ?_|(refine Pwp.exit ?_;simp only [thenS,blockS,if_true,if_false,reduceIte,Nat.reduceEqDiff,Nat.add_one_ne_zero,reduceCtorEq])|(refine Pwp.skip ?_;simp only [thenS,blockS])|(refine Pwp.cond rfl True.intro (fun h=>?_) (fun h=>?_)<;>(try (cases h;done))<;>(try simp only [h]))|refine Pwp.ret ?_|(refine hK _ ?_;clear hK K)|(refine hK _ _ rfl ?_;clear hK K)|(refine CallK.give (ds:=[.agg [I64 3, .slc 5 (runsC 3 rs)], I64 n]) rfl (r94) (by simp) ?_)|(refine CallK.give (ds:=[.slc 1 ((atR rs n).ns.map I64)]) rfl (r41) (by simp) ?_)|refine CallG.off ?_|with_reducible refine Or.inl ?_|simp only [thenS,blockS]|with_reducible refine And.intro ?_ ?_|with_reducible exact True.intro|simp (dsimp:=false) only [↓gq,↓stepP,↓stepG,go_sem,bne_self_eq_false,beq_self_eq_true])
                all_goals (try (first|(intro hg;simp [hg];done)|exact of_decide_eq_true rfl|(cases h;done)))
                all_goals (try (intro hg; simp only [hg, Bool.not_false, Bool.not_true, Bool.and_self, Bool.true_and, Bool.and_true, true_and, and_self, imp_self, implies_true]; done))
                exact ⟨_, z, Sub.view V0 (by simp [L30c]) rfl (by simp [L30c,bxC]) (by simp [L30c,bxC]), List.mem_of_getElem? hb, hz, rfl⟩
              | false =>
                simp only [Bool.false_eq_true, if_false] at n3
                obtain ⟨x, y, hxy⟩ : ∃ x y, (if fits (sumOf (atR rs n).ns) = true then [I64 (sumOf (atR rs n).ns), I64 0] else [I64 0, I64 10]) = [I64 x, I64 y] := by split <;> exact ⟨_, _, rfl⟩
                rw [hxy] at r41
                rw [n3] at r94
                repeat' (first|((first|refine goA rfl fun K hK=>?_|refine goB rfl fun K hK=>?_|refine goC rfl rfl fun K hK=>?_|refine goD rfl rfl fun K hK=>?_);simp (dsimp:=false) only [↓gq,↓stepP,↓stepG,go_sem,bne_self_eq_false,beq_self_eq_true])|refine Pwp.seq ?_|refine Pwp.block ?_|(refine Pwp.exit ?_;simp only [thenS,blockS,if_true,if_false,reduceIte,Nat.reduceEqDiff,Nat.add_one_ne_zero,reduceCtorEq])|(refine Pwp.skip ?_;simp only [thenS,blockS])|(refine Pwp.cond rfl True.intro (fun h=>?_) (fun h=>?_)<;>(try (cases h;done))<;>(try simp only [h]))|refine Pwp.ret ?_|(refine hK _ ?_;clear hK K)|(refine hK _ _ rfl ?_;clear hK K)|(refine CallK.give (ds:=[.agg [I64 3, .slc 5 (runsC 3 rs)], I64 n]) rfl (r94) (by simp) ?_)|(refine CallK.give (ds:=[.slc 1 ((atR rs n).ns.map I64)]) rfl (r41) (by simp) ?_)|refine CallG.off ?_|with_reducible refine Or.inl ?_|simp only [thenS,blockS]|with_reducible refine And.intro ?_ ?_|with_reducible exact True.intro|simp (dsimp:=false) only [↓gq,↓stepP,↓stepG,go_sem,bne_self_eq_false,beq_self_eq_true])
                all_goals (try (first|(intro hg;simp [hg];done)|exact of_decide_eq_true rfl|(cases h;done)))
                all_goals (try (intro hg; simp only [hg, Bool.not_false, Bool.not_true, Bool.and_self, Bool.true_and, Bool.and_true, true_and, and_self, imp_self, implies_true]; done))
                exact ⟨_, z, Sub.view V0 (by simp [L30c]) rfl (by simp [L30c,bxC]) (by simp [L30c,bxC]), List.mem_of_getElem? hb, hz, rfl⟩
            · intro hseen
              repeat' (first|((first|refine goA rfl fun K hK=>?_|refine goB rfl fun K hK=>?_|refine goC rfl rfl fun K hK=>?_|refine goD rfl rfl fun K hK=>?_);simp (dsimp:=false) only [↓gq,↓stepP,↓stepG,go_sem,w1])|refine Pwp.seq ?_|refine Pwp.block ?_|(refine Pwp.exit ?_;simp only [thenS,blockS,if_true,if_false,reduceIte,Nat.reduceEqDiff,Nat.add_one_ne_zero,reduceCtorEq])|(refine Pwp.skip ?_;simp only [thenS,blockS])|(refine Pwp.cond rfl True.intro (fun h=>?_) (fun h=>?_)<;>(try (cases h;done))<;>(try simp only [h]))|refine Pwp.ret ?_|(refine hK _ ?_;clear hK K)|(refine hK _ _ rfl ?_;clear hK K)|refine CallG.off ?_|with_reducible refine Or.inl ?_|simp only [thenS,blockS]|with_reducible refine And.intro ?_ ?_|with_reducible exact True.intro|simp (dsimp:=false) only [↓gq,↓stepP,↓stepG,go_sem,w1])
              all_goals (try (first|(intro hg;simp [hg];done)|exact of_decide_eq_true rfl|(cases h;done)))
              exact ⟨_, Sub.view V0 (by simp [L30a]) rfl (by simp [L30a,bxC]) (by simp [L30a,bxC]), rs, J, K2, hA', rfl⟩
    · rintro s ⟨rs, K1, K2, hA, rfl⟩
      have c1 := dge (Nat.le_refl ws.length)
      unfold L30a bxC
      repeat' (first|((first|refine goA rfl fun K hK=>?_|refine goB rfl fun K hK=>?_|refine goC rfl rfl fun K hK=>?_|refine goD rfl rfl fun K hK=>?_);simp (dsimp:=false) only [↓gq,↓stepP,↓stepG,go_sem,c1])|refine Pwp.seq ?_|refine Pwp.block ?_|(refine Pwp.exit ?_;simp only [thenS,blockS,if_true,if_false,reduceIte,Nat.reduceEqDiff,Nat.add_one_ne_zero,reduceCtorEq])|(refine Pwp.skip ?_;simp only [thenS,blockS])|(refine Pwp.cond rfl True.intro (fun h=>?_) (fun h=>?_)<;>(try (cases h;done))<;>(try simp only [h]))|refine Pwp.ret ?_|(refine hK _ ?_;clear hK K)|(refine hK _ _ rfl ?_;clear hK K)|refine CallG.off ?_|with_reducible refine Or.inl ?_|simp only [thenS,blockS]|with_reducible refine And.intro ?_ ?_|with_reducible exact True.intro|simp (dsimp:=false) only [↓gq,↓stepP,↓stepG,go_sem,c1])
      all_goals (try (first|(intro hg;simp [hg];done)|exact of_decide_eq_true rfl|(cases h;done)))
      (refine Fin.data (.inr rfl) (by simp (dsimp:=false) only [↓gq,↓stepP,↓stepG,go_sem,resL]; rfl) (by simp only [and_self]) (by simp (dsimp:=false) only [↓gq,↓stepP,↓stepG,go_sem,resP,Nat.le_refl,List.take_length]; try rfl) ?_)
      exact subD_refl _
end Go.Proofs.Ytdodgbhodkcckaa.Pv
end
section
set_option autoImplicit false
namespace Go.Proofs.Ytdodgbhodkcckaa.Pv
open Go Go.RowKit
theorem run30k (xs : List D) (h : okArgs [(false, [.slc true wordVL])] xs) : Runs Try.prog 30 (xs.map .d) [] (.d (.v (.bool true))) [] := by
  simp only [okArgs, okL] at h
  obtain ⟨_, _, rfl, ⟨_, _, rfl, h0, rfl⟩, rfl⟩ := h
  obtain ⟨ws, rfl, _⟩ := wordsV_of h0
  exact run30 ws
end Go.Proofs.Ytdodgbhodkcckaa.Pv
end
