/- An entity's part in cycles, plain laws: what stays as it is, whatever is said. No program is in sight here. -/
import Derived.Test.YtdodgbhodkcckaaPol
set_option linter.unusedVariables false
set_option linter.unusedSimpArgs false
set_option autoImplicit false
namespace Go.Proofs.Ytdodgbhodkcckaa.Pv
open Go Go.RowKit

theorem cmpI_lt {a n : Int} : cmpI a n < 0 ↔ a < n := by unfold cmpI; split <;> (try split) <;> omega
theorem cmpI_eq {a n : Int} : cmpI a n = 0 ↔ a = n := by unfold cmpI; split <;> (try split) <;> omega
theorem posC_below {l : List Part} (h : Rising Part.cycle l) (n : Int) : posC l n = (below Part.cycle l n).length :=
  bs_rising h fun i y hy => by simp only [cmpC, hy]; exact cmpI_lt
theorem isC_seek {l : List Part} (h : Rising Part.cycle l) (n : Int) : isC l n = (seek Part.cycle l n).isSome := by
  unfold isC
  rw [posC_below h]
  exact bs_there fun i y hy => by simp only [cmpC, hy]; exact cmpI_eq
theorem getC_seek {l : List Part} (h : Rising Part.cycle l) (n : Int) : getC l n = (seek Part.cycle l n).getD Part.zero := by
  unfold getC
  rw [isC_seek h, posC_below h]
  cases hs : seek Part.cycle l n with
  | none => simp
  | some y => simp [(seek_at hs).1]
theorem putC_enter {l : List Part} (h : Rising Part.cycle l) (x : Part) : putC l x = enter Part.cycle x l := by
  unfold putC
  rw [isC_seek h, posC_below h]
  cases hs : seek Part.cycle l x.cycle with
  | none => simp only [Option.isSome_none, Bool.false_eq_true, if_false]; exact enter_none (y := x) hs
  | some y => simp only [Option.isSome_some, if_true]; exact enter_some (y := x) hs
theorem getC_put {l : List Part} (h : Rising Part.cycle l) (x : Part) (n : Int) : (isC (putC l x) n = if x.cycle = n then true else isC l n) ∧ (getC (putC l x) n = if x.cycle = n then x else getC l n) := by
  have h2 := rising_enter h x
  rw [putC_enter h, isC_seek h2, getC_seek h2, seek_enter h, isC_seek h, getC_seek h]
  split <;> exact ⟨rfl, rfl⟩
theorem getC_mem {l : List Part} (h : Rising Part.cycle l) {n : Int} (hi : isC l n = true) : getC l n ∈ l ∧ (getC l n).cycle = n := by
  rw [isC_seek h] at hi
  rw [getC_seek h]
  cases hs : seek Part.cycle l n with
  | none => rw [hs] at hi; cases hi
  | some y => exact (seek_some_iff h).1 hs
theorem getC_cycle {l : List Part} (h : Rising Part.cycle l) {n : Int} (hi : isC l n = true) : (getC l n).cycle = n := (getC_mem h hi).2

/-- An entity's cycles as they can be. -/
structure PGd (p : VP) (k : Nat) : Prop where
  rise : Rising Part.cycle p.list
  pl : p.list.length ≤ k
  ls : ∀ x ∈ p.list, x.lines.length ≤ 1000
theorem PGd.put {p : VP} {k : Nat} (h : PGd p k) {x : Part} (hx : x.lines.length ≤ 1000) : PGd { p with list := putC p.list x } (k + 1) := by
  have e := putC_enter h.rise x
  refine ⟨?_, ?_, ?_⟩
  · simp only; rw [e]; exact rising_enter h.rise x
  · simp only; rw [e, length_enter]; have := h.pl; split <;> omega
  · intro y hy
    simp only at hy
    rw [e] at hy
    rcases (mem_enter h.rise).1 hy with rfl | ⟨h1, _⟩
    · exact hx
    · exact h.ls y h1
theorem PGd.mono {p : VP} {k : Nat} (h : PGd p k) : PGd p (k + 1) := ⟨h.rise, Nat.le_succ_of_le h.pl, h.ls⟩
theorem getC_lines {p : VP} {k : Nat} (h : PGd p k) (n : Int) : (getC p.list n).lines.length ≤ 1000 := by
  cases hi : isC p.list n with
  | true => exact h.ls _ (getC_mem h.rise hi).1
  | false => unfold getC; rw [hi]; simp [Part.zero]
theorem mine_le (me : Int) (ls : List Line) : (mineL me ls).length ≤ ls.length := List.length_filter_le _ _
theorem askBad_ok {m : Msg} (h : askBad m = false) : 1 ≤ m.cycle ∧ m.cycle ≤ 1048576 ∧ 0 ≤ m.currency ∧ m.currency < 8 := by
  unfold askBad at h
  simp only [Bool.or_eq_false_iff, decide_eq_false_iff_not] at h
  omega
/-- What holds of what an act comes to, if it holds of what was, and of each of its ways. -/
theorem voteR_cases {p : VP} {l : List Item} {m : VMsg} {f : Int} (Q : VOut → Prop) (h0 : ∀ e, e ≠ 0 → Q ⟨e, p, l, none⟩)
    (h1 : m.kind = 10 → f = p.n → askBad m.msg = false → isC p.list m.cycle = false → Q ⟨0, { p with list := putC p.list ⟨m.cycle, m.currency, 1, []⟩ }, foldB (withC m.cycle) (askL m.currency l) l, some (saidD p.n (offerM m.cycle ((askL m.currency l).map lineOf)))⟩)
    (h2 : m.kind = 12 → f = p.n → isC p.list m.cycle = true → (getC p.list m.cycle).state = 1 → Q (if rightR p l m.cycle m.ls m.ns = true then ⟨0, { p with list := putC p.list { getC p.list m.cycle with state := 2, lines := mineL p.me m.ls } }, l, some (saidD p.n (voteM m.cycle true))⟩ else ⟨0, { p with list := putC p.list { getC p.list m.cycle with state := 3 } }, l, some (saidD p.n (voteM m.cycle false))⟩))
    (h3 : m.kind = 14 → f = p.n → isC p.list m.cycle = true → decBad p m.msg = false → Q ⟨0, { p with list := putC p.list { getC p.list m.cycle with state := if m.yes = true then 4 else 5 } }, foldB (endI m.yes (getC p.list m.cycle).lines) (keepF (notHeld m.cycle) l) l, none⟩)
    (h4 : m.kind = 16 → f = -1 → isC p.list m.cycle = true → Q ⟨0, p, l, some (saidD p.n (queryM m.cycle))⟩) : Q (voteR p l m f) := by
  have gate : ∀ (r : VOut), ((m.kind = 16 ↔ f = -1) → (f = -1 ∨ f = p.n) → Q r) → Q (gateV p l m.msg f r) := by
    intro r hr
    unfold gateV
    split
    · exact h0 110 (by decide)
    · rename_i hn1
      split
      · exact h0 140 (by decide)
      · rename_i hn2
        refine hr ?_ ?_
        · simp only [VMsg.msg, Bool.not_eq_true', Bool.not_eq_true, Bool.not_eq_false'] at hn1
          have : (m.kind == 16) = (f == -1) := by simpa using hn1
          constructor
          · intro h; rw [h] at this; simpa using this.symm
          · intro h; rw [h] at this; simpa using this
        · simp only [Bool.and_eq_true, bne_iff_ne, ne_eq, not_and, Decidable.not_not] at hn2
          by_cases hf : f = -1
          · exact .inl hf
          · exact .inr (hn2 hf)
  unfold voteR voteK
  split
  · rename_i hk
    have hk : m.kind = 10 := by simpa [VMsg.msg] using hk
    refine gate _ fun g1 g2 => ?_
    have hf : f = p.n := g2.resolve_left fun h => by have := g1.2 h; omega
    unfold askR
    split
    · exact h0 1 (by decide)
    · rename_i hb
      split
      · exact h0 5 (by decide)
      · rename_i hc
        exact h1 hk hf (by simpa using hb) (by simpa [VMsg.msg] using hc)
  · split
    · rename_i hk
      have hk : m.kind = 12 := by simpa [VMsg.msg] using hk
      refine gate _ fun g1 g2 => ?_
      have hf : f = p.n := g2.resolve_left fun h => by have := g1.2 h; omega
      unfold prepR
      split
      · exact h0 4 (by decide)
      · rename_i hc
        split
        · exact h0 90 (by decide)
        · rename_i hs
          exact h2 hk hf (by simpa [VMsg.msg] using hc) (by simpa [VMsg.msg] using hs)
    · split
      · rename_i hk
        have hk : m.kind = 14 := by simpa [VMsg.msg] using hk
        refine gate _ fun g1 g2 => ?_
        have hf : f = p.n := g2.resolve_left fun h => by have := g1.2 h; omega
        unfold decR
        split
        · exact h0 4 (by decide)
        · rename_i hc
          split
          · exact h0 90 (by decide)
          · rename_i hs
            exact h3 hk hf (by simpa [VMsg.msg] using hc) (by simpa using hs)
      · split
        · rename_i hk
          have hk : m.kind = 16 := by simpa [VMsg.msg] using hk
          refine gate _ fun g1 g2 => ?_
          unfold dueC
          split
          · exact h0 4 (by decide)
          · rename_i hc
            split
            · exact h0 90 (by decide)
            · exact h4 hk (g1.1 hk) (by simpa [VMsg.msg] using hc)
        · exact h0 110 (by decide)
theorem withC_key (c : Int) (x : Item) : kI (withC c x) = kI x := rfl
theorem endI_kI (yes : Bool) (ls : List Line) (x : Item) : kI (endI yes ls x) = kI x := by unfold kI; rw [(endI_key yes ls x).1, (endI_key yes ls x).2.1]
/-- The items behind each act, one by one. -/
theorem ask_map {me : Int} {l : List Item} (h : Good me l) {c n : Int} (hn : 1 ≤ n ∧ n ≤ 1048576) : foldB (withC n) (askL c l) l = l.map (fun x => if x ∈ askL c l then withC n x else x) ∧ Good me (foldB (withC n) (askL c l) l) :=
  ⟨foldB_map h (askL_sub c l) (withC_key n) (ask_ok h hn), foldB_good _ _ h (ask_ok h hn)⟩
theorem end_map {me : Int} {l : List Item} (h : Good me l) (n : Int) (yes : Bool) (ls : List Line) : foldB (endI yes ls) (keepF (notHeld n) l) l = l.map (fun x => if x ∈ keepF (notHeld n) l then endI yes ls x else x) ∧ Good me (foldB (endI yes ls) (keepF (notHeld n) l) l) :=
  ⟨foldB_map h (held_sub n l) (endI_kI yes ls) (end_ok h yes ls), foldB_good _ _ h (end_ok h yes ls)⟩
theorem voteR_inv {p : VP} {l : List Item} {m : VMsg} {f me : Int} {k : Nat} (hG : Good me l) (hP : PGd p k) (hls : m.ls.length ≤ 1000) :
    Good me (voteR p l m f).l ∧ (voteR p l m f).l.length = l.length ∧ PGd (voteR p l m f).p (k + 1) ∧ (voteR p l m f).p.me = p.me ∧ (voteR p l m f).p.n = p.n := by
  refine voteR_cases (fun R => Good me R.l ∧ R.l.length = l.length ∧ PGd R.p (k + 1) ∧ R.p.me = p.me ∧ R.p.n = p.n) ?_ ?_ ?_ ?_ ?_
  · intro e _; exact ⟨hG, rfl, hP.mono, rfl, rfl⟩
  · intro _ _ hb _
    have hb2 := askBad_ok hb
    obtain ⟨e1, e2⟩ := ask_map hG (c := m.currency) (n := m.cycle) ⟨hb2.1, hb2.2.1⟩
    exact ⟨e2, by simp only; rw [e1, List.length_map], hP.put (by simp), rfl, rfl⟩
  · intro _ _ _ _
    split
    · exact ⟨hG, rfl, hP.put (by simp only; have := mine_le p.me m.ls; omega), rfl, rfl⟩
    · exact ⟨hG, rfl, hP.put (getC_lines hP _), rfl, rfl⟩
  · intro _ _ _ _
    obtain ⟨e1, e2⟩ := end_map hG m.cycle m.yes (getC p.list m.cycle).lines
    exact ⟨e2, by simp only; rw [e1, List.length_map], hP.put (getC_lines hP _), rfl, rfl⟩
  · intro _ _ _; exact ⟨hG, rfl, hP.mono, rfl, rfl⟩

/-! ### The book that is filled -/
theorem fill_puts (a : List Item) : (fillS a).1 = putsI 0 a := by
  have key : ∀ (a : List Item) (s : List Item × List Item), (a.foldl (fun s x => if putE 0 s.1 x = 0 then (putIn s.1 x, keepL2 s.2 x) else s) s).1 = a.foldl (Pv.putS 0) s.1 := by
    intro a
    induction a with
    | nil => intro s; rfl
    | cons x a ih =>
      intro s
      simp only [List.foldl_cons]
      rw [ih]
      congr 1
      unfold Pv.putS
      split <;> rfl
  exact key a ([], [])
theorem fill_good (a : List Item) : Good 0 (fillS a).1 := by rw [fill_puts]; exact good_puts 0 a

end Go.Proofs.Ytdodgbhodkcckaa.Pv
