/- Matching: a desk does what the document's does, plain laws. -/
import Derived.Test.YtdodgbhodkcckaaPna
set_option linter.unusedVariables false
set_option linter.unusedSimpArgs false
set_option autoImplicit false
set_option maxRecDepth 100000
namespace Go.Proofs.Ytdodgbhodkcckaa.Pv
open Go Go.RowKit

/-- A desk, and the document's. -/
structure RelD (d : Desk) (w : RDesk) : Prop where
  me : w.me = d.me
  far : w.far = d.far
  it : RelI d.me d.items w.items
  od : RelO d.orders w.orders
theorem rel_at {d : Desk} {w : RDesk} (h : RelD d w) {s n : Int} (hn : In64 n) : w.has s n = isIn d.items s n ∧ (isIn d.items s n = true → w.got s n = getI d.items s n ∧ Fine (getI d.items s n) ∧ ((getI d.items s n).seller = d.me ∨ (getI d.items s n).buyer = d.me)) := by
  rcases rel_has h.it hn with ⟨h1, h2, _⟩ | ⟨k, y, h1, h2, h3, h4, h5⟩
  · exact ⟨by rw [has_none h1, h2], fun e => by rw [h2] at e; cases e⟩
  · obtain ⟨e1, e2⟩ := has_some h1 h2
    have hy := (seek_some_iff h.it.gd.rise).1 h5
    exact ⟨by rw [e1, h3], fun _ => by rw [e2, h4]; exact ⟨rfl, h.it.gd.fine y hy.1, h.it.gd.mine y hy.1⟩⟩
theorem near_same {l w : List Order} (h : RelO l w) {s n a far : Int} (hn : In64 n) : nearL s n a far w = (isInO l s n && nearV (getO l s n) a far) := by
  have e1 : nearL s n a far w = nearL s n a far l := by
    unfold nearL
    rw [Bool.eq_iff_iff, List.any_eq_true, List.any_eq_true]
    constructor
    · rintro ⟨o, ho, hp⟩; exact ⟨o, h.pm.mem_iff.1 ho, hp⟩
    · rintro ⟨o, ho, hp⟩; exact ⟨o, h.pm.mem_iff.2 ho, hp⟩
  rw [e1, inO_seek h.gd hn]
  unfold nearL
  cases hs : seek kO l (keyN s n) with
  | none =>
    rw [Option.isSome_none, Bool.false_and, List.any_eq_false]
    intro o ho hp
    rw [Bool.and_eq_true] at hp
    exact (seek_none_iff h.gd.rise).1 hs o ho ((isNmO_key hn (h.gd.num o ho)).1 hp.1)
  | some y =>
    rw [Option.isSome_some, Bool.true_and, getO_seek h.gd hn hs, Bool.eq_iff_iff, List.any_eq_true]
    have hy := (seek_some_iff h.gd.rise).1 hs
    constructor
    · rintro ⟨o, ho, hp⟩
      rw [Bool.and_eq_true] at hp
      have : o = y := rising_inj h.gd.rise ho hy.1 (((isNmO_key hn (h.gd.num o ho)).1 hp.1).trans hy.2.symm)
      rw [← this]; exact hp.2
    · intro hp
      exact ⟨y, hy.1, by rw [Bool.and_eq_true]; exact ⟨(isNmO_key hn (h.gd.num y hy.1)).2 hy.2, hp⟩⟩
/-- The desk with an item, and the document's. -/
theorem rel_put {d : Desk} {w : RDesk} (h : RelD d w) {y : Item} (hf : Fine y) (hm : y.seller = d.me ∨ y.buyer = d.me) (hl : d.items.length < 1000) : putE d.me d.items y = 0 ∧ RelD (d.put y) (w.keep y) := by
  have he : putE d.me d.items y = 0 := putE_zero.2 ⟨hf, hm, .inr (by omega)⟩
  refine ⟨he, ?_⟩
  have e : d.put y = ⟨d.me, putIn d.items y, d.orders, d.far⟩ := by unfold Desk.put; rw [if_pos he]
  rw [e]
  exact ⟨h.me, h.far, keep_perm h.it hf hm, h.od⟩
theorem fine_step {x : Item} (h : Fine x) {f t : Int} (he : stepE x f = 0) (hf : f = 1 ∨ f = 2) (ht : 1 ≤ t ∧ t ≤ 4) : Fine (stepI x f t) := by
  unfold stepE at he
  split at he
  · rename_i hx
    unfold stepI
    rw [if_pos hx]
    have hc : x.cycle = 0 := by
      by_cases hc : x.cycle = 0
      · exact hc
      · rcases h.y3 hc with h3 | h3 <;> omega
    obtain ⟨s, b, sb, n, c, a, r, tt, y, y3, y0⟩ := h
    exact ⟨s, b, sb, n, c, a, r, ⟨ht.1, by simp only; omega⟩, y, fun hq => absurd hc hq, fun _ => by simp only; omega⟩
  · cases he
theorem fine_adj {x : Item} (h : Fine x) {a : Int} (he : adjE x a = 0) : Fine (adjI x a) := by
  unfold adjI
  rw [if_pos he]
  unfold adjE at he
  split at he
  · cases he
  · rename_i h1
    split at he
    · cases he
    · rename_i h2
      split at he
      · cases he
      · rename_i h3
        rw [Bool.or_eq_true, decide_eq_true_eq, decide_eq_true_eq] at h2
        have hc : x.cycle = 0 := by
          by_cases hc : x.cycle = 0
          · exact hc
          · rcases h.y3 hc with h4 | h4 <;> (exfalso; apply h1; omega)
        obtain ⟨s, b, sb, n, c, aa, r, tt, y, y3, y0⟩ := h
        exact ⟨s, b, sb, n, c, ⟨by simp only; omega, by simp only; omega⟩, ⟨by simp only; omega, by simp only; omega⟩, ⟨by simp only; omega, by simp only; omega⟩, y, fun hq => absurd hc hq, fun _ => by simp only; omega⟩
theorem step_party (x : Item) (f t : Int) : (stepI x f t).seller = x.seller ∧ (stepI x f t).buyer = x.buyer := by unfold stepI; split <;> exact ⟨rfl, rfl⟩
theorem adj_party (x : Item) (a : Int) : (adjI x a).seller = x.seller ∧ (adjI x a).buyer = x.buyer := by unfold adjI; split <;> exact ⟨rfl, rfl⟩
/-- Both answer the same, and are behind it as they were to each other. -/
structure SameO (w : RDesk) (R : Out) (S : ROut) : Prop where
  e : R.e = S.e
  o : R.e = 0 → R.o = S.o
  no : S.e ≠ 0 → S = ⟨S.e, w, none⟩
  d : R.e = 0 → RelD R.d S.d

end Go.Proofs.Ytdodgbhodkcckaa.Pv
