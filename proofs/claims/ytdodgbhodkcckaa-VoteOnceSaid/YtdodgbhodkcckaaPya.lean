/- Books as lists in the order of names: what the machine's searches and puts come to. -/
import Derived.Test.YtdodgbhodkcckaaPwg
import Derived.Test.YtdodgbhodkcckaaPwh
import Derived.Test.YtdodgbhodkcckaaPzb
import Derived.Test.YtdodgbhodkcckaaPq0
set_option linter.unusedVariables false
set_option linter.unusedSimpArgs false
set_option autoImplicit false
namespace Go.Proofs.Ytdodgbhodkcckaa.Pv
open Go Go.RowKit

/-- A name as one number, in the order of names. -/
def keyN (s n : Int) : Int := s * 36893488147419103232 + n
theorem keyN_lt {s n t m : Int} (hn : In64 n) (hm : In64 m) : cmpN s n t m < 0 ↔ keyN s n < keyN t m := by
  obtain ⟨h1, h2⟩ := hn
  obtain ⟨h3, h4⟩ := hm
  unfold cmpN keyN
  rcases cmp_cases s t with ⟨a1, a2, a3⟩ | ⟨a1, a2, a3⟩ | ⟨a1, a2, a3⟩ <;> rcases cmp_cases n m with ⟨b1, b2, b3⟩ | ⟨b1, b2, b3⟩ | ⟨b1, b2, b3⟩ <;> simp [a2, b2] <;> omega
theorem keyN_eq {s n t m : Int} (hn : In64 n) (hm : In64 m) : cmpN s n t m = 0 ↔ keyN s n = keyN t m := by
  obtain ⟨h1, h2⟩ := hn
  obtain ⟨h3, h4⟩ := hm
  unfold cmpN keyN
  rcases cmp_cases s t with ⟨a1, a2, a3⟩ | ⟨a1, a2, a3⟩ | ⟨a1, a2, a3⟩ <;> rcases cmp_cases n m with ⟨b1, b2, b3⟩ | ⟨b1, b2, b3⟩ | ⟨b1, b2, b3⟩ <;> simp [a2, b2] <;> omega
theorem keyN_inj {s n t m : Int} (hn : In64 n) (hm : In64 m) : keyN s n = keyN t m ↔ s = t ∧ n = m := by
  obtain ⟨h1, h2⟩ := hn
  obtain ⟨h3, h4⟩ := hm
  unfold keyN
  constructor
  · intro h; omega
  · rintro ⟨rfl, rfl⟩; rfl

/-- An item that can be. -/
structure Fine (x : Item) : Prop where
  s : 0 ≤ x.seller ∧ x.seller < 8
  b : 0 ≤ x.buyer ∧ x.buyer < 8
  sb : x.buyer ≠ x.seller
  n : 1 ≤ x.number ∧ x.number ≤ 1048576
  c : 0 ≤ x.currency ∧ x.currency < 8
  a : 1 ≤ x.amount ∧ x.amount ≤ 1125899906842624
  r : 0 ≤ x.round ∧ x.round ≤ 3
  t : 1 ≤ x.state ∧ x.state ≤ 5
  y : 0 ≤ x.cycle ∧ x.cycle ≤ 1048576
  y3 : x.cycle ≠ 0 → x.state = 3 ∨ x.state = 5
  y0 : x.cycle = 0 → x.state ≠ 5
theorem chk_fine {x : Item} : chk x = 0 ↔ Fine x := by
  constructor
  · intro h
    unfold chk at h
    simp only [Bool.or_eq_true, Bool.and_eq_true, Bool.not_eq_true', decide_eq_true_eq, beq_iff_eq, beq_eq_false_iff_ne] at h
    repeat' (split at h)
    all_goals (try (cases h; done))
    constructor <;> omega
  · intro h
    obtain ⟨s, b, sb, n, c, a, r, t, y, y3, y0⟩ := h
    unfold chk
    simp only [Bool.or_eq_true, Bool.and_eq_true, Bool.not_eq_true', decide_eq_true_eq, beq_iff_eq, beq_eq_false_iff_ne]
    repeat' (rw [if_neg (by omega)])

def kI (x : Item) : Int := keyN x.seller x.number
/-- Items as a book has them. -/
structure Good (me : Int) (l : List Item) : Prop where
  rise : Rising kI l
  fine : ∀ x ∈ l, Fine x
  mine : ∀ x ∈ l, x.seller = me ∨ x.buyer = me
theorem Fine.num {x : Item} (h : Fine x) : In64 x.number := by have := h.n; simp [In64]; omega
theorem Fine.amt {x : Item} (h : Fine x) : In64 x.amount := by have := h.a; simp [In64]; omega
theorem pos_below {me : Int} {l : List Item} (h : Good me l) {s n : Int} (hn : In64 n) : posOf l s n = (below kI l (keyN s n)).length :=
  bs_rising h.rise fun i y hy => by
    simp only [cmpAt, hy]
    exact keyN_lt (h.fine y (List.mem_of_getElem? hy)).num hn
theorem in_seek {me : Int} {l : List Item} (h : Good me l) {s n : Int} (hn : In64 n) : isIn l s n = (seek kI l (keyN s n)).isSome := by
  unfold isIn
  rw [pos_below h hn]
  exact bs_there fun i y hy => by
    simp only [cmpAt, hy]
    exact keyN_eq (h.fine y (List.mem_of_getElem? hy)).num hn
theorem get_seek {me : Int} {l : List Item} (h : Good me l) {s n : Int} (hn : In64 n) : getI l s n = (seek kI l (keyN s n)).getD Item.zero := by
  unfold getI
  rw [in_seek h hn, pos_below h hn]
  cases hs : seek kI l (keyN s n) with
  | none => simp
  | some y => simp [(seek_at hs).1]
theorem put_enter {me : Int} {l : List Item} (h : Good me l) {x : Item} (hn : In64 x.number) : putIn l x = enter kI x l := by
  unfold putIn
  rw [in_seek h hn, pos_below h hn]
  cases hs : seek kI l (keyN x.seller x.number) with
  | none => simp only [Option.isSome_none, Bool.false_eq_true, if_false]; exact enter_none (y := x) hs
  | some y => simp only [Option.isSome_some, if_true]; exact enter_some (y := x) hs
/-- The items behind a put, whatever is answered. -/
def putS (me : Int) (l : List Item) (x : Item) : List Item := if putE me l x = 0 then putIn l x else l
theorem putE_zero {me : Int} {l : List Item} {x : Item} : putE me l x = 0 ↔ Fine x ∧ (x.seller = me ∨ x.buyer = me) ∧ (isIn l x.seller x.number = true ∨ l.length < 1024) := by
  unfold putE
  by_cases hc : chk x = 0
  · have hf := chk_fine.1 hc
    rw [if_neg (by simp [hc])]
    by_cases hm : x.seller = me ∨ x.buyer = me
    · rw [if_neg (by simp only [Bool.and_eq_true, bne_iff_ne, ne_eq]; omega)]
      cases hi : isIn l x.seller x.number with
      | true => simp [hf, hm]
      | false =>
        simp only [Bool.not_false, Bool.true_and, decide_eq_true_eq, Bool.false_eq_true, false_or]
        split
        · constructor
          · intro h; cases h
          · rintro ⟨_, _, h⟩; omega
        · simp only [hf, hm, true_and, true_iff]; omega
    · rw [if_pos (by simp only [Bool.and_eq_true, bne_iff_ne, ne_eq]; omega)]
      constructor
      · intro h; cases h
      · rintro ⟨_, h, _⟩; exact absurd h hm
  · rw [if_pos (by simpa using hc)]
    constructor
    · intro h; exact absurd h hc
    · rintro ⟨h, _⟩; exact absurd (chk_fine.2 h) hc
theorem Good.enter {me : Int} {l : List Item} (h : Good me l) {x : Item} (hx : Fine x) (hm : x.seller = me ∨ x.buyer = me) : Good me (enter kI x l) :=
  ⟨rising_enter h.rise x, fun y hy => by
    rcases (mem_enter h.rise).1 hy with rfl | ⟨h1, _⟩
    · exact hx
    · exact h.fine y h1, fun y hy => by
    rcases (mem_enter h.rise).1 hy with rfl | ⟨h1, _⟩
    · exact hm
    · exact h.mine y h1⟩
theorem Good.putS {me : Int} {l : List Item} (h : Good me l) (x : Item) : Good me (putS me l x) := by
  unfold Pv.putS
  split
  · rename_i he
    obtain ⟨hf, hm, _⟩ := putE_zero.1 he
    rw [put_enter h hf.num]
    exact h.enter hf hm
  · exact h
theorem Good.nil (me : Int) : Good me [] := ⟨List.Pairwise.nil, by simp, by simp⟩
theorem len_putIn (l : List Item) (x : Item) : (putIn l x).length ≤ l.length + 1 := by
  unfold putIn
  split
  · rw [List.length_set]; omega
  · simp only [List.length_append, List.length_cons, List.length_take, List.length_drop]; omega
theorem len_putS (me : Int) (l : List Item) (x : Item) : (Pv.putS me l x).length ≤ l.length + 1 := by
  unfold Pv.putS
  split
  · exact len_putIn l x
  · omega
/-- All that is put. -/
def putsI (me : Int) (a : List Item) : List Item := a.foldl (Pv.putS me) []
theorem puts_take {me : Int} {a : List Item} {i : Nat} {x : Item} (h : a[i]? = some x) : putsI me (a.take (i + 1)) = Pv.putS me (putsI me (a.take i)) x := by
  unfold putsI; rw [List.take_add_one, h, List.foldl_append]; rfl
theorem good_fold {me : Int} : ∀ (a l : List Item), Good me l → Good me (a.foldl (Pv.putS me) l)
  | [], l, h => h
  | x :: a, l, h => good_fold a _ (h.putS x)
theorem len_fold {me : Int} : ∀ (a l : List Item), (a.foldl (Pv.putS me) l).length ≤ l.length + a.length
  | [], l => by simp
  | x :: a, l => by
    have h1 := len_fold (me := me) a (Pv.putS me l x)
    have h2 := len_putS me l x
    simp only [List.foldl_cons, List.length_cons]; omega
theorem good_puts (me : Int) (a : List Item) : Good me (putsI me a) := good_fold a [] (Good.nil me)
theorem len_puts (me : Int) (a : List Item) : (putsI me a).length ≤ a.length := by have := len_fold (me := me) a []; simpa [putsI] using this

end Go.Proofs.Ytdodgbhodkcckaa.Pv
