/- Books against each other: plain laws. -/
import Derived.Test.YtdodgbhodkcckaaPye
set_option linter.unusedVariables false
set_option linter.unusedSimpArgs false
set_option autoImplicit false
set_option maxRecDepth 100000
namespace Go.Proofs.Ytdodgbhodkcckaa.Pv
open Go Go.RowKit

theorem takeWhile_all {α : Type} {p : α → Bool} : ∀ {l : List α}, (∀ y ∈ l, p y = true) → l.takeWhile p = l
  | [], _ => rfl
  | x :: l, h => by rw [List.takeWhile_cons, if_pos (h x (by simp)), takeWhile_all fun y hy => h y (by simp [hy])]
theorem enter_end {α : Type} {k : α → Int} {x : α} {l : List α} (h : ∀ y ∈ l, k y < k x) : enter k x l = l ++ [x] := by
  have h1 : below k l (k x) = l := by unfold below; exact takeWhile_all fun y hy => by simpa using h y hy
  have h2 : above k l (k x) = [] := by
    have := split_at (k := k) l (k x)
    rw [h1] at this
    simpa using this
  unfold enter rest
  rw [h1, h2]
/-- What is in order already stays as it is put. -/
theorem puts_same {me : Int} : ∀ (l acc : List Item), Good me (acc ++ l) → (acc ++ l).length ≤ 1024 → l.foldl (putS me) acc = acc ++ l
  | [], acc, _, _ => by simp
  | x :: l, acc, hg, hl => by
    obtain ⟨h1, h2, h3⟩ := hg.rise.append
    have hacc : Good me acc := ⟨h1, fun y hy => hg.fine y (by simp [hy]), fun y hy => hg.mine y (by simp [hy])⟩
    have hx := hg.fine x (by simp)
    simp only [List.length_append, List.length_cons] at hl
    have hp : putS me acc x = acc ++ [x] := by
      unfold putS
      rw [if_pos (putE_zero.2 ⟨hx, hg.mine x (by simp), .inr (by omega)⟩), put_enter hacc hx.num]
      exact enter_end fun y hy => h3 y hy x (by simp)
    rw [List.foldl_cons, hp, puts_same l (acc ++ [x]) (by simpa using hg) (by simp; omega)]
    simp
theorem Good.filter {me : Int} {l : List Item} (h : Good me l) (p : Item → Bool) : Good me (l.filter p) :=
  ⟨h.rise.filter p, fun x hx => h.fine x (List.mem_filter.1 hx).1, fun x hx => h.mine x (List.mem_filter.1 hx).1⟩
theorem puts_filter {me : Int} {l : List Item} (h : Good me l) (hl : l.length ≤ 1024) (p : Item → Bool) : putsI me (l.filter p) = l.filter p := by
  have := puts_same (me := me) (l.filter p) [] (by simpa using h.filter p) (by have := List.length_filter_le p l; simp; omega)
  simpa [putsI] using this
def keepL (c : Int) (l : List Item) : List Item := l.filter fun x => x.state == 3 && x.currency == c
theorem agL_keep (s b c : Int) (l : List Item) : agL s b c (keepL c l) = agL s b c l := by
  unfold agL keepL
  rw [List.filter_filter]
  congr 1
  funext x
  unfold agr
  cases x.state == 3 <;> cases x.currency == c <;> simp
theorem even_keep (c : Int) (X Y : List Item) : evenB c [(0, keepL c X), (1, keepL c Y)] = evenB c [(0, X), (1, Y)] := by
  simp only [evenB, pairB, List.all_cons, List.all_nil, agL_keep]

/-- What is agreed between two comes to. -/
def S (s b c : Int) (l : List Item) : Int := sumOf (amts (agL s b c l))
theorem S_cons (s b c : Int) (x : Item) (l : List Item) : S s b c (x :: l) = (if agr s b c x = true then x.amount else 0) + S s b c l := by
  unfold S agL amts
  rw [List.filter_cons]
  split
  · rw [List.map_cons, sumOf_cons]
  · omega
theorem net_cons (me c : Int) (x : Item) (l : List Item) : net me c (x :: l) = (if (x.state == 3 && x.currency == c) = true then amtOf me x else 0) + net me c l := by
  unfold net
  simp only [openL]
  have hs : skips c (-1) x = !(x.state == 3 && x.currency == c) := by simp [skips]
  rw [hs]
  cases (x.state == 3 && x.currency == c) <;> simp [sumOf_cons]
/-- Its parties are 0, 1 and 2. -/
def Low (x : Item) : Prop := x.seller ≤ 2 ∧ x.buyer ≤ 2
theorem agr_eq (s b c : Int) (x : Item) : agr s b c x = ((x.state == 3 && x.currency == c) && (x.seller == s && x.buyer == b)) := by
  unfold agr
  cases x.state == 3 <;> cases x.currency == c <;> simp
theorem net0 {c : Int} : ∀ {l : List Item}, (∀ x ∈ l, Fine x) → (∀ x ∈ l, Low x) → (∀ x ∈ l, x.seller = 0 ∨ x.buyer = 0) → net 0 c l = S 0 1 c l + S 0 2 c l - S 1 0 c l - S 2 0 c l
  | [], _, _, _ => rfl
  | x :: l, h1, h2, h3 => by
    have ih := net0 (c := c) (l := l) (fun y hy => h1 y (by simp [hy])) (fun y hy => h2 y (by simp [hy])) (fun y hy => h3 y (by simp [hy]))
    have hx := h1 x (by simp)
    obtain ⟨l1, l2⟩ := h2 x (by simp)
    have hm := h3 x (by simp)
    have ha := (amtOf_fine (me := 0) hx).1
    have hs := hx.s; have hb := hx.b; have hsb := hx.sb
    rw [net_cons, S_cons, S_cons, S_cons, S_cons, ih, ha]
    simp only [agr_eq]
    cases (x.state == 3 && x.currency == c) with
    | false => simp
    | true =>
      simp only [Bool.true_and, Bool.and_eq_true, beq_iff_eq, if_true]
      repeat' split
      all_goals omega
theorem net1 {c : Int} : ∀ {l : List Item}, (∀ x ∈ l, Fine x) → (∀ x ∈ l, Low x) → (∀ x ∈ l, x.seller = 1 ∨ x.buyer = 1) → net 1 c l = S 1 0 c l + S 1 2 c l - S 0 1 c l - S 2 1 c l
  | [], _, _, _ => rfl
  | x :: l, h1, h2, h3 => by
    have ih := net1 (c := c) (l := l) (fun y hy => h1 y (by simp [hy])) (fun y hy => h2 y (by simp [hy])) (fun y hy => h3 y (by simp [hy]))
    have hx := h1 x (by simp)
    obtain ⟨l1, l2⟩ := h2 x (by simp)
    have hm := h3 x (by simp)
    have ha := (amtOf_fine (me := 1) hx).1
    have hs := hx.s; have hb := hx.b; have hsb := hx.sb
    rw [net_cons, S_cons, S_cons, S_cons, S_cons, ih, ha]
    simp only [agr_eq]
    cases (x.state == 3 && x.currency == c) with
    | false => simp
    | true =>
      simp only [Bool.true_and, Bool.and_eq_true, beq_iff_eq, if_true]
      repeat' split
      all_goals omega
theorem net2 {c : Int} : ∀ {l : List Item}, (∀ x ∈ l, Fine x) → (∀ x ∈ l, Low x) → (∀ x ∈ l, x.seller = 2 ∨ x.buyer = 2) → net 2 c l = S 2 0 c l + S 2 1 c l - S 0 2 c l - S 1 2 c l
  | [], _, _, _ => rfl
  | x :: l, h1, h2, h3 => by
    have ih := net2 (c := c) (l := l) (fun y hy => h1 y (by simp [hy])) (fun y hy => h2 y (by simp [hy])) (fun y hy => h3 y (by simp [hy]))
    have hx := h1 x (by simp)
    obtain ⟨l1, l2⟩ := h2 x (by simp)
    have hm := h3 x (by simp)
    have ha := (amtOf_fine (me := 2) hx).1
    have hs := hx.s; have hb := hx.b; have hsb := hx.sb
    rw [net_cons, S_cons, S_cons, S_cons, S_cons, ih, ha]
    simp only [agr_eq]
    cases (x.state == 3 && x.currency == c) with
    | false => simp
    | true =>
      simp only [Bool.true_and, Bool.and_eq_true, beq_iff_eq, if_true]
      repeat' split
      all_goals omega
theorem alike_amts {A B : List Item} (h : alikeL A B = true) : amts A = amts B := by
  unfold alikeL alikeK at h
  simp only [Bool.and_eq_true, beq_iff_eq] at h
  obtain ⟨h1, h2⟩ := h
  rw [if_pos h2, List.all_eq_true] at h1
  apply List.ext_getElem?
  intro i
  unfold amts
  rw [List.getElem?_map, List.getElem?_map]
  rcases Nat.lt_or_ge i A.length with hi | hi
  · obtain ⟨x, hx, _⟩ := at_lt hi
    obtain ⟨y, hy, _⟩ := at_lt (l := B) (i := i) (by omega)
    have := h1 i (by simpa using hi)
    simp only [sameAt, hx, hy, sameI, Bool.and_eq_true, beq_iff_eq] at this
    rw [hx, hy]; simp [this.2.2.2.2.1]
  · rw [List.getElem?_eq_none hi, List.getElem?_eq_none (by omega)]
theorem even_S {c : Int} {bs : List Bk} (h : evenB c bs = true) {a b : Bk} (ha : a ∈ bs) (hb : b ∈ bs) (hne : a.1 ≠ b.1) : alikeL (agL a.1 b.1 c a.2) (agL a.1 b.1 c b.2) = true ∧ S a.1 b.1 c a.2 = S a.1 b.1 c b.2 := by
  have := List.all_eq_true.1 (List.all_eq_true.1 h a ha) b hb
  simp only [pairB, Bool.or_eq_true, beq_iff_eq] at this
  have h1 := this.resolve_left hne
  exact ⟨h1, by unfold S; rw [alike_amts h1]⟩
theorem even_zero {c : Int} {B0 B1 B2 : List Item} (g0 : Good 0 B0) (g1 : Good 1 B1) (g2 : Good 2 B2) (l0 : ∀ x ∈ B0, Low x) (l1 : ∀ x ∈ B1, Low x) (l2 : ∀ x ∈ B2, Low x) (h : evenB c [(0, B0), (1, B1), (2, B2)] = true) : net 0 c B0 + net 1 c B1 + net 2 c B2 = 0 := by
  have e := fun (a b : Bk) ha hb hne => (even_S h (a := a) (b := b) ha hb hne).2
  have e01 := e (0, B0) (1, B1) (by simp) (by simp) (by simp)
  have e10 := e (1, B1) (0, B0) (by simp) (by simp) (by simp)
  have e02 := e (0, B0) (2, B2) (by simp) (by simp) (by simp)
  have e20 := e (2, B2) (0, B0) (by simp) (by simp) (by simp)
  have e12 := e (1, B1) (2, B2) (by simp) (by simp) (by simp)
  have e21 := e (2, B2) (1, B1) (by simp) (by simp) (by simp)
  simp only at e01 e10 e02 e20 e12 e21
  rw [net0 g0.fine l0 g0.mine, net1 g1.fine l1 g1.mine, net2 g2.fine l2 g2.mine]
  omega
theorem total3 {c n0 n1 n2 : Int} (hc : 0 ≤ c ∧ c < 8) : sumOf (ofCur c (vec (tab3 c n0 n1 n2))) = n0 + n1 + n2 := by
  rw [total_vec]
  have : c = 0 ∨ c = 1 ∨ c = 2 ∨ c = 3 ∨ c = 4 ∨ c = 5 ∨ c = 6 ∨ c = 7 := by omega
  have key : ∀ l : List Int, l = [n0, n1, n2, 0, 0, 0, 0, 0] → sumOf l = n0 + n1 + n2 := by rintro l rfl; simp [sumOf]
  rcases this with rfl | rfl | rfl | rfl | rfl | rfl | rfl | rfl <;> exact key _ rfl

end Go.Proofs.Ytdodgbhodkcckaa.Pv
