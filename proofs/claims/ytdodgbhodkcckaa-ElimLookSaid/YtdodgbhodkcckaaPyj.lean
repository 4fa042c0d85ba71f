/- Books against each other: names told apart, lists in order with the same members, plain laws. -/
import Derived.Test.YtdodgbhodkcckaaPyf
set_option linter.unusedVariables false
set_option linter.unusedSimpArgs false
set_option autoImplicit false
set_option maxRecDepth 100000
namespace Go.Proofs.Ytdodgbhodkcckaa.Pv
open Go Go.RowKit

abbrev idD (x : Item) : D := .agg [I64 x.seller, I64 x.number]
def nmEq (x y : Item) : Bool := x.seller == y.seller && x.number == y.number
def entE (v : Item → D) (l : List Item) : List (D × D) := l.map fun x => (idD x, v x)
theorem ent_put (v : Item → D) (l : List Item) (x : Item) : entE v l ++ [(idD x, v x)] = entE v (l ++ [x]) := by simp [entE]
def findN (x : Item) : List Item → Option Nat
  | [] => none
  | y :: l => if nmEq x y = true then some 0 else (findN x l).map (· + 1)
theorem find_ent (v : Item → D) (x : Item) : ∀ l : List Item, mapFind (some [.int, .int]) (idD x) (entE v l) = some (findN x l)
  | [] => rfl
  | y :: l => by
    have ih := find_ent v x l
    have hk : keyEq (some [.int, .int]) (idD x) (idD y) = some (nmEq x y) := by simp [keyEq, cellsEq, cellEq, nmEq]
    unfold entE at ih ⊢
    rw [List.map_cons, mapFind, ih]
    simp only [hk, findN]
    cases nmEq x y with
    | true => simp
    | false => cases findN x l <;> simp
theorem findN_find (x : Item) : ∀ l : List Item, (findN x l).elim (l.find? (nmEq x) = none) (fun i => ∃ y, l[i]? = some y ∧ l.find? (nmEq x) = some y)
  | [] => rfl
  | y :: l => by
    have ih := findN_find x l
    simp only [findN, List.find?_cons]
    cases nmEq x y with
    | true => simp
    | false =>
      cases hf : findN x l with
      | none => rw [hf] at ih; simpa using ih
      | some i => rw [hf] at ih; simpa using ih
theorem get_ent (v : Item → D) (x : Item) (l : List Item) (z : D) : mapGet (some [.int, .int]) (idD x) (entE v l) z = some ((l.find? (nmEq x)).elim (z, false) (fun y => (v y, true))) := by
  have h := findN_find x l
  unfold mapGet
  rw [find_ent]
  cases hf : findN x l with
  | none => rw [hf] at h; simp only [Option.elim] at h; simp [h]
  | some i =>
    rw [hf] at h
    simp only [Option.elim] at h
    obtain ⟨y, h1, h2⟩ := h
    simp [entE, h1, h2]
theorem set_ent {v : Item → D} {x : Item} {l : List Item} (h : l.find? (nmEq x) = none) : mapSet (some [.int, .int]) (idD x) (v x) (entE v l) = some (entE v (l ++ [x])) := by
  have h2 := findN_find x l
  unfold mapSet
  rw [find_ent]
  cases hf : findN x l with
  | none => simp only [ent_put]
  | some i =>
    rw [hf] at h2
    simp only [Option.elim] at h2
    obtain ⟨y, h1, h3⟩ := h2
    rw [h] at h3; cases h3
theorem nm_key {x y : Item} (hx : Fine x) (hy : Fine y) : nmEq x y = true ↔ kI x = kI y := by
  unfold nmEq kI
  rw [keyN_inj hx.num hy.num]
  simp
theorem nm_symm (x y : Item) : nmEq x y = nmEq y x := by
  unfold nmEq
  rw [Bool.eq_iff_iff]; simp only [Bool.and_eq_true, beq_iff_eq]
  constructor <;> (rintro ⟨h1, h2⟩; exact ⟨h1.symm, h2.symm⟩)
/-- No name stands twice. -/
def Apart (l : List Item) : Prop := l.Pairwise fun y x => nmEq x y = false
theorem Apart.snoc {l : List Item} {x : Item} (h : Apart l) (hx : l.find? (nmEq x) = none) : Apart (l ++ [x]) := by
  unfold Apart
  rw [List.pairwise_append]
  refine ⟨h, by simp, fun a ha b hb => ?_⟩
  obtain rfl : b = x := by simpa using hb
  have := List.find?_eq_none.1 hx a ha
  simpa using this

theorem mem_fold {me : Int} {z : Item} : ∀ (a l : List Item), Good me l → l.length + a.length ≤ 1024 → Apart a → (∀ x ∈ a, ∀ y ∈ l, nmEq x y = false) → (z ∈ a.foldl (putS me) l ↔ z ∈ l ∨ (z ∈ a ∧ Fine z ∧ (z.seller = me ∨ z.buyer = me)))
  | [], l, _, _, _, _ => by simp
  | x :: a, l, hg, hl, ha, hd => by
    obtain ⟨ha1, ha2⟩ := List.pairwise_cons.1 ha
    rw [List.foldl_cons]
    simp only [List.length_cons] at hl
    by_cases hp : Fine x ∧ (x.seller = me ∨ x.buyer = me)
    · have hm : ∀ w, w ∈ putS me l x ↔ w = x ∨ w ∈ l := by
        intro w
        unfold putS
        rw [if_pos (putE_zero.2 ⟨hp.1, hp.2, .inr (by omega)⟩), put_enter hg hp.1.num, mem_enter hg.rise]
        constructor
        · rintro (h | ⟨h, _⟩)
          · exact .inl h
          · exact .inr h
        · rintro (h | h)
          · exact .inl h
          · refine .inr ⟨h, fun he => ?_⟩
            have := hd x (by simp) w h
            rw [(nm_key hp.1 (hg.fine w h)).2 he.symm] at this
            cases this
      have hln := len_putS me l x
      rw [mem_fold a (putS me l x) (hg.putS x) (by omega) ha2 (fun x' hx' y hy => by
        rcases (hm y).1 hy with rfl | hy
        · exact ha1 x' hx'
        · exact hd x' (by simp [hx']) y hy), hm]
      simp only [List.mem_cons]
      constructor
      · rintro ((rfl | h) | ⟨h1, h2⟩)
        · exact .inr ⟨.inl rfl, hp⟩
        · exact .inl h
        · exact .inr ⟨.inr h1, h2⟩
      · rintro (h | ⟨rfl | h1, h2⟩)
        · exact .inl (.inr h)
        · exact .inl (.inl rfl)
        · exact .inr ⟨h1, h2⟩
    · have he : putS me l x = l := by
        unfold putS
        rw [if_neg]
        intro h
        obtain ⟨h1, h2, _⟩ := putE_zero.1 h
        exact hp ⟨h1, h2⟩
      rw [he, mem_fold a l hg (by omega) ha2 (fun x' hx' y hy => hd x' (by simp [hx']) y hy)]
      simp only [List.mem_cons]
      constructor
      · rintro (h | ⟨h1, h2⟩)
        · exact .inl h
        · exact .inr ⟨.inr h1, h2⟩
      · rintro (h | ⟨rfl | h1, h2⟩)
        · exact .inl h
        · exact absurd h2 hp
        · exact .inr ⟨h1, h2⟩
theorem mem_puts {me : Int} {z : Item} {a : List Item} (hl : a.length ≤ 1024) (ha : Apart a) : z ∈ putsI me a ↔ z ∈ a ∧ Fine z ∧ (z.seller = me ∨ z.buyer = me) := by
  unfold putsI
  rw [mem_fold a [] (Good.nil me) (by simpa using hl) ha (by simp)]
  simp
theorem rising_sub {k : Item → Int} : ∀ (L K : List Item), Rising k L → Rising k K → (∀ x ∈ K, ∃ y ∈ L, k y = k x) → K.length ≤ L.length ∧ (K.length = L.length → K.map k = L.map k)
  | [], [], _, _, _ => by simp
  | [], x :: K, _, _, h => by obtain ⟨y, hy, _⟩ := h x (by simp); cases hy
  | l :: L, [], _, _, _ => by simp
  | l :: L, x :: K, hL, hK, h => by
    obtain ⟨l1, l2⟩ := hL.tail
    obtain ⟨k1, k2⟩ := hK.tail
    by_cases hx : k x = k l
    · have ih := rising_sub L K l2 k2 fun z hz => by
        obtain ⟨y, hy, he⟩ := h z (by simp [hz])
        rcases List.mem_cons.1 hy with rfl | hy
        · have := k1 z hz; omega
        · exact ⟨y, hy, he⟩
      simp only [List.length_cons, List.map_cons, hx]
      exact ⟨by omega, fun he => by rw [ih.2 (by omega)]⟩
    · have hlt : k l < k x := by
        obtain ⟨y, hy, he⟩ := h x (by simp)
        rcases List.mem_cons.1 hy with rfl | hy
        · omega
        · have := l1 y hy; omega
      have ih := rising_sub L (x :: K) l2 hK fun z hz => by
        obtain ⟨y, hy, he⟩ := h z hz
        rcases List.mem_cons.1 hy with rfl | hy
        · rcases List.mem_cons.1 hz with rfl | hz
          · omega
          · have := k1 z hz; omega
        · exact ⟨y, hy, he⟩
      simp only [List.length_cons] at ih ⊢
      exact ⟨by omega, fun he => by omega⟩
theorem rising_eq {k : Item → Int} {L K : List Item} (hL : Rising k L) (hK : Rising k K) (h : ∀ x, x ∈ K ↔ x ∈ L) : K = L := by
  have h1 := rising_sub L K hL hK fun x hx => ⟨x, (h x).1 hx, rfl⟩
  have h2 := rising_sub K L hK hL fun x hx => ⟨x, (h x).2 hx, rfl⟩
  have hl : K.length = L.length := by omega
  have hm := h1.2 hl
  apply List.ext_getElem?
  intro i
  rcases Nat.lt_or_ge i K.length with hi | hi
  · obtain ⟨x, hx, hxm⟩ := at_lt hi
    obtain ⟨y, hy, hym⟩ := at_lt (l := L) (i := i) (by omega)
    have e : (K.map k)[i]? = (L.map k)[i]? := by rw [hm]
    rw [List.getElem?_map, List.getElem?_map, hx, hy] at e
    simp only [Option.map_some, Option.some.injEq] at e
    rw [hx, hy, rising_inj hL ((h x).1 hxm) hym e]
  · rw [List.getElem?_eq_none hi, List.getElem?_eq_none (by omega)]
theorem same_self (x : Item) : sameI x x = true := by simp [sameI]
theorem alike_self (l : List Item) : alikeL l l = true := by
  unfold alikeL alikeK
  rw [if_pos rfl, Bool.and_eq_true, List.all_eq_true]
  refine ⟨fun i _ => ?_, by simp⟩
  unfold sameAt
  cases l[i]? <;> simp [same_self]
theorem alike_len {A B : List Item} (h : A.length ≠ B.length) : alikeL A B = false := by
  unfold alikeL
  rw [Bool.and_eq_false_iff]; right; simpa using h
theorem amts_mid (A B : List Item) (w : Item) : sumOf (amts (A ++ w :: B)) = w.amount + sumOf (amts (A ++ B)) := by
  induction A with
  | nil => simp [amts, sumOf_cons]
  | cons a A ih =>
    simp only [amts, List.cons_append, List.map_cons, sumOf_cons] at ih ⊢
    omega
/-- One more that two agreed on, of which one party knows nothing. -/
theorem odd_law {a : List Item} {w : Item} (hl : a.length ≤ 1000) (ha : Apart (w :: a)) (hf : Fine w) (hs : w.seller = 0) (hb : w.buyer = 1) (ht : w.state = 3) :
    (agL 0 1 w.currency (putS 0 (putsI 0 a) w)).length = (agL 0 1 w.currency (putsI 1 a)).length + 1 ∧ sumOf (amts (agL 0 1 w.currency (putS 0 (putsI 0 a) w))) = w.amount + sumOf (amts (agL 0 1 w.currency (putsI 1 a))) ∧
    agL 0 1 w.currency (putS 0 (putsI 0 a) w) = agL 0 1 w.currency (putS 1 (putsI 1 a) w) := by
  obtain ⟨ha1, ha2⟩ := List.pairwise_cons.1 ha
  have gX := good_puts 0 a
  have gY := good_puts 1 a
  have lX := len_puts 0 a
  have lY := len_puts 1 a
  have mX := fun z => mem_puts (me := 0) (z := z) (a := a) (by omega) ha2
  have mY := fun z => mem_puts (me := 1) (z := z) (a := a) (by omega) ha2
  have hagr : ∀ x, agr 0 1 w.currency x = true → x.seller = 0 ∧ x.buyer = 1 := by
    intro x hx
    simp only [agr, Bool.and_eq_true, beq_iff_eq] at hx
    exact ⟨hx.1.1.2, hx.1.2⟩
  have hPQ : agL 0 1 w.currency (putsI 0 a) = agL 0 1 w.currency (putsI 1 a) := by
    refine rising_eq (gY.filter _).rise (gX.filter _).rise fun x => ?_
    unfold agL
    rw [List.mem_filter, List.mem_filter, mX, mY]
    constructor
    · rintro ⟨⟨h1, h2, _⟩, h4⟩; exact ⟨⟨h1, h2, .inr (hagr x h4).2⟩, h4⟩
    · rintro ⟨⟨h1, h2, _⟩, h4⟩; exact ⟨⟨h1, h2, .inl (hagr x h4).1⟩, h4⟩
  have hw : agr 0 1 w.currency w = true := by simp [agr, hs, hb, ht]
  have fresh : ∀ me, ∀ y ∈ putsI me a, kI y ≠ kI w := by
    intro me y hy he
    obtain ⟨h1, h2, _⟩ := (mem_puts (me := me) (by omega) ha2).1 hy
    have := ha1 y h1
    rw [(nm_key h2 hf).2 he] at this
    cases this
  have hput : ∀ me, (w.seller = me ∨ w.buyer = me) → putS me (putsI me a) w = enter kI w (putsI me a) := by
    intro me hm
    unfold putS
    have := len_puts me a
    rw [if_pos (putE_zero.2 ⟨hf, hm, .inr (by omega)⟩), put_enter (good_puts me a) hf.num]
  have e0 := hput 0 (.inl hs)
  have e1 := hput 1 (.inr hb)
  have hsk : seek kI (putsI 0 a) (kI w) = none := (seek_none_iff gX.rise).2 fun y hy => fresh 0 y hy
  have hen := enter_none hsk
  have hcut : (putsI 0 a).take (below kI (putsI 0 a) (kI w)).length ++ (putsI 0 a).drop (below kI (putsI 0 a) (kI w)).length = putsI 0 a := List.take_append_drop ..
  generalize (putsI 0 a).take (below kI (putsI 0 a) (kI w)).length = A at *
  generalize (putsI 0 a).drop (below kI (putsI 0 a) (kI w)).length = B at *
  have hA : agL 0 1 w.currency (enter kI w (putsI 0 a)) = agL 0 1 w.currency A ++ w :: agL 0 1 w.currency B := by
    rw [← hen]; unfold agL
    rw [List.filter_append, List.filter_cons, if_pos hw]
  have hB : agL 0 1 w.currency (putsI 0 a) = agL 0 1 w.currency A ++ agL 0 1 w.currency B := by
    rw [← hcut]; unfold agL
    rw [List.filter_append]
  refine ⟨?_, ?_, ?_⟩
  · rw [e0, hA, ← hPQ, hB]; simp only [List.length_append, List.length_cons]; omega
  · rw [e0, hA, ← hPQ, hB, amts_mid]
  · rw [e0, e1]
    refine rising_eq (rising_enter gY.rise w |>.filter _) (rising_enter gX.rise w |>.filter _) fun x => ?_
    unfold agL
    rw [List.mem_filter, List.mem_filter, mem_enter gX.rise, mem_enter gY.rise]
    have key : agr 0 1 w.currency x = true → (x ∈ putsI 0 a ↔ x ∈ putsI 1 a) := by
      intro hx
      rw [mX, mY]
      constructor
      · rintro ⟨h1, h2, _⟩; exact ⟨h1, h2, .inr (hagr x hx).2⟩
      · rintro ⟨h1, h2, _⟩; exact ⟨h1, h2, .inl (hagr x hx).1⟩
    constructor
    · rintro ⟨h | ⟨h1, h2⟩, h3⟩
      · exact ⟨.inl h, h3⟩
      · exact ⟨.inr ⟨(key h3).1 h1, h2⟩, h3⟩
    · rintro ⟨h | ⟨h1, h2⟩, h3⟩
      · exact ⟨.inl h, h3⟩
      · exact ⟨.inr ⟨(key h3).2 h1, h2⟩, h3⟩
/-- Every one is found, and is the same. -/
def lookAt (A : List Item) (y : Item) : Bool := match A.find? (nmEq y) with
  | some x => sameI x y
  | none => false
theorem alike_look {A B : List Item} (rA : Rising kI A) (rB : Rising kI B) (fA : ∀ x ∈ A, Fine x) (fB : ∀ x ∈ B, Fine x) : alikeL A B = (B.all (lookAt A) && (A.length == B.length)) := by
  have found : ∀ x ∈ A, ∀ y ∈ B, kI x = kI y → A.find? (nmEq y) = some x := by
    intro x hx y hy he
    cases hf : A.find? (nmEq y) with
    | none =>
      have := List.find?_eq_none.1 hf x hx
      rw [(nm_key (fB y hy) (fA x hx)).2 he.symm] at this
      simp at this
    | some z =>
      have hz := List.mem_of_find?_eq_some hf
      have hn := List.find?_some hf
      rw [rising_inj rA hz hx ((nm_key (fB y hy) (fA z hz)).1 hn |>.symm.trans he.symm)]
  by_cases hl : A.length = B.length
  · have hb : (A.length == B.length) = true := by simpa using hl
    rw [hb, Bool.and_true]
    unfold alikeL alikeK
    rw [if_pos hl, hb, Bool.and_true, Bool.eq_iff_iff, List.all_eq_true, List.all_eq_true]
    constructor
    · intro h y hy
      obtain ⟨i, hi, rfl⟩ := List.getElem_of_mem hy
      obtain ⟨x, hx, hxm⟩ := at_lt (l := A) (i := i) (by omega)
      have hs := h i (by simp; omega)
      simp only [sameAt, hx, List.getElem?_eq_getElem hi] at hs
      have hk : kI x = kI B[i] := by
        simp only [sameI, Bool.and_eq_true, beq_iff_eq] at hs
        simp only [kI, hs.1, hs.2.1]
      unfold lookAt
      rw [found x hxm _ hy hk]
      exact hs
    · intro h i hi
      have hi' : i < A.length := by simpa using hi
      obtain ⟨x, hx, hxm⟩ := at_lt hi'
      obtain ⟨y, hy, hym⟩ := at_lt (l := B) (i := i) (by omega)
      have hs := rising_sub A B rA rB fun y hy => by
        have := h y hy
        unfold lookAt at this
        split at this
        · rename_i x hf
          have hz := List.mem_of_find?_eq_some hf
          have hn := List.find?_some hf
          exact ⟨x, hz, ((nm_key (fB y hy) (fA x hz)).1 hn).symm⟩
        · cases this
      have hm := hs.2 hl.symm
      have e : (B.map kI)[i]? = (A.map kI)[i]? := by rw [hm]
      rw [List.getElem?_map, List.getElem?_map, hx, hy] at e
      simp only [Option.map_some, Option.some.injEq] at e
      have := h y hym
      unfold lookAt at this
      rw [found x hxm y hym e.symm] at this
      simp only [sameAt, hx, hy]
      exact this
  · rw [alike_len hl]
    have hb : (A.length == B.length) = false := by simpa using hl
    rw [hb, Bool.and_false]
theorem find_apart {me : Int} {l : List Item} (h : Good me l) {i : Nat} {x : Item} (hx : l[i]? = some x) (p : Item → Bool) : ((l.take i).filter p).find? (nmEq x) = none := by
  rw [List.find?_eq_none]
  intro y hy
  have hy1 := (List.mem_filter.1 hy).1
  have hd : l.drop i = x :: l.drop (i + 1) := by
    obtain ⟨hi, rfl⟩ := List.getElem?_eq_some_iff.1 hx
    rw [List.drop_eq_getElem_cons hi]
  have hr := h.rise
  rw [← List.take_append_drop i l, hd] at hr
  obtain ⟨_, _, h3⟩ := Rising.append hr
  have hlt := h3 y hy1 x (by simp)
  rw [Bool.not_eq_true, Bool.eq_false_iff]
  intro hn
  have := (nm_key (h.fine x (List.mem_of_getElem? hx)) (h.fine y (List.mem_of_mem_take hy1))).1 hn
  omega
theorem lit_in {n : Int} (h : (Lit.int .i64 n).wf = true) : In64 n := by
  simp only [Lit.wf, Bool.and_eq_true, decide_eq_true_eq] at h
  exact h
/-- An item out of memory. -/
structure okItem (x : Item) : Prop where
  s : In64 x.seller
  n : In64 x.number
  b : In64 x.buyer
  c : In64 x.currency
  a : In64 x.amount
  r : In64 x.round
  t : In64 x.state
  y : In64 x.cycle
abbrev itemCL : List CL := [.int .i64, .int .i64, .int .i64, .int .i64, .int .i64, .int .i64, .int .i64, .int .i64]
theorem item_of {ds : List D} (h : okL itemCL ds) : ∃ x : Item, ds = x.cells ∧ okItem x := by
  simp only [okL, okD] at h
  obtain ⟨_, _, rfl, ⟨a, rfl, ha⟩, _, _, rfl, ⟨b, rfl, hb⟩, _, _, rfl, ⟨c, rfl, hc⟩, _, _, rfl, ⟨d, rfl, hd⟩, _, _, rfl, ⟨e, rfl, he⟩, _, _, rfl, ⟨f, rfl, hf⟩, _, _, rfl, ⟨g, rfl, hg⟩, _, _, rfl, ⟨i, rfl, hi⟩, rfl⟩ := h
  exact ⟨⟨a, b, c, d, e, f, g, i⟩, rfl, ⟨lit_in ha, lit_in hb, lit_in hc, lit_in hd, lit_in he, lit_in hf, lit_in hg, lit_in hi⟩⟩
theorem items_of {d : D} (h : okD (.slc true itemCL) d) : ∃ l : List Item, d = .slc 8 (itemsD l) ∧ ∀ x ∈ l, okItem x := by
  simp only [okD] at h
  obtain ⟨els, rfl, _, h⟩ := h
  obtain ⟨l, rfl, hl⟩ := els_of Item.d okItem (els := els) fun el he => by
    obtain ⟨ds, rfl, h2⟩ := h el he
    obtain ⟨x, rfl, hx⟩ := item_of h2
    exact ⟨x, rfl, hx⟩
  exact ⟨l, by simp [itemsD, Item.d, Function.comp_def], hl⟩
end Go.Proofs.Ytdodgbhodkcckaa.Pv
