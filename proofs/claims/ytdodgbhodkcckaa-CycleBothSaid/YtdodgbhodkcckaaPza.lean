/- Numbers written out digit by digit, the least digit first: plain laws. No program is in sight here. -/
import Derived.KernelRfl
set_option linter.unusedVariables false
set_option linter.unusedSimpArgs false
set_option autoImplicit false
namespace Go.Proofs.Ytdodgbhodkcckaa.Dig

def digs (n : Nat) : List Nat := if h : n = 0 then [] else n % 10 :: digs (n / 10)
termination_by n
decreasing_by omega

def val : List Nat → Nat
  | [] => 0
  | d :: ds => d + 10 * val ds

def Small (l : List Nat) : Prop := ∀ d ∈ l, d < 10
def Canon (l : List Nat) : Prop := Small l ∧ l.getLast? ≠ some 0

theorem digs_zero : digs 0 = [] := by rw [digs]; simp
theorem digs_pos {n : Nat} (h : n ≠ 0) : digs n = n % 10 :: digs (n / 10) := by rw [digs]; simp [h]
theorem digs_nil {n : Nat} (h : digs n = []) : n = 0 := by
  rcases Nat.eq_zero_or_pos n with h0 | h0
  · exact h0
  · rw [digs_pos (by omega)] at h; cases h

theorem val_digs : ∀ n, val (digs n) = n := by
  intro n
  induction n using Nat.strongRecOn with
  | _ n ih =>
    rcases Nat.eq_zero_or_pos n with h0 | h0
    · subst h0; rw [digs_zero]; rfl
    · rw [digs_pos (by omega), val, ih (n / 10) (by omega)]; omega

theorem small_digs : ∀ n, Small (digs n) := by
  intro n
  induction n using Nat.strongRecOn with
  | _ n ih =>
    rcases Nat.eq_zero_or_pos n with h0 | h0
    · subst h0; rw [digs_zero]; intro d hd; simp at hd
    · rw [digs_pos (by omega)]
      intro d hd
      rcases List.mem_cons.1 hd with rfl | hd
      · omega
      · exact ih (n / 10) (by omega) d hd

/-- Digits without noughts at the end are just those of their number. -/
theorem canon_digs : ∀ {l : List Nat}, Canon l → digs (val l) = l
  | [], _ => digs_zero
  | [d], h => by
    have hd := h.1 d (by simp)
    have h0 : d ≠ 0 := fun e => h.2 (by simp [e])
    have e1 : val [d] = d := by simp [val]
    rw [e1, digs_pos h0, Nat.mod_eq_of_lt hd, Nat.div_eq_of_lt hd, digs_zero]
  | d :: e :: l, h => by
    have hd := h.1 d (by simp)
    have ih := canon_digs (l := e :: l) ⟨fun x hx => h.1 x (by simp [hx]), by have := h.2; rwa [List.getLast?_cons_cons] at this⟩
    have hv : val (d :: e :: l) = d + 10 * val (e :: l) := rfl
    have hne : val (e :: l) ≠ 0 := fun hz => by rw [hz, digs_zero] at ih; cases ih
    rw [hv, digs_pos (by omega), show (d + 10 * val (e :: l)) % 10 = d by omega, show (d + 10 * val (e :: l)) / 10 = val (e :: l) by omega, ih]

/-- How many digits are left without the noughts at the end. -/
def tlen (l : List Nat) : Nat → Nat
  | 0 => 0
  | n + 1 => if l[n]? = some 0 then tlen l n else n + 1

theorem tlen_le (l : List Nat) : ∀ n, tlen l n ≤ n
  | 0 => Nat.le_refl _
  | n + 1 => by simp only [tlen]; split; exact Nat.le_succ_of_le (tlen_le l n); exact Nat.le_refl _

theorem val_append : ∀ (l k : List Nat), val (l ++ k) = val l + 10 ^ l.length * val k
  | [], k => by simp [val]
  | d :: l, k => by
    simp only [List.cons_append, val, val_append l k, List.length_cons, Nat.pow_succ]
    rw [Nat.mul_add, Nat.add_assoc, show 10 * (10 ^ l.length * val k) = 10 ^ l.length * 10 * val k by rw [Nat.mul_comm (10 ^ l.length) 10, Nat.mul_assoc]]

theorem tlen_spec (l : List Nat) (hs : Small l) : ∀ n, n ≤ l.length → val (l.take (tlen l n)) = val (l.take n) ∧ Canon (l.take (tlen l n))
  | 0, _ => ⟨rfl, by simp [tlen, Canon, Small]⟩
  | n + 1, hn => by
    simp only [tlen]
    have hlt : n < l.length := by omega
    split
    · rename_i h0
      obtain ⟨h1, h2⟩ := tlen_spec l hs n (by omega)
      refine ⟨?_, h2⟩
      rw [h1]
      have ht : l.take (n + 1) = l.take n ++ [0] := by
        rw [List.take_add_one, h0]; rfl
      rw [ht, val_append]; simp [val]
    · rename_i h0
      refine ⟨rfl, fun d hd => hs d (List.mem_of_mem_take hd), ?_⟩
      have ht : l.take (n + 1) = l.take n ++ [l[n]] := by
        rw [List.take_add_one, List.getElem?_eq_getElem hlt]; rfl
      rw [ht, List.getLast?_concat]
      intro e
      apply h0
      rw [List.getElem?_eq_getElem hlt]; exact e

/-- Digits cut where noughts end them. -/
theorem trim_eq {l : List Nat} (hs : Small l) : l.take (tlen l l.length) = digs (val l) := by
  obtain ⟨h1, h2⟩ := tlen_spec l hs l.length (Nat.le_refl _)
  rw [List.take_length] at h1
  rw [← canon_digs h2, h1]

/-- Digits together, with what is carried. -/
def addL : List Nat → List Nat → Nat → List Nat
  | [], [], c => if c = 0 then [] else [c]
  | a :: as, [], c => (a + c) % 10 :: addL as [] ((a + c) / 10)
  | [], b :: bs, c => (b + c) % 10 :: addL [] bs ((b + c) / 10)
  | a :: as, b :: bs, c => (a + b + c) % 10 :: addL as bs ((a + b + c) / 10)

theorem val_addL : ∀ (a b : List Nat) (c : Nat), val (addL a b c) = val a + val b + c
  | [], [], c => by simp only [addL]; split <;> simp_all [val]
  | a :: as, [], c => by simp only [addL, val, val_addL as [] ((a + c) / 10)]; omega
  | [], b :: bs, c => by simp only [addL, val, val_addL [] bs ((b + c) / 10)]; omega
  | a :: as, b :: bs, c => by simp only [addL, val, val_addL as bs ((a + b + c) / 10)]; omega

theorem small_addL : ∀ {a b : List Nat} {c : Nat}, Small a → Small b → c ≤ 1 → Small (addL a b c)
  | [], [], c, _, _, hc => by
    simp only [addL]; split
    · intro d hd; simp at hd
    · intro d hd; simp at hd; omega
  | a :: as, [], c, ha, hb, hc => by
    have h1 := ha a (by simp)
    have ih := small_addL (a := as) (b := []) (c := (a + c) / 10) (fun d hd => ha d (by simp [hd])) hb (by omega)
    intro d hd
    simp only [addL] at hd
    rcases List.mem_cons.1 hd with rfl | hd
    · omega
    · exact ih d hd
  | [], b :: bs, c, ha, hb, hc => by
    have h1 := hb b (by simp)
    have ih := small_addL (a := []) (b := bs) (c := (b + c) / 10) ha (fun d hd => hb d (by simp [hd])) (by omega)
    intro d hd
    simp only [addL] at hd
    rcases List.mem_cons.1 hd with rfl | hd
    · omega
    · exact ih d hd
  | a :: as, b :: bs, c, ha, hb, hc => by
    have h1 := ha a (by simp)
    have h2 := hb b (by simp)
    have ih := small_addL (a := as) (b := bs) (c := (a + b + c) / 10) (fun d hd => ha d (by simp [hd])) (fun d hd => hb d (by simp [hd])) (by omega)
    intro d hd
    simp only [addL] at hd
    rcases List.mem_cons.1 hd with rfl | hd
    · omega
    · exact ih d hd

theorem length_addL : ∀ (a b : List Nat) (c : Nat), (addL a b c).length ≤ max a.length b.length + 1
  | [], [], c => by simp only [addL]; split <;> simp
  | a :: as, [], c => by have := length_addL as [] ((a + c) / 10); simp only [addL, List.length_cons, List.length_nil] at *; omega
  | [], b :: bs, c => by have := length_addL [] bs ((b + c) / 10); simp only [addL, List.length_cons, List.length_nil] at *; omega
  | a :: as, b :: bs, c => by have := length_addL as bs ((a + b + c) / 10); simp only [addL, List.length_cons] at *; omega

/-- Digits less others, with what is borrowed. -/
def subL : List Nat → List Nat → Nat → List Nat
  | [], _, _ => []
  | a :: as, bs, c => if a < bs.headD 0 + c then (a + 10 - bs.headD 0 - c) :: subL as bs.tail 1 else (a - bs.headD 0 - c) :: subL as bs.tail 0

theorem val_headD (bs : List Nat) : val bs = bs.headD 0 + 10 * val bs.tail := by cases bs <;> simp [val]
theorem small_headD {bs : List Nat} (h : Small bs) : bs.headD 0 < 10 := by
  cases bs with
  | nil => simp
  | cons b bs => exact h b (by simp)
theorem small_tail {bs : List Nat} (h : Small bs) : Small bs.tail := fun d hd => h d (List.mem_of_mem_tail hd)

theorem val_subL : ∀ {a b : List Nat} {c : Nat}, Small a → Small b → c ≤ 1 → val b + c ≤ val a → val (subL a b c) + val b + c = val a
  | [], b, c, _, _, _, h => by simp only [subL, val] at *; omega
  | a :: as, b, c, ha, hb, hc, h => by
    have h1 := ha a (by simp)
    have h2 := small_headD hb
    have hv := val_headD b
    have hs := small_tail hb
    have ha' : Small as := fun d hd => ha d (by simp [hd])
    simp only [subL]
    simp only [val] at h
    split
    · have ih := val_subL (a := as) (b := b.tail) (c := 1) ha' hs (by omega) (by omega)
      simp only [val]; omega
    · have ih := val_subL (a := as) (b := b.tail) (c := 0) ha' hs (by omega) (by omega)
      simp only [val]; omega

theorem small_subL : ∀ {a b : List Nat} {c : Nat}, Small a → Small b → c ≤ 1 → Small (subL a b c)
  | [], b, c, _, _, _ => by simp only [subL]; intro d hd; simp at hd
  | a :: as, b, c, ha, hb, hc => by
    have h1 := ha a (by simp)
    have h2 := small_headD hb
    have ha' : Small as := fun d hd => ha d (by simp [hd])
    simp only [subL]
    intro d hd
    split at hd
    · rcases List.mem_cons.1 hd with rfl | hd
      · omega
      · exact small_subL ha' (small_tail hb) (by omega) d hd
    · rcases List.mem_cons.1 hd with rfl | hd
      · omega
      · exact small_subL ha' (small_tail hb) (by omega) d hd

theorem length_subL : ∀ (a b : List Nat) (c : Nat), (subL a b c).length = a.length
  | [], b, c => rfl
  | a :: as, b, c => by simp only [subL]; split <;> simp [length_subL as]

/-- Where all higher digits are alike, the first unlike one tells. -/
theorem val_lt_pow : ∀ {l : List Nat}, Small l → val l < 10 ^ l.length
  | [], _ => by simp [val]
  | d :: l, h => by
    have h1 := h d (by simp)
    have ih := val_lt_pow (l := l) fun x hx => h x (by simp [hx])
    simp only [val, List.length_cons, Nat.pow_succ]; omega

theorem val_split (l : List Nat) (i : Nat) (hi : i < l.length) : val l = val (l.take i) + 10 ^ i * (l[i] + 10 * val (l.drop (i + 1))) := by
  conv => lhs; rw [← List.take_append_drop i l, val_append, List.drop_eq_getElem_cons hi]
  rw [List.length_take, Nat.min_eq_left (by omega)]; rfl

theorem less_at {a b : List Nat} (ha : Small a) {i : Nat} (hi : i < a.length) (hj : i < b.length) (hd : a.drop (i + 1) = b.drop (i + 1)) (h : a[i] < b[i]) : val a < val b := by
  rw [val_split a i hi, val_split b i hj, hd]
  have h1 := val_lt_pow (l := a.take i) fun d hd => ha d (List.mem_of_mem_take hd)
  rw [List.length_take, Nat.min_eq_left (by omega)] at h1
  have h2 : 10 ^ i * (a[i] + 1 + 10 * val (b.drop (i + 1))) ≤ 10 ^ i * (b[i] + 10 * val (b.drop (i + 1))) := Nat.mul_le_mul_left _ (by omega)
  have h3 : 10 ^ i * (a[i] + 1 + 10 * val (b.drop (i + 1))) = 10 ^ i * (a[i] + 10 * val (b.drop (i + 1))) + 10 ^ i := by
    rw [show a[i] + 1 + 10 * val (b.drop (i + 1)) = (a[i] + 10 * val (b.drop (i + 1))) + 1 by omega, Nat.mul_add, Nat.mul_one]
  omega

theorem digs_length_lt {m n : Nat} : (digs m).length < (digs n).length → m < n := by
  intro h
  have h1 := val_lt_pow (small_digs m)
  rw [val_digs] at h1
  -- the last digit of n is no nought
  have key : ∀ n, n ≠ 0 → 10 ^ ((digs n).length - 1) ≤ n := by
    intro n
    induction n using Nat.strongRecOn with
    | _ n ih =>
      intro hn
      rw [digs_pos hn, List.length_cons, Nat.add_sub_cancel]
      rcases Nat.eq_zero_or_pos (n / 10) with h0 | h0
      · rw [h0, digs_zero]; simp; omega
      · have := ih (n / 10) (by omega) (by omega)
        have hl : (digs (n / 10)).length ≠ 0 := by
          rw [digs_pos (by omega)]; simp
        obtain ⟨k, hk⟩ : ∃ k, (digs (n / 10)).length = k + 1 := ⟨(digs (n / 10)).length - 1, by omega⟩
        rw [hk, Nat.add_sub_cancel] at this
        rw [hk, Nat.pow_succ]; omega
  have hn : n ≠ 0 := by
    intro e; subst e; rw [digs_zero] at h; simp at h
  have h2 := key n hn
  have h3 : 10 ^ (digs m).length ≤ 10 ^ ((digs n).length - 1) := Nat.pow_le_pow_right (by omega) (by omega)
  omega

theorem digs_length_le {n k : Nat} (h : n < 10 ^ k) : (digs n).length ≤ k := by
  rcases Nat.lt_or_ge k (digs n).length with h1 | h1
  · exfalso
    have h2 : (digs (10 ^ k - 1)).length < (digs n).length ∨ (digs n).length ≤ (digs (10 ^ k - 1)).length := by omega
    have key : ∀ k n, n < 10 ^ k → (digs n).length ≤ k := by
      intro k
      induction k with
      | zero => intro n hn; have : n = 0 := by simpa using hn
                subst this; rw [digs_zero]; simp
      | succ k ih =>
        intro n hn
        rcases Nat.eq_zero_or_pos n with h0 | h0
        · subst h0; rw [digs_zero]; simp
        · rw [digs_pos (by omega), List.length_cons]
          have := ih (n / 10) (by rw [Nat.pow_succ] at hn; omega)
          omega
    have := key k n h
    omega
  · exact h1

theorem drop_cases (a : List Nat) (i : Nat) : (a.drop i = [] ∧ a[i]? = none ∧ a.drop (i + 1) = [] ∧ a.length ≤ i) ∨ (∃ x, a.drop i = x :: a.drop (i + 1) ∧ a[i]? = some x ∧ i < a.length) := by
  rcases Nat.lt_or_ge i a.length with h | h
  · exact .inr ⟨a[i], List.drop_eq_getElem_cons h, List.getElem?_eq_getElem h, h⟩
  · exact .inl ⟨List.drop_eq_nil_of_le h, List.getElem?_eq_none h, List.drop_eq_nil_of_le (by omega), h⟩
/-- One round of digits together. -/
theorem add_step (a b : List Nat) (i c : Nat) (h : i < a.length ∨ i < b.length ∨ 0 < c) (hc : c < 10) :
    addL (a.drop i) (b.drop i) c = ((a[i]?.getD 0) + (b[i]?.getD 0) + c) % 10 :: addL (a.drop (i + 1)) (b.drop (i + 1)) (((a[i]?.getD 0) + (b[i]?.getD 0) + c) / 10) := by
  rcases drop_cases a i with ⟨a1, a2, a3, a4⟩ | ⟨x, a1, a2, a3⟩ <;> rcases drop_cases b i with ⟨b1, b2, b3, b4⟩ | ⟨y, b1, b2, b3⟩
  · rw [a1, a2, a3, b1, b2, b3]
    have : c ≠ 0 := by omega
    have e1 : c % 10 = c := Nat.mod_eq_of_lt hc
    have e2 : c / 10 = 0 := Nat.div_eq_of_lt hc
    simp [addL, this, e1, e2]
  · rw [a1, a2, a3, b1, b2]; simp [addL]
  · rw [a1, a2, b1, b2, b3]; simp [addL]
  · rw [a1, a2, b1, b2]; simp [addL]

/-- One round of digits less others. -/
theorem sub_step (a b : List Nat) (i c d e : Nat) (hd : a[i]? = some d) (he : b[i]?.getD 0 = e) :
    subL (a.drop i) (b.drop i) c = if d < e + c then (d + 10 - e - c) :: subL (a.drop (i + 1)) (b.drop (i + 1)) 1 else (d - e - c) :: subL (a.drop (i + 1)) (b.drop (i + 1)) 0 := by
  obtain ⟨x, a1, a2, a3⟩ := (drop_cases a i).resolve_left (by rintro ⟨_, h, _⟩; rw [hd] at h; cases h)
  rw [hd] at a2
  cases a2
  rw [a1]
  rcases drop_cases b i with ⟨b1, b2, b3, b4⟩ | ⟨y, b1, b2, b3⟩
  · rw [b2] at he; simp at he; subst he
    rw [b1, b3]; simp [subL]
  · rw [b2] at he; simp at he; subst he
    rw [b1]; simp [subL]

end Go.Proofs.Ytdodgbhodkcckaa.Dig
