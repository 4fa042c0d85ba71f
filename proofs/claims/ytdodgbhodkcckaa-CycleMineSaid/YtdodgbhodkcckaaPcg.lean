/- Cycles: plain laws of nets: of parts, of all together, of one that is another one. -/
import Derived.Test.YtdodgbhodkcckaaPcb
set_option linter.unusedVariables false
set_option linter.unusedSimpArgs false
set_option autoImplicit false
set_option maxRecDepth 100000
namespace Go.Proofs.Ytdodgbhodkcckaa.Pv
open Go Go.RowKit

theorem fit_take {n : Int} : ∀ {l : List Line} {p : Option Line} (k : Nat), fitV n p l = 0 → fitV n p (l.take k) = 0
  | [], p, k, h => by simpa using h
  | x :: l, p, 0, h => rfl
  | x :: l, p, k + 1, h => by
    rw [List.take_succ_cons]
    rw [fitV] at h ⊢
    by_cases hb : badL n x = true
    · rw [if_pos hb] at h; cases h
    · rw [if_neg hb] at h ⊢
      by_cases hu : upset p x = true
      · rw [if_pos hu] at h; cases h
      · rw [if_neg hu] at h ⊢
        exact fit_take k h
theorem fit_none {n : Int} {l : List Line} {p : Option Line} (h : fitV n p l = 0) : fitV n none l = 0 := by
  cases l with
  | nil => rfl
  | cons x l =>
    rw [fitV] at h ⊢
    by_cases hb : badL n x = true
    · rw [if_pos hb] at h; cases h
    · rw [if_neg hb] at h ⊢
      by_cases hu : upset p x = true
      · rw [if_pos hu] at h; cases h
      · rw [if_neg hu] at h
        rw [if_neg (by simp [upset])]
        exact h
theorem fit_drop {n : Int} : ∀ {l : List Line} {p : Option Line} (k : Nat), fitV n p l = 0 → fitV n none (l.drop k) = 0
  | [], p, k, h => by simp [fitV]
  | x :: l, p, 0, h => fit_none h
  | x :: l, p, k + 1, h => by
    rw [List.drop_succ_cons]
    rw [fitV] at h
    by_cases hb : badL n x = true
    · rw [if_pos hb] at h; cases h
    · rw [if_neg hb] at h
      by_cases hu : upset p x = true
      · rw [if_pos hu] at h; cases h
      · rw [if_neg hu] at h
        exact fit_drop k h
theorem netL_append (j : Int) (l m : List Line) : netL j (l ++ m) = netL j l + netL j m := by unfold netL; rw [flows_append, sumOf_append]
theorem netL_split (j : Int) (l : List Line) (k : Nat) : netL j (l.take k) + netL j (l.drop k) = netL j l := by rw [← netL_append, List.take_append_drop]

def sumJ (n : Nat) (f : Nat → Int) : Int := sumOf ((List.range n).map f)
theorem sumJ_zero (f : Nat → Int) : sumJ 0 f = 0 := rfl
theorem sumJ_succ (n : Nat) (f : Nat → Int) : sumJ (n + 1) f = sumJ n f + f n := by
  unfold sumJ
  rw [List.range_succ, List.map_append, sumOf_append]
  simp [sumOf]
theorem sumJ_add (f g : Nat → Int) : ∀ n, sumJ n (fun j => f j + g j) = sumJ n f + sumJ n g
  | 0 => rfl
  | n + 1 => by rw [sumJ_succ, sumJ_succ, sumJ_succ, sumJ_add f g n]; omega
theorem sumJ_nil : ∀ n : Nat, sumJ n (fun _ => 0) = 0
  | 0 => rfl
  | n + 1 => by rw [sumJ_succ, sumJ_nil n]; rfl
theorem flow1_sum (j : Int) (x : Line) : sumOf (flow1 j x) = if x.seller = j then x.amount else if x.buyer = j then -x.amount else 0 := by
  unfold flow1
  split
  · simp [sumOf]
  · split <;> simp [sumOf]
theorem sumJ_one (x : Line) (h : x.seller ≠ x.buyer) (hs : 0 ≤ x.seller) (hb : 0 ≤ x.buyer) : ∀ n : Nat, sumJ n (fun j => sumOf (flow1 j x)) = (if x.seller < n then x.amount else 0) + (if x.buyer < n then -x.amount else 0)
  | 0 => by rw [sumJ_zero, if_neg (by omega), if_neg (by omega)]; rfl
  | n + 1 => by
    rw [sumJ_succ, sumJ_one x h hs hb n, flow1_sum]
    by_cases h1 : x.seller = (n : Int)
    · rw [if_pos h1, if_neg (by omega), if_pos (c := x.seller < ((n + 1 : Nat) : Int)) (by omega)]
      by_cases h2 : x.buyer < (n : Int)
      · rw [if_pos h2, if_pos (by omega)]; omega
      · rw [if_neg h2, if_neg (by omega)]; omega
    · rw [if_neg h1]
      by_cases h2 : x.buyer = (n : Int)
      · rw [if_pos h2, if_neg (c := x.buyer < (n : Int)) (by omega), if_pos (c := x.buyer < ((n + 1 : Nat) : Int)) (by omega)]
        by_cases h3 : x.seller < (n : Int)
        · rw [if_pos h3, if_pos (by omega)]; omega
        · rw [if_neg h3, if_neg (by omega)]; omega
      · rw [if_neg h2]
        have e1 : (x.seller < ((n + 1 : Nat) : Int)) = (x.seller < (n : Int)) := by simp only [eq_iff_iff]; omega
        have e2 : (x.buyer < ((n + 1 : Nat) : Int)) = (x.buyer < (n : Int)) := by simp only [eq_iff_iff]; omega
        simp only [e1, e2]; omega
/-- All together have nothing. -/
theorem sum_nets {n : Nat} : ∀ {l : List Line}, (∀ x ∈ l, LineOK n x) → sumJ n (fun j => netL j l) = 0
  | [], _ => by
    have : (fun j : Nat => netL j []) = fun _ => 0 := by funext j; simp [netL, flows, sumOf]
    rw [this]
    exact sumJ_nil n
  | x :: l, h => by
    have hx := h x (by simp)
    have e : (fun j : Nat => netL j (x :: l)) = fun j : Nat => sumOf (flow1 j x) + netL j l := by
      funext j; unfold netL; rw [flows, sumOf_append]
    rw [e, sumJ_add, sum_nets fun y hy => h y (by simp [hy]), sumJ_one x hx.sb hx.s.1 hx.b.1, if_pos hx.s.2, if_pos hx.b.2]
    omega
theorem sum_outs {n : Nat} {l : List Line} (h : ∀ x ∈ l, LineOK n x) : sumOf (outs n l) = 0 := sum_nets h

/-- Another one in its place is another one. -/
theorem xor_other {a b : Int} (ha : -9223372036854775808 ≤ a ∧ a ≤ 9223372036854775807) (hb : -9223372036854775808 ≤ b ∧ b ≤ 9223372036854775807) (h0 : b ≠ 0) :
    IntKind.i64.wrap (BitVec.ofInt IntKind.i64.bits a ^^^ BitVec.ofInt IntKind.i64.bits b).toNat ≠ a := by
  intro h
  have hw : IntKind.i64.wrap ((BitVec.ofInt IntKind.i64.bits a ^^^ BitVec.ofInt IntKind.i64.bits b).toNat : Int) = (BitVec.ofInt 64 a ^^^ BitVec.ofInt 64 b).toInt := by
    change IntKind.i64.wrap ((BitVec.ofInt 64 a ^^^ BitVec.ofInt 64 b).toNat : Int) = _
    generalize BitVec.ofInt 64 a ^^^ BitVec.ofInt 64 b = z
    rw [BitVec.toInt_eq_toNat_cond]
    have hz := z.isLt
    have hz2 : (z.toNat : Int) < 18446744073709551616 := by omega
    generalize z.toNat = m at *
    clear hz h
    have e : ((2 : Int) ^ 64) = 18446744073709551616 := by decide
    have e3 : ((2 : Nat) ^ 64) = 18446744073709551616 := by decide
    have e2 : IntKind.i64.bits = 64 := rfl
    have e4 : ((2 : Int) ^ (64 - 1)) = 9223372036854775808 := by decide
    have e5 : IntKind.i64.signed = true := rfl
    unfold IntKind.wrap
    rw [e2, e, e4, e3, e5]
    simp only [Bool.true_and, decide_eq_true_eq]
    have hm : (m : Int) % 18446744073709551616 = m := Int.emod_eq_of_lt (by omega) hz2
    rw [hm]
    split <;> split <;> omega
  rw [hw] at h
  have h2 : BitVec.ofInt 64 a ^^^ BitVec.ofInt 64 b = BitVec.ofInt 64 a := by
    apply BitVec.eq_of_toInt_eq
    rw [h, BitVec.toInt_ofInt]
    simp [Int.bmod]; omega
  have h3 : BitVec.ofInt 64 b = 0#64 := by
    have := congrArg (BitVec.ofInt 64 a ^^^ ·) h2
    simpa [← BitVec.xor_assoc] using this
  have h4 := congrArg BitVec.toInt h3
  rw [BitVec.toInt_ofInt] at h4
  simp [Int.bmod] at h4
  omega

end Go.Proofs.Ytdodgbhodkcckaa.Pv
