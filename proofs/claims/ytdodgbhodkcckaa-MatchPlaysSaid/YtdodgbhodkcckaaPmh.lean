/- Matching: what small desks do, plain laws. -/
import Derived.Test.YtdodgbhodkcckaaPmg
set_option linter.unusedVariables false
set_option linter.unusedSimpArgs false
set_option autoImplicit false
set_option maxRecDepth 100000
namespace Go.Proofs.Ytdodgbhodkcckaa.Pv
open Go Go.RowKit

theorem cmpN_self (s n : Int) : cmpN s n s n = 0 := by simp [cmpN, cmpI]
theorem posOf_nil (s n : Int) : posOf [] s n = 0 := by unfold posOf; exact bsLoop_end (by simp)
theorem isIn_nil (s n : Int) : isIn [] s n = false := by simp [isIn, posOf_nil]
theorem posOf_one (x : Item) : posOf [x] x.seller x.number = 0 := by
  unfold posOf
  rw [bsLoop_ge (by simp) (by simp [cmpAt, cmpN_self])]
  exact bsLoop_end (by simp)
theorem isIn_one (x : Item) : isIn [x] x.seller x.number = true := by simp [isIn, posOf_one, cmpAt, cmpN_self]
theorem getI_one (x : Item) : getI [x] x.seller x.number = x := by simp [getI, isIn_one, posOf_one]
theorem getI_nil (s n : Int) : getI [] s n = Item.zero := by simp [getI, isIn_nil]
theorem putIn_nil (x : Item) : putIn [] x = [x] := by simp [putIn, isIn_nil, posOf_nil]
theorem putIn_one (x y : Item) (hs : y.seller = x.seller) (hn : y.number = x.number) : putIn [x] y = [y] := by
  unfold putIn
  rw [hs, hn, isIn_one, posOf_one]; simp
theorem posO_nil (s n : Int) : posO [] s n = 0 := by unfold posO; exact bsLoop_end (by simp)
theorem isInO_nil (s n : Int) : isInO [] s n = false := by simp [isInO, posO_nil]
theorem posO_one (x : Order) : posO [x] x.seller x.number = 0 := by
  unfold posO
  rw [bsLoop_ge (by simp) (by simp [cmpAtO, cmpN_self])]
  exact bsLoop_end (by simp)
theorem isInO_one (x : Order) : isInO [x] x.seller x.number = true := by simp [isInO, posO_one, cmpAtO, cmpN_self]
theorem getO_one (x : Order) : getO [x] x.seller x.number = x.amount := by simp [getO, isInO_one, posO_one]
theorem putO_nil (x : Order) : putO [] x = [x] := by simp [putO, isInO_nil, posO_nil]
theorem desk0_ok {me far : Int} (hf : In64 far) : DeskOK (desk0 me far) := ⟨by simp [desk0], by simp [desk0], by simp [desk0], by simp [desk0], hf⟩
theorem chk_ok {s n b c a r st : Int} (h1 : 0 ≤ s ∧ s < 8) (h2 : 0 ≤ b ∧ b < 8) (h3 : b ≠ s) (h4 : 1 ≤ n ∧ n ≤ 1048576) (h5 : 0 ≤ c ∧ c < 8) (h6 : 1 ≤ a ∧ a ≤ 1125899906842624) (h7 : 0 ≤ r ∧ r ≤ 3) (h8 : 1 ≤ st ∧ st ≤ 4) : chk ⟨s, n, b, c, a, r, st, 0⟩ = 0 := by
  unfold chk
  simp only
  rw [if_neg (by simp; omega), if_neg (by simp; omega), if_neg (by simpa using h3), if_neg (by simp; omega), if_neg (by simp; omega), if_neg (by simp; omega), if_neg (by simp; omega), if_neg (by simp; omega), if_neg (by simp), if_neg (by simp), if_neg (by simp; omega)]

/-- An item is proposed to a desk that has none. -/
theorem do_propose {os : List Order} {far a : Int} (ha : 1 ≤ a ∧ a ≤ 1125899906842624) (l n : D) {nr : Bool} (hn : (isInO os 0 3 && nearV (getO os 0 3) a far) = nr) :
    doR ⟨1, [], os, far⟩ ⟨6, 0, 3, 1, 0, 0, 0, a, false, l, n⟩ 0 = ⟨0, ⟨1, [⟨0, 3, 1, 0, a, 0, if nr = true then 3 else 2, 0⟩], os, far⟩, some (saidD 0 (about (if nr = true then 7 else 8) ⟨0, 3, 1, 0, a, 0, if nr = true then 3 else 2, 0⟩))⟩ := by
  have e0 : chk ⟨0, 3, 1, 0, a, 0, 1, 0⟩ = 0 := chk_ok (by omega) (by omega) (by omega) (by omega) (by omega) ha (by omega) (by omega)
  have e1 : chk (propI ⟨6, 0, 3, 1, 0, 0, 0, a, false, l, n⟩) = 0 := e0
  have e2 : propY ⟨1, [], os, far⟩ ⟨6, 0, 3, 1, 0, 0, 0, a, false, l, n⟩ = ⟨0, 3, 1, 0, a, 0, if nr = true then 3 else 2, 0⟩ := by
    unfold propY propN
    simp only [hn]
    cases nr <;> simp [stepI, propI, newI]
  have e3 : propK ⟨1, [], os, far⟩ ⟨6, 0, 3, 1, 0, 0, 0, a, false, l, n⟩ = if nr = true then 7 else 8 := by
    unfold propK propN
    simp only [hn]
  have e4 : propS ⟨1, [], os, far⟩ ⟨6, 0, 3, 1, 0, 0, 0, a, false, l, n⟩ = false := by simp [propS, isIn_nil]
  have e5 : ∀ st : Int, 1 ≤ st ∧ st ≤ 4 → putE 1 [] ⟨0, 3, 1, 0, a, 0, st, 0⟩ = 0 := fun st hst => by
    unfold putE
    rw [chk_ok (by omega) (by omega) (by omega) (by omega) (by omega) ha (by omega) hst]
    simp [isIn_nil]
  have e6 := e5 (if nr = true then 3 else 2) (by cases nr <;> simp)
  unfold doR
  simp only [Int.reduceEq, if_false, if_true]
  unfold Out.of proposeR
  rw [e1, e2, e3, e4, e6]
  simp [Desk.put, e6, putIn_nil]
theorem do_order {me far s n a : Int} (h : expE me [] ⟨s, n, a⟩ = 0) (c : Int) (b cu r cy : Int) (y : Bool) (l ne : D) : doR (desk0 me far) ⟨2, s, n, b, cu, r, cy, a, y, l, ne⟩ (-1) = ⟨0, ⟨me, [], [⟨s, n, a⟩], far⟩, none⟩ := by
  unfold doR
  simp only [Int.reduceEq, if_false, if_true]
  unfold Out.of orderR desk0
  simp [h, putO_nil]
theorem do_issue {far n b a : Int} (hb : 0 < b ∧ b < 8) (hn : 1 ≤ n ∧ n ≤ 1048576) (ha : 1 ≤ a ∧ a ≤ 1125899906842624) (l ne : D) : doR (desk0 0 far) ⟨1, 0, n, b, 0, 0, 0, a, false, l, ne⟩ (-1) = ⟨0, ⟨0, [⟨0, n, b, 0, a, 0, 1, 0⟩], [], far⟩, some (saidD b (about 6 ⟨0, n, b, 0, a, 0, 1, 0⟩))⟩ := by
  have e0 : chk ⟨0, n, b, 0, a, 0, 1, 0⟩ = 0 := chk_ok (by omega) (by omega) (by omega) hn (by omega) ha (by omega) (by omega)
  have e1 : chk (issueI ⟨1, 0, n, b, 0, 0, 0, a, false, l, ne⟩) = 0 := e0
  have e6 : putE 0 [] ⟨0, n, b, 0, a, 0, 1, 0⟩ = 0 := by
    unfold putE
    rw [chk_ok (by omega) (by omega) (by omega) hn (by omega) ha (by omega) (by omega)]
    simp [isIn_nil]
  unfold doR
  simp only [Int.reduceEq, if_false, if_true]
  unfold Out.of issueR desk0
  rw [e1]
  have e7 : issueI ⟨1, 0, n, b, 0, 0, 0, a, false, l, ne⟩ = ⟨0, n, b, 0, a, 0, 1, 0⟩ := rfl
  rw [e7]
  simp [Desk.put, e6, putIn_nil, isIn_nil]
theorem do_confirm {far n b a : Int} (hb : 0 < b ∧ b < 8) (hn : 1 ≤ n ∧ n ≤ 1048576) (ha : 1 ≤ a ∧ a ≤ 1125899906842624) (x y z : Int) (q : Bool) (l ne : D) : doR ⟨0, [⟨0, n, b, 0, a, 0, 1, 0⟩], [], far⟩ ⟨7, 0, n, x, y, 0, z, a, q, l, ne⟩ b = ⟨0, ⟨0, [⟨0, n, b, 0, a, 0, 3, 0⟩], [], far⟩, none⟩ := by
  have i1 := isIn_one ⟨0, n, b, 0, a, 0, 1, 0⟩
  have g1 := getI_one ⟨0, n, b, 0, a, 0, 1, 0⟩
  simp only at i1 g1
  have e6 : putE 0 [⟨0, n, b, 0, a, 0, 1, 0⟩] ⟨0, n, b, 0, a, 0, 3, 0⟩ = 0 := by
    unfold putE
    rw [chk_ok (by omega) (by omega) (by omega) hn (by omega) ha (by omega) (by omega)]
    simp [i1]
  have hb1 : (b == -1) = false := by rw [beq_eq_false_iff_ne]; omega
  have p1 : putIn [⟨0, n, b, 0, a, 0, 1, 0⟩] ⟨0, n, b, 0, a, 0, 3, 0⟩ = [⟨0, n, b, 0, a, 0, 3, 0⟩] := putIn_one _ _ rfl rfl
  unfold doR
  simp only [Int.reduceEq, if_false, if_true]
  unfold Out.of confirmR ansE mineE
  simp only [i1, g1]
  simp [hb1, stepE, stepI, Desk.put, e6, p1]

end Go.Proofs.Ytdodgbhodkcckaa.Pv
