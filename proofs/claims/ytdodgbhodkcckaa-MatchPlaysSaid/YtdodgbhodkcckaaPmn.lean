/- Matching: what is heard twice does nothing the second time, plain laws. -/
import Derived.Test.YtdodgbhodkcckaaPmk
set_option linter.unusedVariables false
set_option linter.unusedSimpArgs false
set_option autoImplicit false
set_option maxRecDepth 100000
namespace Go.Proofs.Ytdodgbhodkcckaa.Pv
open Go Go.RowKit

theorem step_name (x : Item) (f t : Int) : (stepI x f t).seller = x.seller ∧ (stepI x f t).number = x.number := by unfold stepI; split <;> exact ⟨rfl, rfl⟩
theorem step_state {x : Item} {f t : Int} (h : stepE x f = 0) : (stepI x f t).state = t := by
  unfold stepE at h
  split at h
  · rename_i hx; unfold stepI; rw [if_pos hx]
  · cases h
theorem adj_name (x : Item) (a : Int) : (adjI x a).seller = x.seller ∧ (adjI x a).number = x.number := by unfold adjI; split <;> exact ⟨rfl, rfl⟩
theorem mine_in {d : Desk} {s n : Int} (h : mineE d s n = 0) : isIn d.items s n = true := by
  unfold mineE at h
  cases hi : isIn d.items s n with
  | true => rfl
  | false => rw [hi, if_neg (by simp)] at h; cases h
theorem ans_in {d : Desk} {m : Msg} {f : Int} (h : ansE d m f = 0) : isIn d.items m.seller m.number = true := by
  unfold ansE at h
  split at h
  · rename_i h1; exact absurd h h1
  · rename_i h1; exact mine_in (by simpa using h1)
/-- What was put under a name is there. -/
theorem put_at {d : Desk} (h : DeskGd d) {y : Item} {s n : Int} (hy : y.seller = s ∧ y.number = n) (he : putE d.me d.items y = 0) : isIn (d.put y).items s n = true ∧ getI (d.put y).items s n = y := by
  obtain ⟨rfl, rfl⟩ := hy
  exact put_get h he
theorem issue2 {d : Desk} (h : DeskGd d) {m : Msg} (he : (issueR d m).e = 0) : (issueR (issueR d m).d m).e ≠ 0 := by
  by_cases a : m.seller ≠ d.me
  · unfold issueR at he; rw [if_pos a] at he; simp at he
  by_cases b : isIn d.items m.seller m.number = true
  · unfold issueR at he; rw [if_neg a, if_pos b] at he; simp at he
  by_cases c : chk (issueI m) ≠ 0
  · unfold issueR at he; rw [if_neg a, if_neg b, if_pos c] at he; exact absurd he c
  by_cases e : putE d.me d.items (issueI m) ≠ 0
  · unfold issueR at he; rw [if_neg a, if_neg b, if_neg c, if_pos e] at he; exact absurd he e
  have k : (issueR d m).d = d.put (issueI m) := by unfold issueR; rw [if_neg a, if_neg b, if_neg c, if_neg e]
  have P := put_at h (y := issueI m) (s := m.seller) (n := m.number) ⟨rfl, rfl⟩ (by simpa using e)
  rw [k]
  unfold issueR
  rw [if_neg (by rw [put_me]; exact a), if_pos P.1]; simp
theorem adjust2 {d : Desk} (h : DeskGd d) {m : Msg} {f : Int} (he : (adjustR d m f).e = 0) : (adjustR (adjustR d m f).d m f).e ≠ 0 := by
  by_cases a : mineE d m.seller m.number ≠ 0
  · unfold adjustR at he; rw [if_pos a] at he; exact absurd he a
  by_cases b : adjE (getI d.items m.seller m.number) m.amount ≠ 0
  · unfold adjustR at he; rw [if_neg a, if_pos b] at he; exact absurd he b
  have hi := mine_in (by simpa using a)
  have k : adjustR d m f = ⟨putE d.me d.items (adjI (getI d.items m.seller m.number) m.amount), d.put (adjI (getI d.items m.seller m.number) m.amount), some (saidD (adjI (getI d.items m.seller m.number) m.amount).buyer (about 6 (adjI (getI d.items m.seller m.number) m.amount)))⟩ := by unfold adjustR; rw [if_neg a, if_neg b]
  rw [k] at he ⊢
  have hn := adj_name (getI d.items m.seller m.number) m.amount
  have hm := isIn_name hi
  have P := put_at h (s := m.seller) (n := m.number) ⟨hn.1.trans hm.1, hn.2.trans hm.2⟩ he
  unfold adjustR
  rw [P.2]
  split
  · assumption
  · have hs : (adjI (getI d.items m.seller m.number) m.amount).state = 1 := by unfold adjI; rw [if_pos (by simpa using b)]
    have hb : adjE (adjI (getI d.items m.seller m.number) m.amount) m.amount = 90 := by unfold adjE; rw [if_pos (by rw [hs]; decide)]
    rw [hb, if_pos (by decide)]; simp
theorem withdraw2 {d : Desk} (h : DeskGd d) {m : Msg} {f : Int} (he : (withdrawR d m f).e = 0) : (withdrawR (withdrawR d m f).d m f).e ≠ 0 := by
  by_cases a : mineE d m.seller m.number ≠ 0
  · unfold withdrawR at he; rw [if_pos a] at he; exact absurd he a
  by_cases b : stepE (getI d.items m.seller m.number) 2 ≠ 0
  · unfold withdrawR at he; rw [if_neg a, if_pos b] at he; exact absurd he b
  have hi := mine_in (by simpa using a)
  have k1 : (withdrawR d m f).e = putE d.me d.items (stepI (getI d.items m.seller m.number) 2 4) := by unfold withdrawR; rw [if_neg a, if_neg b]
  have k2 : (withdrawR d m f).d = d.put (stepI (getI d.items m.seller m.number) 2 4) := by unfold withdrawR; rw [if_neg a, if_neg b]
  rw [k1] at he
  rw [k2]
  have hn := step_name (getI d.items m.seller m.number) 2 4
  have hm := isIn_name hi
  have P := put_at h (s := m.seller) (n := m.number) ⟨hn.1.trans hm.1, hn.2.trans hm.2⟩ he
  have hs := step_state (t := 4) (show stepE (getI d.items m.seller m.number) 2 = 0 by simpa using b)
  have hb : stepE (stepI (getI d.items m.seller m.number) 2 4) 2 = 90 := by unfold stepE; rw [hs, if_neg (by decide)]
  unfold withdrawR
  rw [P.2, hb]
  split
  · assumption
  · rw [if_pos (by decide)]; simp
theorem due2 {d : Desk} (h : DeskGd d) {m : Msg} {f : Int} (he : (dueR d m f).e = 0) : (dueR (dueR d m f).d m f).e ≠ 0 := by
  by_cases a : mineE d m.seller m.number ≠ 0
  · unfold dueR at he; rw [if_pos a] at he; exact absurd he a
  by_cases c : (getI d.items m.seller m.number).round ≠ m.round
  · unfold dueR at he; rw [if_neg a, if_pos c] at he; simp at he
  by_cases b : stepE (getI d.items m.seller m.number) 2 ≠ 0
  · unfold dueR at he; rw [if_neg a, if_neg c, if_pos b] at he; exact absurd he b
  have hi := mine_in (by simpa using a)
  have k1 : (dueR d m f).e = putE d.me d.items (stepI (getI d.items m.seller m.number) 2 4) := by unfold dueR; rw [if_neg a, if_neg c, if_neg b]
  have k2 : (dueR d m f).d = d.put (stepI (getI d.items m.seller m.number) 2 4) := by unfold dueR; rw [if_neg a, if_neg c, if_neg b]
  rw [k1] at he
  rw [k2]
  have hn := step_name (getI d.items m.seller m.number) 2 4
  have hm := isIn_name hi
  have P := put_at h (s := m.seller) (n := m.number) ⟨hn.1.trans hm.1, hn.2.trans hm.2⟩ he
  have hs := step_state (t := 4) (show stepE (getI d.items m.seller m.number) 2 = 0 by simpa using b)
  have hb : stepE (stepI (getI d.items m.seller m.number) 2 4) 2 = 90 := by unfold stepE; rw [hs, if_neg (by decide)]
  unfold dueR
  rw [P.2, hb]
  split
  · assumption
  · split
    · simp
    · rw [if_pos (by decide)]; simp
theorem confirm2 {d : Desk} (h : DeskGd d) {m : Msg} {f : Int} (he : (confirmR d m f).e = 0) : (confirmR (confirmR d m f).d m f).e ≠ 0 := by
  by_cases a : ansE d m f ≠ 0
  · unfold confirmR at he; rw [if_pos a] at he; exact absurd he a
  by_cases b : stepE (getI d.items m.seller m.number) 1 ≠ 0
  · unfold confirmR at he; rw [if_neg a, if_pos b] at he; exact absurd he b
  have hi := ans_in (by simpa using a)
  have k1 : (confirmR d m f).e = putE d.me d.items (stepI (getI d.items m.seller m.number) 1 3) := by unfold confirmR; rw [if_neg a, if_neg b]
  have k2 : (confirmR d m f).d = d.put (stepI (getI d.items m.seller m.number) 1 3) := by unfold confirmR; rw [if_neg a, if_neg b]
  rw [k1] at he
  rw [k2]
  have hn := step_name (getI d.items m.seller m.number) 1 3
  have hm := isIn_name hi
  have P := put_at h (s := m.seller) (n := m.number) ⟨hn.1.trans hm.1, hn.2.trans hm.2⟩ he
  have hs := step_state (t := 3) (show stepE (getI d.items m.seller m.number) 1 = 0 by simpa using b)
  have hb : stepE (stepI (getI d.items m.seller m.number) 1 3) 1 = 90 := by unfold stepE; rw [hs, if_neg (by decide)]
  unfold confirmR
  rw [P.2, hb]
  split
  · assumption
  · rw [if_pos (by decide)]; simp
theorem dispute2 {d : Desk} (h : DeskGd d) {m : Msg} {f : Int} (he : (disputeR d m f).e = 0) : (disputeR (disputeR d m f).d m f).e ≠ 0 := by
  by_cases a : ansE d m f ≠ 0
  · unfold disputeR at he; rw [if_pos a] at he; exact absurd he a
  by_cases b : stepE (getI d.items m.seller m.number) 1 ≠ 0
  · unfold disputeR at he; rw [if_neg a, if_pos b] at he; exact absurd he b
  have hi := ans_in (by simpa using a)
  have hm := isIn_name hi
  have hs2 := step_state (t := 2) (show stepE (getI d.items m.seller m.number) 1 = 0 by simpa using b)
  have hn2 := step_name (getI d.items m.seller m.number) 1 2
  have fin : ∀ y : Item, y.seller = m.seller ∧ y.number = m.number → y.state ≠ 1 → putE d.me d.items y = 0 → (disputeR (d.put y) m f).e ≠ 0 := by
    intro y hy hs hp
    have P := put_at h hy hp
    have hb : stepE y 1 = 90 := by unfold stepE; rw [if_neg hs]
    unfold disputeR
    rw [P.2, hb]
    split
    · assumption
    · rw [if_pos (by decide)]; simp
  by_cases c : (stepI (getI d.items m.seller m.number) 1 2).round = 3
  · have k1 : (disputeR d m f).e = putE d.me d.items (stepI (stepI (getI d.items m.seller m.number) 1 2) 2 4) := by unfold disputeR; rw [if_neg a, if_neg b, if_pos c]
    have k2 : (disputeR d m f).d = d.put (stepI (stepI (getI d.items m.seller m.number) 1 2) 2 4) := by unfold disputeR; rw [if_neg a, if_neg b, if_pos c]
    rw [k1] at he
    rw [k2]
    have hn := step_name (stepI (getI d.items m.seller m.number) 1 2) 2 4
    refine fin _ ⟨hn.1.trans (hn2.1.trans hm.1), hn.2.trans (hn2.2.trans hm.2)⟩ ?_ he
    rw [step_state (t := 4) (by unfold stepE; rw [hs2, if_pos rfl])]; decide
  · have k1 : (disputeR d m f).e = putE d.me d.items (stepI (getI d.items m.seller m.number) 1 2) := by unfold disputeR; rw [if_neg a, if_neg b, if_neg c]
    have k2 : (disputeR d m f).d = d.put (stepI (getI d.items m.seller m.number) 1 2) := by unfold disputeR; rw [if_neg a, if_neg b, if_neg c]
    rw [k1] at he
    rw [k2]
    exact fin _ ⟨hn2.1.trans hm.1, hn2.2.trans hm.2⟩ (by rw [hs2]; decide) he
theorem cancel2 {d : Desk} (h : DeskGd d) {m : Msg} {f : Int} (he : (cancelR d m f).e = 0) : (cancelR (cancelR d m f).d m f).e ≠ 0 := by
  by_cases a : isIn d.items m.seller m.number = false
  · unfold cancelR at he; rw [if_pos a] at he; simp at he
  by_cases b : (f != (getI d.items m.seller m.number).seller || (getI d.items m.seller m.number).buyer != d.me) = true
  · unfold cancelR at he; rw [if_neg a, if_pos b] at he; simp at he
  by_cases c : (getI d.items m.seller m.number).round ≠ m.round
  · unfold cancelR at he; rw [if_neg a, if_neg b, if_pos c] at he; simp at he
  by_cases e : stepE (getI d.items m.seller m.number) 2 ≠ 0
  · unfold cancelR at he; rw [if_neg a, if_neg b, if_neg c, if_pos e] at he; exact absurd he e
  have k1 : (cancelR d m f).e = putE d.me d.items (stepI (getI d.items m.seller m.number) 2 4) := by unfold cancelR; rw [if_neg a, if_neg b, if_neg c, if_neg e]
  have k2 : (cancelR d m f).d = d.put (stepI (getI d.items m.seller m.number) 2 4) := by unfold cancelR; rw [if_neg a, if_neg b, if_neg c, if_neg e]
  rw [k1] at he
  rw [k2]
  have hn := step_name (getI d.items m.seller m.number) 2 4
  have hm := isIn_name (show isIn d.items m.seller m.number = true by simpa using a)
  have P := put_at h (s := m.seller) (n := m.number) ⟨hn.1.trans hm.1, hn.2.trans hm.2⟩ he
  have hs := step_state (t := 4) (show stepE (getI d.items m.seller m.number) 2 = 0 by simpa using e)
  have hb : stepE (stepI (getI d.items m.seller m.number) 2 4) 2 = 90 := by unfold stepE; rw [hs, if_neg (by decide)]
  unfold cancelR
  rw [P.2, P.1, hb, if_neg (by simp)]
  split
  · simp
  · split
    · simp
    · rw [if_pos (by decide)]; simp
theorem propose2 {d : Desk} (h : DeskGd d) {m : Msg} {f : Int} (he : (proposeR d m f).e = 0) : (proposeR (proposeR d m f).d m f).e ≠ 0 := by
  by_cases a : chk (propI m) ≠ 0
  · unfold proposeR at he; rw [if_pos a] at he; exact absurd he a
  by_cases b : (f != m.seller || m.buyer != d.me) = true
  · unfold proposeR at he; rw [if_neg a, if_pos b] at he; simp at he
  by_cases c : propS d m = true
  · unfold proposeR at he; rw [if_neg a, if_neg b, if_pos c] at he; simp at he
  by_cases e : putE d.me d.items (propY d m) ≠ 0
  · unfold proposeR at he; rw [if_neg a, if_neg b, if_neg c, if_pos e] at he; exact absurd he e
  have k2 : (proposeR d m f).d = d.put (propY d m) := by unfold proposeR; rw [if_neg a, if_neg b, if_neg c, if_neg e]
  rw [k2]
  have hy : (propY d m).seller = m.seller ∧ (propY d m).number = m.number ∧ (propY d m).round = m.round ∧ ((propY d m).state = 3 ∨ (propY d m).state = 2) := by
    unfold propY
    split
    · exact ⟨rfl, rfl, rfl, .inl rfl⟩
    · exact ⟨rfl, rfl, rfl, .inr rfl⟩
  have P := put_at h (s := m.seller) (n := m.number) ⟨hy.1, hy.2.1⟩ (by simpa using e)
  have hS : propS (d.put (propY d m)) m = true := by
    unfold propS
    rw [P.1, P.2, hy.2.2.1]
    have : (m.round + 1 != m.round) = true := by rw [bne_iff_ne]; omega
    simp [this]
  unfold proposeR
  rw [if_neg a, if_neg (by rw [put_me]; exact b), if_pos hS]; simp
theorem of_zero {d : Desk} {b : Bool} {f : Int} {R : Out} (h : (Out.of d b f R).e = 0) : Out.of d b f R = R ∧ R.e = 0 := by
  unfold Out.of at h ⊢
  split at h
  · rename_i hb
    rw [if_pos hb]
    split at h
    · rename_i he; rw [if_pos he]; exact ⟨rfl, he⟩
    · rename_i he; exact absurd h he
  · simp at h
/-- What is heard twice is refused the second time. -/
theorem twice {d : Desk} (h : DeskGd d) {m : Msg} {f : Int} (hk : m.kind ≠ 2) (he : (doR d m f).e = 0) : (doR (doR d m f).d m f).e ≠ 0 := by
  have fin : ∀ (b : Bool) (R : Desk → Out), ((R d).e = 0 → (R (R d).d).e ≠ 0) → (Out.of d b f (R d)).e = 0 → (Out.of (Out.of d b f (R d)).d b f (R (Out.of d b f (R d)).d)).e ≠ 0 := by
    intro b R hR h0
    obtain ⟨e1, e2⟩ := of_zero h0
    rw [e1]
    exact of_e (hR e2)
  by_cases k1 : m.kind = 1
  · have u : ∀ d, doR d m f = Out.of d true f (issueR d m) := fun d => by unfold doR; rw [if_pos k1]
    rw [u] at he ⊢; rw [u]; exact fin true (fun d => issueR d m) (issue2 h) he
  by_cases k3 : m.kind = 3
  · have u : ∀ d, doR d m f = Out.of d true f (adjustR d m f) := fun d => by unfold doR; rw [if_neg k1, if_neg hk, if_pos k3]
    rw [u] at he ⊢; rw [u]; exact fin true (fun d => adjustR d m f) (adjust2 h) he
  by_cases k4 : m.kind = 4
  · have u : ∀ d, doR d m f = Out.of d true f (withdrawR d m f) := fun d => by unfold doR; rw [if_neg k1, if_neg hk, if_neg k3, if_pos k4]
    rw [u] at he ⊢; rw [u]; exact fin true (fun d => withdrawR d m f) (withdraw2 h) he
  by_cases k16 : m.kind = 16
  · have u : ∀ d, doR d m f = Out.of d true f (dueR d m f) := fun d => by unfold doR; rw [if_neg k1, if_neg hk, if_neg k3, if_neg k4, if_pos k16]
    rw [u] at he ⊢; rw [u]; exact fin true (fun d => dueR d m f) (due2 h) he
  by_cases k6 : m.kind = 6
  · have u : ∀ d, doR d m f = Out.of d false f (proposeR d m f) := fun d => by unfold doR; rw [if_neg k1, if_neg hk, if_neg k3, if_neg k4, if_neg k16, if_pos k6]
    rw [u] at he ⊢; rw [u]; exact fin false (fun d => proposeR d m f) (propose2 h) he
  by_cases k7 : m.kind = 7
  · have u : ∀ d, doR d m f = Out.of d false f (confirmR d m f) := fun d => by unfold doR; rw [if_neg k1, if_neg hk, if_neg k3, if_neg k4, if_neg k16, if_neg k6, if_pos k7]
    rw [u] at he ⊢; rw [u]; exact fin false (fun d => confirmR d m f) (confirm2 h) he
  by_cases k8 : m.kind = 8
  · have u : ∀ d, doR d m f = Out.of d false f (disputeR d m f) := fun d => by unfold doR; rw [if_neg k1, if_neg hk, if_neg k3, if_neg k4, if_neg k16, if_neg k6, if_neg k7, if_pos k8]
    rw [u] at he ⊢; rw [u]; exact fin false (fun d => disputeR d m f) (dispute2 h) he
  by_cases k9 : m.kind = 9
  · have u : ∀ d, doR d m f = Out.of d false f (cancelR d m f) := fun d => by unfold doR; rw [if_neg k1, if_neg hk, if_neg k3, if_neg k4, if_neg k16, if_neg k6, if_neg k7, if_neg k8, if_pos k9]
    rw [u] at he ⊢; rw [u]; exact fin false (fun d => cancelR d m f) (cancel2 h) he
  exfalso
  unfold doR at he
  rw [if_neg k1, if_neg hk, if_neg k3, if_neg k4, if_neg k16, if_neg k6, if_neg k7, if_neg k8, if_neg k9] at he
  simp at he

end Go.Proofs.Ytdodgbhodkcckaa.Pv
