/- What is voted for stays: plain laws. No program is in sight here. -/
import Derived.Test.YtdodgbhodkcckaaPon
set_option linter.unusedVariables false
set_option linter.unusedSimpArgs false
set_option autoImplicit false
namespace Go.Proofs.Ytdodgbhodkcckaa.Pv
open Go Go.RowKit

/-! ### The lines that are offered, and their nets -/
def offL (l : List Item) : List Line := (askL 0 l).map lineOf
theorem lineOK_of {x : Item} (h : Fine x) (hs : x.seller ≤ 2) (hb : x.buyer ≤ 2) : LineOK 3 (lineOf x) := by
  have := h.s; have := h.b; have := h.sb; have := h.n; have := h.a
  constructor <;> simp only [lineOf] <;> omega
theorem ahead_of {x y : Item} (hx : Fine x) (hy : Fine y) (h : kI x < kI y) : ahead (lineOf x) (lineOf y) = true := by
  have := hx.n; have := hy.n
  unfold kI keyN at h
  unfold ahead lineOf
  simp only [Bool.or_eq_true, Bool.and_eq_true, decide_eq_true_eq, beq_iff_eq]
  omega
theorem fit_of : ∀ {q : List Item} {p : Option Line}, (∀ x ∈ q, Fine x ∧ x.seller ≤ 2 ∧ x.buyer ≤ 2) → Rising kI q → (∀ x ∈ q, ∀ y, p = some y → ahead y (lineOf x) = true) → fitV 3 p (q.map lineOf) = 0
  | [], _, _, _, _ => rfl
  | x :: q, p, h, hr, hp => by
    obtain ⟨hf, hs, hb⟩ := h x (by simp)
    have h1 : badL 3 (lineOf x) = false := badL_ok.2 (lineOK_of hf hs hb)
    have h2 : upset p (lineOf x) = false := by
      unfold upset
      cases p with
      | none => rfl
      | some y => simp only; rw [hp x (by simp) y rfl]; rfl
    rw [List.map_cons, fitV, h1, h2, if_neg (by simp), if_neg (by simp)]
    refine fit_of (fun y hy => h y (by simp [hy])) hr.tail.2 fun y hy z hz => ?_
    cases hz
    exact ahead_of hf (h y (by simp [hy])).1 (hr.tail.1 y hy)
theorem netL_snoc (j : Int) (l : List Line) (x : Line) : netL j (l ++ [x]) = netL j l + (if x.seller = j then x.amount else if x.buyer = j then -x.amount else 0) := by
  unfold netL
  rw [flows_append, sumOf_append]
  congr 1
  unfold flows flows flow1
  split
  · simp [sumOf]
  · split <;> simp [sumOf]
def ntL (l : List Line) : List D := (outs 3 l).map I64
theorem nt_len (l : List Line) : (ntL l).length = 3 := by simp [ntL, outs_len]
theorem nt_get (l : List Line) {j : Int} (h0 : 0 ≤ j) (h3 : j < 3) : (ntL l)[j.toNat]? = some (I64 (netL j l)) := by
  obtain ⟨k, rfl⟩ := Int.eq_ofNat_of_zero_le h0
  have hk : k < 3 := by omega
  simp [ntL, outs, hk]
theorem nt_two {l : List Line} {x : Line} (h : LineOK 3 x) : (((ntL l).set x.seller.toNat (I64 (netL x.seller l + x.amount))).set x.buyer.toNat (I64 (netL x.buyer l - x.amount))) = ntL (l ++ [x]) := by
  obtain ⟨s, n, b, a⟩ := x
  obtain ⟨h1, h2, h3, h4, h5⟩ := h
  simp only at h1 h2 h3 h4 h5 ⊢
  obtain ⟨s, rfl⟩ := Int.eq_ofNat_of_zero_le h1.1
  obtain ⟨b, rfl⟩ := Int.eq_ofNat_of_zero_le h2.1
  have e : ∀ j : Int, netL j (l ++ [⟨s, n, b, a⟩]) = netL j l + (if (s : Int) = j then a else if (b : Int) = j then -a else 0) := fun j => netL_snoc j l _
  refine List.ext_getElem? fun k => ?_
  simp only [Int.toNat_natCast, ntL, outs, List.range_succ, List.range_zero, List.nil_append, List.cons_append, List.map_cons, List.map_nil, e]
  have hs : s = 0 ∨ s = 1 ∨ s = 2 := by omega
  have hb : b = 0 ∨ b = 1 ∨ b = 2 := by omega
  rcases hs with rfl | rfl | rfl <;> rcases hb with rfl | rfl | rfl <;> first | (exfalso; omega) | (simp [Int.sub_eq_add_neg])
theorem nt_next {l : List Line} {x : Line} (h : LineOK 3 x) {v : D} : ((ntL l).set x.seller.toNat v)[x.buyer.toNat]? = some (I64 (netL x.buyer l)) := by
  have := nt_get l h.b.1 h.b.2
  have hne : x.seller.toNat ≠ x.buyer.toNat := by have := h.s; have := h.b; have := h.sb; omega
  rw [List.getElem?_set_ne hne]; exact this

/-! ### What stays -/
/-- The cycle 77 was voted for: the items that were offered are locked, and its lines are known. -/
structure Kept (l0 : List Item) (pl : List Part) (l : List Item) (k : Nat) : Prop where
  g : Good 0 l
  p : PGd ⟨0, 3, pl⟩ k
  n : l.length = l0.length
  i : ∀ x ∈ askL 0 l0, withC 77 x ∈ l
  c : isC pl 77 = true
  s : (getC pl 77).state = 2
  t : (getC pl 77).lines = offL l0
theorem mine_all {l : List Item} (h : Good 0 l) : mineL 0 (offL l) = offL l := by
  unfold mineL
  rw [List.filter_eq_self]
  intro x hx
  obtain ⟨y, hy, rfl⟩ := List.mem_map.1 hx
  have := h.mine y (askL_spec hy).1
  simp only [notMine, lineOf, Bool.not_eq_true', Bool.and_eq_false_iff, bne_eq_false_iff_eq]
  omega
def vmA : VMsg := ⟨10, 0, 0, 0, 0, 0, 77, 0, false, [], []⟩
def vmP (l : List Item) : VMsg := ⟨12, 0, 0, 0, 0, 0, 77, 0, false, offL l, outs 3 (offL l)⟩
def vmD (yes : Bool) : VMsg := ⟨14, 0, 0, 0, 0, 0, 77, 0, yes, [], []⟩
theorem keep_ask (l : List Item) : voteR ⟨0, 3, []⟩ l vmA 3 = ⟨0, ⟨0, 3, [⟨77, 0, 1, []⟩]⟩, foldB (withC 77) (askL 0 l) l, some (saidD 3 (offerM 77 (offL l)))⟩ := by
  have e : isC [] 77 = false := by kernel_rfl
  have e2 : putC [] ⟨77, 0, 1, []⟩ = [⟨77, 0, 1, []⟩] := by kernel_rfl
  unfold voteR voteK gateV askR askBad vmA VMsg.msg
  simp only
  rw [e, e2]
  rfl
theorem fold_has {l : List Item} (h : Good 0 l) {n : Int} (hn : 1 ≤ n ∧ n ≤ 1048576) {x : Item} (hx : x ∈ askL 0 l) : withC n x ∈ foldB (withC n) (askL 0 l) l := by
  rw [(ask_map h hn).1]
  exact List.mem_map.2 ⟨x, (askL_spec hx).1, by rw [if_pos hx]⟩
theorem keep_right {l : List Item} (h : Good 0 l) (hb : ∀ x ∈ askL 0 l, x.seller ≤ 2 ∧ x.buyer ≤ 2) : rightR ⟨0, 3, [⟨77, 0, 1, []⟩]⟩ (foldB (withC 77) (askL 0 l) l) 77 (offL l) (outs 3 (offL l)) = true := by
  have hfit : fitV 3 none (offL l) = 0 := fit_of (fun x hx => ⟨h.fine x (askL_spec hx).1, hb x hx⟩) (h.rise.sublist (askL_sub 0 l)) (fun _ _ _ e => by cases e)
  have hg := (ask_map h (c := 0) (n := 77) (by omega)).2
  unfold rightR badNets
  have e1 : rightE (offL l) (outs 3 (offL l)) = 0 := by
    unfold rightE netsE
    rw [outs_len]
    have e3 : (decide (((3 : Nat) : Int) < 0) || decide ((8 : Int) < ((3 : Nat) : Int))) = false := by decide
    rw [e3]
    simp only [Bool.false_eq_true, if_false]
    rw [show ((3 : Nat) : Int) = 3 from rfl, hfit]; simp
  rw [e1, outs_len]
  simp only [Bool.and_eq_true, Bool.not_eq_true', List.all_eq_true]
  refine ⟨rfl, ?_⟩
  rw [mine_all h]
  intro y hy
  obtain ⟨x, hx, rfl⟩ := List.mem_map.1 hy
  have hm := fold_has h (n := 77) (by omega) hx
  obtain ⟨k1, k2⟩ := in_mem hg hm
  have k1' : isIn (foldB (withC 77) (askL 0 l) l) (lineOf x).seller (lineOf x).number = true := k1
  have k2' : getI (foldB (withC 77) (askL 0 l) l) (lineOf x).seller (lineOf x).number = withC 77 x := k2
  unfold badLn
  rw [k1', k2']
  have h3 := (askL_spec hx).2.1
  simp [withC, eqLn, lineOf, h3]
theorem keep_prep {l : List Item} (h : Good 0 l) (hb : ∀ x ∈ askL 0 l, x.seller ≤ 2 ∧ x.buyer ≤ 2) : voteR ⟨0, 3, [⟨77, 0, 1, []⟩]⟩ (foldB (withC 77) (askL 0 l) l) (vmP l) 3 = ⟨0, ⟨0, 3, [⟨77, 0, 2, offL l⟩]⟩, foldB (withC 77) (askL 0 l) l, some (saidD 3 (voteM 77 true))⟩ := by
  have e : isC [⟨77, 0, 1, []⟩] 77 = true := by kernel_rfl
  have e2 : getC [⟨77, 0, 1, []⟩] 77 = ⟨77, 0, 1, []⟩ := by kernel_rfl
  have e4 : ∀ q : List Line, putC [⟨77, 0, 1, []⟩] ⟨77, 0, 2, q⟩ = [⟨77, 0, 2, q⟩] := fun q => by
    have hr : Rising Part.cycle [(⟨77, 0, 1, []⟩ : Part)] := by simp [Rising]
    rw [putC_enter hr]; rfl
  have hr := keep_right h hb
  have e5 : prepR ⟨0, 3, [⟨77, 0, 1, []⟩]⟩ (foldB (withC 77) (askL 0 l) l) (vmP l).msg (vmP l).ls (vmP l).ns = ⟨0, ⟨0, 3, [⟨77, 0, 2, offL l⟩]⟩, foldB (withC 77) (askL 0 l) l, some (saidD 3 (voteM 77 true))⟩ := by
    unfold prepR vmP VMsg.msg
    simp only
    rw [e, e2, hr]
    simp only [Bool.true_eq_false, if_false, if_true]
    rw [mine_all h, e4]; rfl
  unfold voteR voteK gateV
  rw [e5]
  unfold vmP VMsg.msg
  rfl
theorem kept_start {l : List Item} (h : Good 0 l) : Kept l [⟨77, 0, 2, offL l⟩] (foldB (withC 77) (askL 0 l) l) 1 := by
  have hg := ask_map h (c := 0) (n := 77) (by omega)
  have hr : Rising Part.cycle [(⟨77, 0, 2, offL l⟩ : Part)] := by simp [Rising]
  have hs : seek Part.cycle [(⟨77, 0, 2, offL l⟩ : Part)] 77 = some ⟨77, 0, 2, offL l⟩ := (seek_some_iff hr).2 ⟨by simp, rfl⟩
  refine ⟨hg.2, ⟨hr, by simp, by simp only [List.mem_singleton, forall_eq]; unfold offL; rw [List.length_map]; have := askL_len 0 l; omega⟩, by rw [hg.1, List.length_map], fun x hx => fold_has h (by omega) hx, ?_, ?_, ?_⟩
  · rw [isC_seek hr, hs]; rfl
  · rw [getC_seek hr, hs]; rfl
  · rw [getC_seek hr, hs]; rfl
/-- Whatever is said, but that decision. -/
theorem kept_step {l0 : List Item} {pl : List Part} {l : List Item} {k : Nat} (h : Kept l0 pl l k) {m : VMsg} {f : Int} (hls : m.ls.length ≤ 1000) (hm : ¬ (m.kind = 14 ∧ m.cycle = 77)) : Kept l0 (voteR ⟨0, 3, pl⟩ l m f).p.list (voteR ⟨0, 3, pl⟩ l m f).l (k + 1) := by
  have hi := voteR_inv (m := m) (f := f) h.g h.p hls
  have hr := h.p.rise
  have key : (∀ x ∈ askL 0 l0, withC 77 x ∈ (voteR ⟨0, 3, pl⟩ l m f).l) ∧ isC (voteR ⟨0, 3, pl⟩ l m f).p.list 77 = true ∧ (getC (voteR ⟨0, 3, pl⟩ l m f).p.list 77).state = 2 ∧ (getC (voteR ⟨0, 3, pl⟩ l m f).p.list 77).lines = offL l0 := by
    have other : ∀ x : Part, x.cycle ≠ 77 → isC (putC pl x) 77 = true ∧ (getC (putC pl x) 77).state = 2 ∧ (getC (putC pl x) 77).lines = offL l0 := fun x hx => by
      obtain ⟨q1, q2⟩ := getC_put hr x 77
      rw [if_neg hx] at q1 q2
      rw [q1, q2]; exact ⟨h.c, h.s, h.t⟩
    refine voteR_cases (p := ⟨0, 3, pl⟩) (fun R => (∀ x ∈ askL 0 l0, withC 77 x ∈ R.l) ∧ isC R.p.list 77 = true ∧ (getC R.p.list 77).state = 2 ∧ (getC R.p.list 77).lines = offL l0) ?_ ?_ ?_ ?_ ?_
    · intro e _; exact ⟨h.i, h.c, h.s, h.t⟩
    · intro _ _ hb hc
      have hb2 := askBad_ok hb
      have hne : m.cycle ≠ 77 := fun e => by simp only at hc; rw [e, h.c] at hc; cases hc
      obtain ⟨e1, _⟩ := ask_map h.g (c := m.currency) (n := m.cycle) ⟨hb2.1, hb2.2.1⟩
      refine ⟨fun x hx => ?_, other _ hne⟩
      simp only
      rw [e1]
      refine List.mem_map.2 ⟨withC 77 x, h.i x hx, ?_⟩
      rw [if_neg]
      intro hq
      have := (askL_spec hq).2.2.2
      simp [withC] at this
    · intro _ _ hc hs
      have hne : m.cycle ≠ 77 := fun e => by simp only at hs; rw [e, h.s] at hs; cases hs
      have hcy : (getC pl m.cycle).cycle = m.cycle := getC_cycle hr hc
      split
      · exact ⟨h.i, other _ (by simp only; rw [hcy]; exact hne)⟩
      · exact ⟨h.i, other _ (by simp only; rw [hcy]; exact hne)⟩
    · intro hk _ hc _
      have hne : m.cycle ≠ 77 := fun e => hm ⟨hk, e⟩
      have hcy : (getC pl m.cycle).cycle = m.cycle := getC_cycle hr hc
      obtain ⟨e1, _⟩ := end_map h.g m.cycle m.yes (getC pl m.cycle).lines
      refine ⟨fun x hx => ?_, other _ (by simp only; rw [hcy]; exact hne)⟩
      simp only
      rw [e1]
      refine List.mem_map.2 ⟨withC 77 x, h.i x hx, ?_⟩
      rw [if_neg]
      intro hq
      have := (held_spec.1 hq).2.2.1
      simp only [withC] at this
      exact hne this.symm
    · intro _ _ _; exact ⟨h.i, h.c, h.s, h.t⟩
  exact ⟨hi.1, by have := hi.2.2.1; exact ⟨this.rise, this.pl, this.ls⟩, hi.2.1.trans h.n, key.1, key.2.1, key.2.2.1, key.2.2.2⟩
/-- .. and behind it. -/
theorem kept_end {l0 : List Item} {pl : List Part} {l : List Item} {k : Nat} (h : Kept l0 pl l k) (yes : Bool) : voteR ⟨0, 3, pl⟩ l (vmD yes) 3 = ⟨0, ⟨0, 3, putC pl { getC pl 77 with state := if yes = true then 4 else 5 }⟩, foldB (endI yes (offL l0)) (keepF (notHeld 77) l) l, none⟩ := by
  have e5 : decR ⟨0, 3, pl⟩ l (vmD yes).msg = ⟨0, ⟨0, 3, putC pl { getC pl 77 with state := if yes = true then 4 else 5 }⟩, foldB (endI yes (offL l0)) (keepF (notHeld 77) l) l, none⟩ := by
    unfold decR decBad vmD VMsg.msg
    simp only
    rw [h.c, h.t]
    have hq : (!openC (getC pl 77) || (yes && (getC pl 77).state != 2)) = false := by unfold openC; rw [h.s]; cases yes <;> rfl
    rw [hq]; rfl
  unfold voteR voteK gateV
  rw [e5]
  unfold vmD VMsg.msg
  rfl
theorem kept_last {l0 : List Item} {pl : List Part} {l : List Item} {k : Nat} (h : Kept l0 pl l k) (yes : Bool) {x : Item} (hx : x ∈ askL 0 l0) :
    isIn (foldB (endI yes (offL l0)) (keepF (notHeld 77) l) l) x.seller x.number = true ∧ (getI (foldB (endI yes (offL l0)) (keepF (notHeld 77) l) l) x.seller x.number).state = (if yes = true then 5 else 3) ∧ (getI (foldB (endI yes (offL l0)) (keepF (notHeld 77) l) l) x.seller x.number).cycle = (if yes = true then 77 else 0) := by
  obtain ⟨e1, e2⟩ := end_map h.g 77 yes (offL l0)
  have h3 := (askL_spec hx).2.1
  have hk : withC 77 x ∈ keepF (notHeld 77) l := held_spec.2 ⟨h.i x hx, h3, rfl, by omega⟩
  have hm : endI yes (offL l0) (withC 77 x) ∈ foldB (endI yes (offL l0)) (keepF (notHeld 77) l) l := by
    rw [e1]; exact List.mem_map.2 ⟨withC 77 x, h.i x hx, by rw [if_pos hk]⟩
  obtain ⟨k1, k2⟩ := in_mem e2 hm
  obtain ⟨q1, q2, _⟩ := endI_key yes (offL l0) (withC 77 x)
  rw [q1, q2] at k1 k2
  have k1' : isIn (foldB (endI yes (offL l0)) (keepF (notHeld 77) l) l) x.seller x.number = true := k1
  have k2' : getI (foldB (endI yes (offL l0)) (keepF (notHeld 77) l) l) x.seller x.number = endI yes (offL l0) (withC 77 x) := k2
  rw [k2']
  refine ⟨k1', ?_⟩
  have hin : lineOf (withC 77 x) ∈ offL l0 := List.mem_map.2 ⟨x, hx, rfl⟩
  unfold endI
  cases yes with
  | true => rw [if_pos (by simp [hin])]; exact ⟨rfl, rfl⟩
  | false => rw [if_neg (by simp)]; exact ⟨h3, rfl⟩
theorem kept_in {l0 : List Item} {pl : List Part} {l : List Item} {k : Nat} (h : Kept l0 pl l k) {x : Item} (hx : x ∈ askL 0 l0) : isIn l x.seller x.number = true ∧ getI l x.seller x.number = withC 77 x := in_mem h.g (h.i x hx)

end Go.Proofs.Ytdodgbhodkcckaa.Pv
