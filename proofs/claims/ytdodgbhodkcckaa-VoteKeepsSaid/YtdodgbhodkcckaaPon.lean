/- Walks of an entity's part in cycles: the head of the statements. -/
import Derived.Test.YtdodgbhodkcckaaPom
set_option linter.unusedVariables false
set_option linter.unusedSimpArgs false
set_option autoImplicit false
set_option maxRecDepth 100000
namespace Go.Proofs.Ytdodgbhodkcckaa.Pv
open Go Go.RowKit

def vx0 : Item := ⟨0, 1, 1, 0, 70, 0, 3, 0⟩
def vln : Line := ⟨0, 1, 1, 70⟩
def vm1 : VMsg := ⟨10, 0, 0, 0, 0, 0, 1, 0, false, [], []⟩
def vm2 : VMsg := ⟨12, 0, 0, 0, 0, 0, 1, 0, false, [vln], [70, -70]⟩
def vm3 : VMsg := ⟨14, 0, 0, 0, 0, 0, 1, 0, true, [], []⟩
theorem v0_is : fillS [vx0] = ([vx0], [vx0]) := by kernel_rfl
theorem v1_is : voteR ⟨0, 2, []⟩ [vx0] vm1 2 = ⟨0, ⟨0, 2, [⟨1, 0, 1, []⟩]⟩, [⟨0, 1, 1, 0, 70, 0, 3, 1⟩], some (saidD 2 (offerM 1 [vln]))⟩ := by kernel_rfl
theorem v2_is : voteR ⟨0, 2, [⟨1, 0, 1, []⟩]⟩ [⟨0, 1, 1, 0, 70, 0, 3, 1⟩] vm2 2 = ⟨0, ⟨0, 2, [⟨1, 0, 2, [vln]⟩]⟩, [⟨0, 1, 1, 0, 70, 0, 3, 1⟩], some (saidD 2 (voteM 1 true))⟩ := by kernel_rfl
theorem v3_is : voteR ⟨0, 2, [⟨1, 0, 2, [vln]⟩]⟩ [⟨0, 1, 1, 0, 70, 0, 3, 1⟩] vm3 2 = ⟨0, ⟨0, 2, [⟨1, 0, 4, [vln]⟩]⟩, [⟨0, 1, 1, 0, 70, 0, 5, 1⟩], none⟩ := by kernel_rfl
theorem v4_is : getI [⟨0, 1, 1, 0, 70, 0, 5, 1⟩] 0 1 = ⟨0, 1, 1, 0, 70, 0, 5, 1⟩ := by kernel_rfl
theorem v4_in : isIn [⟨0, 1, 1, 0, 70, 0, 5, 1⟩] 0 1 = true := by kernel_rfl
theorem v5_is : getC [⟨1, 0, 4, [vln]⟩] 1 = ⟨1, 0, 4, [vln]⟩ := by kernel_rfl
theorem v5_in : isC [⟨1, 0, 4, [vln]⟩] 1 = true := by kernel_rfl
theorem v_good (x : Item) (h : Fine x) (hm : x.seller = 0 ∨ x.buyer = 0) : Good 0 [x] := ⟨by simp [Rising], by simpa using h, by simpa using hm⟩
set_option maxHeartbeats 64000000 in
theorem run67 : Runs Try.prog 67 [] [] (pbool true) [] := by
  have r0 := run69 [vx0] (by simp)
  rw [v0_is] at r0
  have g1 : Good 0 [vx0] := v_good _ (chk_fine.1 (by kernel_rfl)) (.inl rfl)
  have g2 : Good 0 [⟨0, 1, 1, 0, 70, 0, 3, 1⟩] := v_good _ (chk_fine.1 (by kernel_rfl)) (.inl rfl)
  have r1 := run70 ⟨0, 2, []⟩ 0 [vx0] [] vm1 2 g1 (by simp) (by simp) (by simp) (by simp [vm1]) (by simp [vm1])
  have r2 := run70 ⟨0, 2, [⟨1, 0, 1, []⟩]⟩ 0 [⟨0, 1, 1, 0, 70, 0, 3, 1⟩] [] vm2 2 g2 (by simp) (by simp) (by simp) (by simp [vm2]) (by simp [vm2])
  have r3 := run70 ⟨0, 2, [⟨1, 0, 2, [vln]⟩]⟩ 0 [⟨0, 1, 1, 0, 70, 0, 3, 1⟩] [] vm3 2 g2 (by simp) (by simp) (by simp) (by simp [vm3]) (by simp [vm3])
  have rw2 := run76 ⟨0, 2, [⟨1, 0, 2, [vln]⟩]⟩ (by simp)
  have rw3 := run76 ⟨0, 2, [⟨1, 0, 4, [vln]⟩]⟩ (by simp)
  have r65 := run65 0 [⟨0, 1, 1, 0, 70, 0, 5, 1⟩] [] 0 1 (by simp)
  have r74 := run74 ⟨0, 2, [⟨1, 0, 4, [vln]⟩]⟩ 1 (by simp) (by simp)
  rw [v1_is] at r1
  rw [v2_is] at r2
  rw [v3_is] at r3
  rw [v4_is, v4_in] at r65
  rw [v5_is, v5_in] at r74
  have w2 : (waitsL [⟨1, 0, 2, [vln]⟩]).map I64 = [I64 1] := by kernel_rfl
  have w3 : (waitsL [⟨1, 0, 4, [vln]⟩]).map I64 = [] := by kernel_rfl
  simp only [w2, w3] at rw2 rw3
  simp only [vOutD, VP.d, VP.cells, bookD, VMsg.msg, vm1, vm2, vm3, Msg.d, Msg.cells, saidD, offerM, voteM, Option.toList, rdD, RDesk.d, RDesk.cells] at r0 r1 r2 r3 rw2 rw3 r65 r74
  unfold Item.d Item.cells at r65
  unfold Part.d Part.cells at r74
  have l1 : (linesD [vln]).length = 1 := rfl
  refine Runs.of (kit Try.prog) Try.func67 rfl rfl (by rw [Try.ntmps67]; exact of_decide_eq_true rfl) ?_; rw [Try.ntmps67, Try.results67]
  repeat' (first
    | ((first | refine Pwp.step (kit _) rfl fun K hK => ?_ | refine Pwp.last (kit _) rfl fun K hK => ?_ | refine Pwp.stepD (kit _) rfl rfl fun K hK => ?_ | refine Pwp.lastD (kit _) rfl rfl fun K hK => ?_); simp (dsimp := false) only [↓opsP_nil, ↓opsP_cons, ↓opsD_nil, ↓opsD_cons, ↓opP, ↓stepP, ↓stepG, go_sem, l1, bne_self_eq_false, beq_self_eq_true, Bool.not_true, Bool.not_false, Bool.or_self, Bool.and_self])
    | (refine Pwp.seq ?_)
    | (refine Pwp.block ?_)
    | (refine Pwp.exit ?_; simp only [thenS, blockS, if_true, if_false, reduceIte, Nat.reduceEqDiff, Nat.add_one_ne_zero, reduceCtorEq])
    | (refine Pwp.skip ?_; simp only [thenS, blockS])
    | (refine Pwp.cond rfl True.intro (fun h => ?_) (fun h => ?_) <;> (try (cases h; done)) <;> (try simp only [h]))
    | (refine Pwp.ret ?_; try simp only [thenS, blockS])
    | (refine hK _ ?_; clear hK K)
    | (refine hK _ _ rfl ?_; clear hK K)
    | (refine CallK.giveS (ds := [.agg [I64 0, I64 2, nilD], .agg [I64 0, .slc 8 (itemsD [vx0]), .slc 3 []], .agg [I64 10, I64 0, I64 0, I64 0, I64 0, I64 0, I64 1, I64 0, .v (.bool false), nilD, nilD], I64 2]) (es := [.agg [I64 0, I64 2, .slc 4 (partsL [])], .agg [I64 0, .slc 8 (itemsD [vx0]), .slc 3 []], .agg [I64 10, I64 0, I64 0, I64 0, I64 0, I64 0, I64 1, I64 0, .v (.bool false), .slc 4 (linesD []), .slc 1 (List.map I64 [])], I64 2]) rfl (by simp [subL, subD, subV, subD_refl, linesD, partsL]) r1 (by simp) ?_)
    | (refine CallK.giveS (ds := [.agg [I64 0, I64 2, .slc 4 (partsL [⟨1, 0, 1, []⟩])], .agg [I64 0, .slc 8 (itemsD [⟨0, 1, 1, 0, 70, 0, 3, 1⟩]), .slc 3 []], .agg [I64 12, I64 0, I64 0, I64 0, I64 0, I64 0, I64 1, I64 0, .v (.bool false), .slc 4 (linesD [vln]), .slc 1 [I64 70, I64 (-70)]], I64 2]) (es := [.agg [I64 0, I64 2, .slc 4 (partsL [⟨1, 0, 1, []⟩])], .agg [I64 0, .slc 8 (itemsD [⟨0, 1, 1, 0, 70, 0, 3, 1⟩]), .slc 3 []], .agg [I64 12, I64 0, I64 0, I64 0, I64 0, I64 0, I64 1, I64 0, .v (.bool false), .slc 4 (linesD [vln]), .slc 1 (List.map I64 [70, -70])], I64 2]) rfl (by simp [subL, subD, subV, subD_refl, linesD, partsL]) r2 (by simp) ?_)
    | (refine CallK.giveS (ds := [.agg [I64 0, I64 2, .slc 4 (partsL [⟨1, 0, 2, [vln]⟩])], .agg [I64 0, .slc 8 (itemsD [⟨0, 1, 1, 0, 70, 0, 3, 1⟩]), .slc 3 []], .agg [I64 14, I64 0, I64 0, I64 0, I64 0, I64 0, I64 1, I64 0, .v (.bool true), nilD, nilD], I64 2]) (es := [.agg [I64 0, I64 2, .slc 4 (partsL [⟨1, 0, 2, [vln]⟩])], .agg [I64 0, .slc 8 (itemsD [⟨0, 1, 1, 0, 70, 0, 3, 1⟩]), .slc 3 []], .agg [I64 14, I64 0, I64 0, I64 0, I64 0, I64 0, I64 1, I64 0, .v (.bool true), .slc 4 (linesD []), .slc 1 (List.map I64 [])], I64 2]) rfl (by simp [subL, subD, subV, subD_refl, linesD, partsL]) r3 (by simp) ?_)
    | (refine CallG.toI (ds := [.agg [I64 0, I64 2, .slc 4 (partsL [⟨1, 0, 2, [vln]⟩])]]) rfl rfl rw2 ?_ ?_)
    | (refine CallG.toI (ds := [.agg [I64 0, I64 2, .slc 4 (partsL [⟨1, 0, 4, [vln]⟩])]]) rfl rfl rw3 ?_ ?_)
    | (refine CallK.toD (ds := [.agg [I64 0, .slc 8 (itemsD [⟨0, 1, 1, 0, 70, 0, 5, 1⟩]), .slc 3 []], .agg [I64 0, I64 1]]) rfl (r65) rfl ?_)
    | (refine CallK.give (ds := [.slc 8 [.agg [I64 0, I64 1, I64 1, I64 0, I64 70, I64 0, I64 3, I64 0]]]) rfl (r0) (by simp) ?_)
    | (refine CallK.give (ds := [.agg [I64 0, I64 2, .slc 4 (partsL [⟨1, 0, 4, [vln]⟩])], I64 1]) rfl (r74) (by simp) ?_)
    | (refine CallG.off ?_)
    | (with_reducible refine Or.inl ?_)
    | (simp only [thenS, blockS])
    | (with_reducible refine And.intro ?_ ?_)
    | (with_reducible exact True.intro)
    | (simp (dsimp := false) only [↓opsP_nil, ↓opsP_cons, ↓opsD_nil, ↓opsD_cons, ↓opP, ↓stepP, ↓stepG, go_sem, l1, bne_self_eq_false, beq_self_eq_true, Bool.not_true, Bool.not_false, Bool.or_self, Bool.and_self]))
  all_goals (try (first | (intro hg; simp [hg]; done) | exact of_decide_eq_true rfl | (cases h; done)))
  (refine Fin.data (.inr rfl) (by simp (dsimp := false) only [↓opsP_nil, ↓opsP_cons, ↓opsD_nil, ↓opsD_cons, ↓opP, ↓stepP, ↓stepG, go_sem, resL]; rfl) (by simp only [and_self]) (by simp (dsimp := false) only [↓opsP_nil, ↓opsP_cons, ↓opsD_nil, ↓opsD_cons, ↓opP, ↓stepP, ↓stepG, go_sem, resP, Nat.le_refl, List.take_length]; try rfl) ?_)
  exact subD_refl _

end Go.Proofs.Ytdodgbhodkcckaa.Pv
