/- The law of parts holds for every input: the nets of two parts of some lines are together those of all. Conditions: none but the statement's own. -/
import Derived.Test.YtdodgbhodkcckaaPlb
import Derived.Test.YtdodgbhodkcckaaPcm
set_option maxRecDepth 100000
namespace Go.Proofs.Ytdodgbhodkcckaa
open Go Go.ChangeShapes Go.WideShapes Go.ChangeAt Go.RowKit Pv

theorem cycleAdds_lay : Try.f28.params.toList.mapM (lay Try.prog 8) = some [(false, [.int .i64]), (false, [.slc true [.int .i64, .int .i64, .int .i64, .int .i64]]), (false, [.int .i64])] := by kernel_rfl
theorem cycleAdds_small : ∀ t ∈ Try.f28.params.toList, t < Try.prog.types.size := by rw [Try.params28]; exact of_decide_eq_true (by kernel_rfl)

set_option maxHeartbeats 40000000 in
theorem cycleAdds_lifted (os : Os) (started : os.Started) (H : Type) (enc : TypeId × Value → H) :
    ReturnsInHanded {} Try.checked os 28 .any (Rows.cycleAddsSpec.pre6 enc Try.prog Try.f28 Rows.cycleAddsRow.domain false) (Rows.cycleAddsSpec.post enc Try.prog Try.f28 false true false false) := by
  refine returnsInHanded_of_change (C := Try.checked) Try.own started (by as_aux_lemma => kernel_rfl) Try.func28
    (ChangeSpec.witness6 (enc := enc) (C := Try.checked) false ⟨#[], #[.int .i64 0, .slice none 0 0, .int .i64 0], []⟩ 8 (by as_aux_lemma => kernel_rfl) (by as_aux_lemma => kernel_rfl) (by as_aux_lemma => kernel_rfl) (by as_aux_lemma => kernel_rfl)) ?_
  intro W base args ds gs before hval0 hW _ _
  have hval : ∀ (j : Nat) t v, Try.f28.params.toList[j]? = some t → args.toList[j]? = some v → Value.okWide Try.prog W .any base t v := fun j t v h1 h2 => hval0 j t v (by simpa using h1) (by simpa using h2)
  obtain ⟨p0, hA⟩ : ∃ p0, DataW.TrodAll enc Try.prog W 0 (fun _ => true) true Try.f28.params.toList args.toList ds p0 := ⟨_, hW.choose_spec.choose_spec.1⟩
  obtain ⟨xs, k1, k2⟩ := args_rep (n := 8) (held0 W) hA hval cycleAdds_lay
  rw [Try.params28] at hA
  obtain ⟨_, _, _, d0, d1, d2, _, _, _, _, rfl, _, _, _, _⟩ := trodAll_three hA
  refine (law_calls (run28k xs k1) k2).mono ?_
  rintro e W' ⟨rfl, g1, g2, g3, g4⟩
  exact ⟨_, rfl, law_post Try.kids Try.full cycleAdds_small hW rfl rfl rfl rfl (by as_aux_lemma => kernel_rfl) Try.underlying4 g1 g2 g3 g4⟩

set_option maxHeartbeats 40000000 in
theorem cycleAdds_facts : joinedFacts Try.pinned.checked.prog 28 Try.f28 Rows.cycleAddsSpec Rows.cycleAddsRow = true :=
  and_of (and_of (and_of (and_of (and_of (and_of (and_of (and_of (and_of (and_of (and_of (and_of (and_of (and_of (and_of (and_of (and_of (and_of (and_of (and_of (and_of (and_of (and_of (and_of (and_of (and_of (and_of (and_of (and_of (and_of (and_of (by as_aux_lemma => kernel_rfl) Try.laidOut) Try.rowed) (by as_aux_lemma => kernel_rfl)) (by as_aux_lemma => kernel_rfl)) (by as_aux_lemma => kernel_rfl)) Try.stops0) (by as_aux_lemma => kernel_rfl)) Try.stopKnobs0) (by as_aux_lemma => kernel_rfl)) (by as_aux_lemma => kernel_rfl)) (by as_aux_lemma => kernel_rfl)) (by as_aux_lemma => kernel_rfl)) (by as_aux_lemma => kernel_rfl)) (by as_aux_lemma => kernel_rfl)) (by as_aux_lemma => kernel_rfl)) (by as_aux_lemma => kernel_rfl)) (by as_aux_lemma => kernel_rfl)) (by as_aux_lemma => kernel_rfl)) (by as_aux_lemma => kernel_rfl)) (by as_aux_lemma => kernel_rfl)) (by as_aux_lemma => kernel_rfl)) Try.keys0) (by as_aux_lemma => kernel_rfl)) Try.heard) Try.enters) Try.lifted0) Try.made) (by as_aux_lemma => kernel_rfl)) (by as_aux_lemma => kernel_rfl)) (by as_aux_lemma => kernel_rfl)) (by as_aux_lemma => kernel_rfl)
theorem cycleAdds_named : Try.pinned.checked.prog.funcNamed Rows.cycleAddsRow.func = some 28 := by kernel_rfl
theorem cycleAdds_inst : Try.f28.isInstance Try.pinned.checked.prog Rows.cycleAddsRow.origin Rows.cycleAddsRow.targs := of_decide_eq_true (by kernel_rfl)
set_option maxHeartbeats 40000000 in
theorem cycleAdds_wrap : Try.f28.isWrapper Try.pinned.checked.prog Rows.cycleAddsRow.wrapper Rows.cycleAddsRow.mainSum := by
  unfold Func.isWrapper; first | (rw [if_pos (by decide +kernel)]; kernel_rfl) | (rw [if_neg (by decide +kernel)]; exact ⟨rfl, rfl⟩)
set_option maxHeartbeats 40000000 in
/-- The statement. -/
theorem cycleAdds_holds : Rows.CycleAddsSaid :=
  OpenClaim.holds_of_wide 28 Try.f28 rfl rfl rfl rfl rfl rfl rfl ⟨rfl, rfl, rfl, rfl, rfl⟩ rfl rfl rfl rfl rfl cycleAdds_named Try.func28 cycleAdds_facts cycleAdds_inst cycleAdds_wrap
    (fun os started H enc _ => cycleAdds_lifted os started H enc)
#print axioms cycleAdds_holds
end Go.Proofs.Ytdodgbhodkcckaa
