/- The law that whoever adjusts as often as they like, an item comes to an end holds for every input. Conditions: none but the statement's own. -/
import Derived.Test.YtdodgbhodkcckaaMe4
set_option maxRecDepth 100000
namespace Go.Proofs.Ytdodgbhodkcckaa
open Go Go.ChangeShapes Go.WideShapes Go.ChangeAt Go.RowKit Pv
theorem matchEnds_lay : Try.f19.params.toList.mapM (lay Try.prog 8) = some [(false, [.int .i64]), (false, [.int .i64]), (false, [.slc false [.int .i64]])] := by kernel_rfl
theorem matchEnds_small : ∀ t ∈ Try.f19.params.toList, t < Try.prog.types.size := by rw [Try.params19]; exact of_decide_eq_true (by kernel_rfl)
set_option maxHeartbeats 40000000 in
theorem matchEnds_lifted (os : Os) (started : os.Started) (H : Type) (enc : TypeId × Value → H) :
    ReturnsInHanded {} Try.checked os 19 .any (Rows.matchEndsSpec.pre6 enc Try.prog Try.f19 Rows.matchEndsRow.domain false) (Rows.matchEndsSpec.post enc Try.prog Try.f19 false true false false) := by
  refine returnsInHanded_of_change (C := Try.checked) Try.own started (by as_aux_lemma => kernel_rfl) Try.func19
    (ChangeSpec.witness6 (enc := enc) (C := Try.checked) false ⟨#[], #[.int .i64 0, .int .i64 0, .slice none 0 0], []⟩ 8 (by as_aux_lemma => kernel_rfl) (by as_aux_lemma => kernel_rfl) (by as_aux_lemma => kernel_rfl) (by as_aux_lemma => kernel_rfl)) ?_
  intro W base args ds gs before hval0 hW _ _
  have hval : ∀ (j : Nat) t v, Try.f19.params.toList[j]? = some t → args.toList[j]? = some v → Value.okWide Try.prog W .any base t v := fun j t v h1 h2 => hval0 j t v (by simpa using h1) (by simpa using h2)
  obtain ⟨p0, hA⟩ : ∃ p0, DataW.TrodAll enc Try.prog W 0 (fun _ => true) true Try.f19.params.toList args.toList ds p0 := ⟨_, hW.choose_spec.choose_spec.1⟩
  obtain ⟨xs, k1, k2⟩ := args_rep (n := 8) (held0 W) hA hval matchEnds_lay
  rw [Try.params19] at hA
  obtain ⟨_, _, _, d0, d1, d2, _, _, _, _, rfl, _, _, _, _⟩ := trodAll_three hA
  refine (law_calls (run19k xs k1) k2).mono ?_
  rintro e W' ⟨rfl, g1, g2, g3, g4⟩
  exact ⟨_, rfl, law_post Try.kids Try.full matchEnds_small hW rfl rfl rfl rfl (by as_aux_lemma => kernel_rfl) Try.underlying4 g1 g2 g3 g4⟩
set_option maxHeartbeats 40000000 in
theorem matchEnds_facts : joinedFacts Try.pinned.checked.prog 19 Try.f19 Rows.matchEndsSpec Rows.matchEndsRow = true :=
  and_of (and_of (and_of (and_of (and_of (and_of (and_of (and_of (and_of (and_of (and_of (and_of (and_of (and_of (and_of (and_of (and_of (and_of (and_of (and_of (and_of (and_of (and_of (and_of (and_of (and_of (and_of (and_of (and_of (and_of (and_of (by as_aux_lemma => kernel_rfl) Try.laidOut) Try.rowed) (by as_aux_lemma => kernel_rfl)) (by as_aux_lemma => kernel_rfl)) (by as_aux_lemma => kernel_rfl)) Try.stops0) (by as_aux_lemma => kernel_rfl)) Try.stopKnobs0) (by as_aux_lemma => kernel_rfl)) (by as_aux_lemma => kernel_rfl)) (by as_aux_lemma => kernel_rfl)) (by as_aux_lemma => kernel_rfl)) (by as_aux_lemma => kernel_rfl)) (by as_aux_lemma => kernel_rfl)) (by as_aux_lemma => kernel_rfl)) (by as_aux_lemma => kernel_rfl)) (by as_aux_lemma => kernel_rfl)) (by as_aux_lemma => kernel_rfl)) (by as_aux_lemma => kernel_rfl)) (by as_aux_lemma => kernel_rfl)) (by as_aux_lemma => kernel_rfl)) Try.keys0) (by as_aux_lemma => kernel_rfl)) Try.heard) Try.enters) Try.lifted0) Try.made) (by as_aux_lemma => kernel_rfl)) (by as_aux_lemma => kernel_rfl)) (by as_aux_lemma => kernel_rfl)) (by as_aux_lemma => kernel_rfl)
theorem matchEnds_named : Try.pinned.checked.prog.funcNamed Rows.matchEndsRow.func = some 19 := by kernel_rfl
theorem matchEnds_inst : Try.f19.isInstance Try.pinned.checked.prog Rows.matchEndsRow.origin Rows.matchEndsRow.targs := of_decide_eq_true (by kernel_rfl)
set_option maxHeartbeats 40000000 in
theorem matchEnds_wrap : Try.f19.isWrapper Try.pinned.checked.prog Rows.matchEndsRow.wrapper Rows.matchEndsRow.mainSum := by
  unfold Func.isWrapper; first | (rw [if_pos (by decide +kernel)]; kernel_rfl) | (rw [if_neg (by decide +kernel)]; exact ⟨rfl, rfl⟩)
set_option maxHeartbeats 40000000 in
theorem matchEnds_holds : Rows.MatchEndsSaid :=
  OpenClaim.holds_of_wide 19 Try.f19 rfl rfl rfl rfl rfl rfl rfl ⟨rfl, rfl, rfl, rfl, rfl⟩ rfl rfl rfl rfl rfl matchEnds_named Try.func19 matchEnds_facts matchEnds_inst matchEnds_wrap
    (fun os started H enc _ => matchEnds_lifted os started H enc)
#print axioms matchEnds_holds
end Go.Proofs.Ytdodgbhodkcckaa
