/- The law that a coordinator to which anything is said does and says just what the document says holds for every input. Conditions: none but the statement's own. -/
import Derived.Test.YtdodgbhodkcckaaCpA1
set_option maxRecDepth 100000
namespace Go.Proofs.Ytdodgbhodkcckaa
open Go Go.ChangeShapes Go.WideShapes Go.ChangeAt Go.RowKit Pv
theorem chiefPlays_lay : Try.f29.params.toList.mapM (lay Try.prog 8) = some [(false, [.int .i64]), (false, [.slc true wordVL])] := by kernel_rfl
theorem chiefPlays_small : ∀ t ∈ Try.f29.params.toList, t < Try.prog.types.size := by rw [Try.params29]; exact of_decide_eq_true (by kernel_rfl)
set_option maxHeartbeats 40000000 in
theorem chiefPlays_lifted (os : Os) (started : os.Started) (H : Type) (enc : TypeId × Value → H) :
    ReturnsInHanded {} Try.checked os 29 .any (Rows.chiefPlaysSpec.pre6 enc Try.prog Try.f29 Rows.chiefPlaysRow.domain false) (Rows.chiefPlaysSpec.post enc Try.prog Try.f29 false true false false) := by
  refine returnsInHanded_of_change (C := Try.checked) Try.own started (by as_aux_lemma => kernel_rfl) Try.func29
    (ChangeSpec.witness6 (enc := enc) (C := Try.checked) false ⟨#[], #[.int .i64 0, .slice none 0 0], []⟩ 8 (by as_aux_lemma => kernel_rfl) (by as_aux_lemma => kernel_rfl) (by as_aux_lemma => kernel_rfl) (by as_aux_lemma => kernel_rfl)) ?_
  intro W base args ds gs before hval0 hW _ _
  have hval : ∀ (j : Nat) t v, Try.f29.params.toList[j]? = some t → args.toList[j]? = some v → Value.okWide Try.prog W .any base t v := fun j t v h1 h2 => hval0 j t v (by simpa using h1) (by simpa using h2)
  obtain ⟨p0, hA⟩ : ∃ p0, DataW.TrodAll enc Try.prog W 0 (fun _ => true) true Try.f29.params.toList args.toList ds p0 := ⟨_, hW.choose_spec.choose_spec.1⟩
  obtain ⟨xs, k1, k2⟩ := args_rep (n := 8) (held0 W) hA hval chiefPlays_lay
  rw [Try.params29] at hA
  obtain ⟨_, _, d0, d1, _, _, _, rfl, _, _, _⟩ := trodAll_two hA
  refine (law_calls (run29k xs k1) k2).mono ?_
  rintro e W' ⟨rfl, g1, g2, g3, g4⟩
  exact ⟨_, rfl, law_post Try.kids Try.full chiefPlays_small hW rfl rfl rfl rfl (by as_aux_lemma => kernel_rfl) Try.underlying4 g1 g2 g3 g4⟩
set_option maxHeartbeats 40000000 in
theorem chiefPlays_facts : joinedFacts Try.pinned.checked.prog 29 Try.f29 Rows.chiefPlaysSpec Rows.chiefPlaysRow = true :=
  and_of (and_of (and_of (and_of (and_of (and_of (and_of (and_of (and_of (and_of (and_of (and_of (and_of (and_of (and_of (and_of (and_of (and_of (and_of (and_of (and_of (and_of (and_of (and_of (and_of (and_of (and_of (and_of (and_of (and_of (and_of (by as_aux_lemma => kernel_rfl) Try.laidOut) Try.rowed) (by as_aux_lemma => kernel_rfl)) (by as_aux_lemma => kernel_rfl)) (by as_aux_lemma => kernel_rfl)) Try.stops0) (by as_aux_lemma => kernel_rfl)) Try.stopKnobs0) (by as_aux_lemma => kernel_rfl)) (by as_aux_lemma => kernel_rfl)) (by as_aux_lemma => kernel_rfl)) (by as_aux_lemma => kernel_rfl)) (by as_aux_lemma => kernel_rfl)) (by as_aux_lemma => kernel_rfl)) (by as_aux_lemma => kernel_rfl)) (by as_aux_lemma => kernel_rfl)) (by as_aux_lemma => kernel_rfl)) (by as_aux_lemma => kernel_rfl)) (by as_aux_lemma => kernel_rfl)) (by as_aux_lemma => kernel_rfl)) (by as_aux_lemma => kernel_rfl)) Try.keys0) (by as_aux_lemma => kernel_rfl)) Try.heard) Try.enters) Try.lifted0) Try.made) (by as_aux_lemma => kernel_rfl)) (by as_aux_lemma => kernel_rfl)) (by as_aux_lemma => kernel_rfl)) (by as_aux_lemma => kernel_rfl)
theorem chiefPlays_named : Try.pinned.checked.prog.funcNamed Rows.chiefPlaysRow.func = some 29 := by kernel_rfl
theorem chiefPlays_inst : Try.f29.isInstance Try.pinned.checked.prog Rows.chiefPlaysRow.origin Rows.chiefPlaysRow.targs := of_decide_eq_true (by kernel_rfl)
set_option maxHeartbeats 40000000 in
theorem chiefPlays_wrap : Try.f29.isWrapper Try.pinned.checked.prog Rows.chiefPlaysRow.wrapper Rows.chiefPlaysRow.mainSum := by
  unfold Func.isWrapper; first | (rw [if_pos (by decide +kernel)]; kernel_rfl) | (rw [if_neg (by decide +kernel)]; exact ⟨rfl, rfl⟩)
set_option maxHeartbeats 40000000 in
theorem chiefPlays_holds : Rows.ChiefPlaysSaid :=
  OpenClaim.holds_of_wide 29 Try.f29 rfl rfl rfl rfl rfl rfl rfl ⟨rfl, rfl, rfl, rfl, rfl⟩ rfl rfl rfl rfl rfl chiefPlays_named Try.func29 chiefPlays_facts chiefPlays_inst chiefPlays_wrap
    (fun os started H enc _ => chiefPlays_lifted os started H enc)
#print axioms chiefPlays_holds
end Go.Proofs.Ytdodgbhodkcckaa
