/- The law that an entity to which anything is said does and says just what the document says holds for every input. Conditions: none but the statement's own. -/
import Derived.Test.YtdodgbhodkcckaaVp6
set_option maxRecDepth 100000
namespace Go.Proofs.Ytdodgbhodkcckaa
open Go Go.ChangeShapes Go.WideShapes Go.ChangeAt Go.RowKit Pv
theorem votePlays_lay : Try.f20.params.toList.mapM (lay Try.prog 8) = some [(false, [.int .i64]), (false, [.slc true itemVL]), (false, [.slc true wordVL])] := by kernel_rfl
theorem votePlays_small : ∀ t ∈ Try.f20.params.toList, t < Try.prog.types.size := by rw [Try.params20]; exact of_decide_eq_true (by kernel_rfl)
set_option maxHeartbeats 40000000 in
theorem votePlays_lifted (os : Os) (started : os.Started) (H : Type) (enc : TypeId × Value → H) :
    ReturnsInHanded {} Try.checked os 20 .any (Rows.votePlaysSpec.pre6 enc Try.prog Try.f20 Rows.votePlaysRow.domain false) (Rows.votePlaysSpec.post enc Try.prog Try.f20 false true false false) := by
  refine returnsInHanded_of_change (C := Try.checked) Try.own started (by as_aux_lemma => kernel_rfl) Try.func20
    (ChangeSpec.witness6 (enc := enc) (C := Try.checked) false ⟨#[], #[.int .i64 0, .slice none 0 0, .slice none 0 0], []⟩ 8 (by as_aux_lemma => kernel_rfl) (by as_aux_lemma => kernel_rfl) (by as_aux_lemma => kernel_rfl) (by as_aux_lemma => kernel_rfl)) ?_
  intro W base args ds gs before hval0 hW _ _
  have hval : ∀ (j : Nat) t v, Try.f20.params.toList[j]? = some t → args.toList[j]? = some v → Value.okWide Try.prog W .any base t v := fun j t v h1 h2 => hval0 j t v (by simpa using h1) (by simpa using h2)
  obtain ⟨p0, hA⟩ : ∃ p0, DataW.TrodAll enc Try.prog W 0 (fun _ => true) true Try.f20.params.toList args.toList ds p0 := ⟨_, hW.choose_spec.choose_spec.1⟩
  obtain ⟨xs, k1, k2⟩ := args_rep (n := 8) (held0 W) hA hval votePlays_lay
  rw [Try.params20] at hA
  obtain ⟨_, _, _, d0, d1, d2, _, _, _, _, rfl, _, _, _, _⟩ := trodAll_three hA
  refine (law_calls (run20k xs k1) k2).mono ?_
  rintro e W' ⟨rfl, g1, g2, g3, g4⟩
  exact ⟨_, rfl, law_post Try.kids Try.full votePlays_small hW rfl rfl rfl rfl (by as_aux_lemma => kernel_rfl) Try.underlying4 g1 g2 g3 g4⟩
set_option maxHeartbeats 40000000 in
theorem votePlays_facts : joinedFacts Try.pinned.checked.prog 20 Try.f20 Rows.votePlaysSpec Rows.votePlaysRow = true :=
  and_of (and_of (and_of (and_of (and_of (and_of (and_of (and_of (and_of (and_of (and_of (and_of (and_of (and_of (and_of (and_of (and_of (and_of (and_of (and_of (and_of (and_of (and_of (and_of (and_of (and_of (and_of (and_of (and_of (and_of (and_of (by as_aux_lemma => kernel_rfl) Try.laidOut) Try.rowed) (by as_aux_lemma => kernel_rfl)) (by as_aux_lemma => kernel_rfl)) (by as_aux_lemma => kernel_rfl)) Try.stops0) (by as_aux_lemma => kernel_rfl)) Try.stopKnobs0) (by as_aux_lemma => kernel_rfl)) (by as_aux_lemma => kernel_rfl)) (by as_aux_lemma => kernel_rfl)) (by as_aux_lemma => kernel_rfl)) (by as_aux_lemma => kernel_rfl)) (by as_aux_lemma => kernel_rfl)) (by as_aux_lemma => kernel_rfl)) (by as_aux_lemma => kernel_rfl)) (by as_aux_lemma => kernel_rfl)) (by as_aux_lemma => kernel_rfl)) (by as_aux_lemma => kernel_rfl)) (by as_aux_lemma => kernel_rfl)) (by as_aux_lemma => kernel_rfl)) Try.keys0) (by as_aux_lemma => kernel_rfl)) Try.heard) Try.enters) Try.lifted0) Try.made) (by as_aux_lemma => kernel_rfl)) (by as_aux_lemma => kernel_rfl)) (by as_aux_lemma => kernel_rfl)) (by as_aux_lemma => kernel_rfl)
theorem votePlays_named : Try.pinned.checked.prog.funcNamed Rows.votePlaysRow.func = some 20 := by kernel_rfl
theorem votePlays_inst : Try.f20.isInstance Try.pinned.checked.prog Rows.votePlaysRow.origin Rows.votePlaysRow.targs := of_decide_eq_true (by kernel_rfl)
set_option maxHeartbeats 40000000 in
theorem votePlays_wrap : Try.f20.isWrapper Try.pinned.checked.prog Rows.votePlaysRow.wrapper Rows.votePlaysRow.mainSum := by
  unfold Func.isWrapper; first | (rw [if_pos (by decide +kernel)]; kernel_rfl) | (rw [if_neg (by decide +kernel)]; exact ⟨rfl, rfl⟩)
set_option maxHeartbeats 40000000 in
theorem votePlays_holds : Rows.VotePlaysSaid :=
  OpenClaim.holds_of_wide 20 Try.f20 rfl rfl rfl rfl rfl rfl rfl ⟨rfl, rfl, rfl, rfl, rfl⟩ rfl rfl rfl rfl rfl votePlays_named Try.func20 votePlays_facts votePlays_inst votePlays_wrap
    (fun os started H enc _ => votePlays_lifted os started H enc)
#print axioms votePlays_holds
end Go.Proofs.Ytdodgbhodkcckaa
