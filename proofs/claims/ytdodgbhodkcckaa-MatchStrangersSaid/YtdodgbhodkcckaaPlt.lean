/- The law of strangers holds for every input: who is not the other party of an item cannot do anything to it. Conditions: none but the statement's own. -/
import Derived.Test.YtdodgbhodkcckaaPlb
import Derived.Test.YtdodgbhodkcckaaPmq
set_option maxRecDepth 100000
namespace Go.Proofs.Ytdodgbhodkcckaa
open Go Go.ChangeShapes Go.WideShapes Go.ChangeAt Go.RowKit Pv

theorem matchStrangers_lay : Try.f18.params.toList.mapM (lay Try.prog 8) = some [(false, [.slc true [.int .i64, .int .i64, .int .i64, .int .i64, .int .i64, .int .i64, .int .i64, .int .i64, .int .i64, .bool, .slc true [.int .i64, .int .i64, .int .i64, .int .i64], .slc false [.int .i64]]]), (true, [.int .i64, .int .i64, .int .i64, .int .i64, .int .i64, .int .i64, .int .i64, .int .i64, .int .i64, .bool, .slc true [.int .i64, .int .i64, .int .i64, .int .i64], .slc false [.int .i64]])] := by kernel_rfl
theorem matchStrangers_small : ∀ t ∈ Try.f18.params.toList, t < Try.prog.types.size := by rw [Try.params18]; exact of_decide_eq_true (by kernel_rfl)

set_option maxHeartbeats 40000000 in
theorem matchStrangers_lifted (os : Os) (started : os.Started) (H : Type) (enc : TypeId × Value → H) :
    ReturnsInHanded {} Try.checked os 18 .any (Rows.matchStrangersSpec.pre6 enc Try.prog Try.f18 Rows.matchStrangersRow.domain false) (Rows.matchStrangersSpec.post enc Try.prog Try.f18 false true false false) := by
  refine returnsInHanded_of_change (C := Try.checked) Try.own started (by as_aux_lemma => kernel_rfl) Try.func18
    (ChangeSpec.witness6 (enc := enc) (C := Try.checked) false ⟨#[], #[.slice none 0 0, .agg #[.int .i64 0, .int .i64 0, .int .i64 0, .int .i64 0, .int .i64 0, .int .i64 0, .int .i64 0, .int .i64 0, .int .i64 0, .bool false, .slice none 0 0, .slice none 0 0]], []⟩ 8 (by as_aux_lemma => kernel_rfl) (by as_aux_lemma => kernel_rfl) (by as_aux_lemma => kernel_rfl) (by as_aux_lemma => kernel_rfl)) ?_
  intro W base args ds gs before hval0 hW _ _
  have hval : ∀ (j : Nat) t v, Try.f18.params.toList[j]? = some t → args.toList[j]? = some v → Value.okWide Try.prog W .any base t v := fun j t v h1 h2 => hval0 j t v (by simpa using h1) (by simpa using h2)
  obtain ⟨p0, hA⟩ : ∃ p0, DataW.TrodAll enc Try.prog W 0 (fun _ => true) true Try.f18.params.toList args.toList ds p0 := ⟨_, hW.choose_spec.choose_spec.1⟩
  obtain ⟨xs, k1, k2⟩ := args_rep (n := 8) (held0 W) hA hval matchStrangers_lay
  rw [Try.params18] at hA
  obtain ⟨_, _, d0, d1, _, _, _, rfl, _, _, _⟩ := trodAll_two hA
  refine (law_calls (run18k xs k1) k2).mono ?_
  rintro e W' ⟨rfl, g1, g2, g3, g4⟩
  exact ⟨_, rfl, law_post Try.kids Try.full matchStrangers_small hW rfl rfl rfl rfl (by as_aux_lemma => kernel_rfl) Try.underlying4 g1 g2 g3 g4⟩

set_option maxHeartbeats 40000000 in
theorem matchStrangers_facts : joinedFacts Try.pinned.checked.prog 18 Try.f18 Rows.matchStrangersSpec Rows.matchStrangersRow = true :=
  and_of (and_of (and_of (and_of (and_of (and_of (and_of (and_of (and_of (and_of (and_of (and_of (and_of (and_of (and_of (and_of (and_of (and_of (and_of (and_of (and_of (and_of (and_of (and_of (and_of (and_of (and_of (and_of (and_of (and_of (and_of (by as_aux_lemma => kernel_rfl) Try.laidOut) Try.rowed) (by as_aux_lemma => kernel_rfl)) (by as_aux_lemma => kernel_rfl)) (by as_aux_lemma => kernel_rfl)) Try.stops0) (by as_aux_lemma => kernel_rfl)) Try.stopKnobs0) (by as_aux_lemma => kernel_rfl)) (by as_aux_lemma => kernel_rfl)) (by as_aux_lemma => kernel_rfl)) (by as_aux_lemma => kernel_rfl)) (by as_aux_lemma => kernel_rfl)) (by as_aux_lemma => kernel_rfl)) (by as_aux_lemma => kernel_rfl)) (by as_aux_lemma => kernel_rfl)) (by as_aux_lemma => kernel_rfl)) (by as_aux_lemma => kernel_rfl)) (by as_aux_lemma => kernel_rfl)) (by as_aux_lemma => kernel_rfl)) (by as_aux_lemma => kernel_rfl)) Try.keys0) (by as_aux_lemma => kernel_rfl)) Try.heard) Try.enters) Try.lifted0) Try.made) (by as_aux_lemma => kernel_rfl)) (by as_aux_lemma => kernel_rfl)) (by as_aux_lemma => kernel_rfl)) (by as_aux_lemma => kernel_rfl)
theorem matchStrangers_named : Try.pinned.checked.prog.funcNamed Rows.matchStrangersRow.func = some 18 := by kernel_rfl
theorem matchStrangers_inst : Try.f18.isInstance Try.pinned.checked.prog Rows.matchStrangersRow.origin Rows.matchStrangersRow.targs := of_decide_eq_true (by kernel_rfl)
set_option maxHeartbeats 40000000 in
theorem matchStrangers_wrap : Try.f18.isWrapper Try.pinned.checked.prog Rows.matchStrangersRow.wrapper Rows.matchStrangersRow.mainSum := by
  unfold Func.isWrapper; first | (rw [if_pos (by decide +kernel)]; kernel_rfl) | (rw [if_neg (by decide +kernel)]; exact ⟨rfl, rfl⟩)
set_option maxHeartbeats 40000000 in
/-- The statement. -/
theorem matchStrangers_holds : Rows.MatchStrangersSaid :=
  OpenClaim.holds_of_wide 18 Try.f18 rfl rfl rfl rfl rfl rfl rfl ⟨rfl, rfl, rfl, rfl, rfl⟩ rfl rfl rfl rfl rfl matchStrangers_named Try.func18 matchStrangers_facts matchStrangers_inst matchStrangers_wrap
    (fun os started H enc _ => matchStrangers_lifted os started H enc)
#print axioms matchStrangers_holds
end Go.Proofs.Ytdodgbhodkcckaa
