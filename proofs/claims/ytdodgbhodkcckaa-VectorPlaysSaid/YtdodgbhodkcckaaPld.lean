/- The law of what is put holds for every input: a vector to which anything is put has just what each has of each. Conditions: none but the statement's own. -/
import Derived.Test.YtdodgbhodkcckaaPlb
import Derived.Test.YtdodgbhodkcckaaPxs
set_option maxRecDepth 100000
namespace Go.Proofs.Ytdodgbhodkcckaa
open Go Go.ChangeShapes Go.WideShapes Go.ChangeAt Go.RowKit Pv

theorem vectorPlays_lay : Try.f3.params.toList.mapM (lay Try.prog 8) = some [(false, [.slc true [.int .i64, .int .i64, .int .i64]]), (true, [.int .i64, .int .i64])] := by kernel_rfl
theorem vectorPlays_small : ∀ t ∈ Try.f3.params.toList, t < Try.prog.types.size := by rw [Try.params3]; exact of_decide_eq_true (by kernel_rfl)

set_option maxHeartbeats 40000000 in
theorem vectorPlays_lifted (os : Os) (started : os.Started) (H : Type) (enc : TypeId × Value → H) :
    ReturnsInHanded {} Try.checked os 3 .any (Rows.vectorPlaysSpec.pre6 enc Try.prog Try.f3 Rows.vectorPlaysRow.domain false) (Rows.vectorPlaysSpec.post enc Try.prog Try.f3 false true false false) := by
  refine returnsInHanded_of_change (C := Try.checked) Try.own started (by as_aux_lemma => kernel_rfl) Try.func3
    (ChangeSpec.witness6 (enc := enc) (C := Try.checked) false ⟨#[], #[.slice none 0 0, .agg #[.int .i64 0, .int .i64 0]], []⟩ 8 (by as_aux_lemma => kernel_rfl) (by as_aux_lemma => kernel_rfl) (by as_aux_lemma => kernel_rfl) (by as_aux_lemma => kernel_rfl)) ?_
  intro W base args ds gs before hval0 hW _ _
  have hval : ∀ (j : Nat) t v, Try.f3.params.toList[j]? = some t → args.toList[j]? = some v → Value.okWide Try.prog W .any base t v := fun j t v h1 h2 => hval0 j t v (by simpa using h1) (by simpa using h2)
  obtain ⟨p0, hA⟩ : ∃ p0, DataW.TrodAll enc Try.prog W 0 (fun _ => true) true Try.f3.params.toList args.toList ds p0 := ⟨_, hW.choose_spec.choose_spec.1⟩
  obtain ⟨xs, k1, k2⟩ := args_rep (n := 8) (held0 W) hA hval vectorPlays_lay
  rw [Try.params3] at hA
  obtain ⟨_, _, d0, d1, _, _, _, rfl, _, _, _⟩ := trodAll_two hA
  refine (law_calls (run3k xs k1) k2).mono ?_
  rintro e W' ⟨rfl, g1, g2, g3, g4⟩
  exact ⟨_, rfl, law_post Try.kids Try.full vectorPlays_small hW rfl rfl rfl rfl (by as_aux_lemma => kernel_rfl) Try.underlying4 g1 g2 g3 g4⟩

set_option maxHeartbeats 40000000 in
theorem vectorPlays_facts : joinedFacts Try.pinned.checked.prog 3 Try.f3 Rows.vectorPlaysSpec Rows.vectorPlaysRow = true :=
  and_of (and_of (and_of (and_of (and_of (and_of (and_of (and_of (and_of (and_of (and_of (and_of (and_of (and_of (and_of (and_of (and_of (and_of (and_of (and_of (and_of (and_of (and_of (and_of (and_of (and_of (and_of (and_of (and_of (and_of (and_of (by as_aux_lemma => kernel_rfl) Try.laidOut) Try.rowed) (by as_aux_lemma => kernel_rfl)) (by as_aux_lemma => kernel_rfl)) (by as_aux_lemma => kernel_rfl)) Try.stops0) (by as_aux_lemma => kernel_rfl)) Try.stopKnobs0) (by as_aux_lemma => kernel_rfl)) (by as_aux_lemma => kernel_rfl)) (by as_aux_lemma => kernel_rfl)) (by as_aux_lemma => kernel_rfl)) (by as_aux_lemma => kernel_rfl)) (by as_aux_lemma => kernel_rfl)) (by as_aux_lemma => kernel_rfl)) (by as_aux_lemma => kernel_rfl)) (by as_aux_lemma => kernel_rfl)) (by as_aux_lemma => kernel_rfl)) (by as_aux_lemma => kernel_rfl)) (by as_aux_lemma => kernel_rfl)) (by as_aux_lemma => kernel_rfl)) Try.keys0) (by as_aux_lemma => kernel_rfl)) Try.heard) Try.enters) Try.lifted0) Try.made) (by as_aux_lemma => kernel_rfl)) (by as_aux_lemma => kernel_rfl)) (by as_aux_lemma => kernel_rfl)) (by as_aux_lemma => kernel_rfl)
theorem vectorPlays_named : Try.pinned.checked.prog.funcNamed Rows.vectorPlaysRow.func = some 3 := by kernel_rfl
theorem vectorPlays_inst : Try.f3.isInstance Try.pinned.checked.prog Rows.vectorPlaysRow.origin Rows.vectorPlaysRow.targs := of_decide_eq_true (by kernel_rfl)
set_option maxHeartbeats 40000000 in
theorem vectorPlays_wrap : Try.f3.isWrapper Try.pinned.checked.prog Rows.vectorPlaysRow.wrapper Rows.vectorPlaysRow.mainSum := by
  unfold Func.isWrapper; first | (rw [if_pos (by decide +kernel)]; kernel_rfl) | (rw [if_neg (by decide +kernel)]; exact ⟨rfl, rfl⟩)
set_option maxHeartbeats 40000000 in
/-- The statement. -/
theorem vectorPlays_holds : Rows.VectorPlaysSaid :=
  OpenClaim.holds_of_wide 3 Try.f3 rfl rfl rfl rfl rfl rfl rfl ⟨rfl, rfl, rfl, rfl, rfl⟩ rfl rfl rfl rfl rfl vectorPlays_named Try.func3 vectorPlays_facts vectorPlays_inst vectorPlays_wrap
    (fun os started H enc _ => vectorPlays_lifted os started H enc)
#print axioms vectorPlays_holds
end Go.Proofs.Ytdodgbhodkcckaa
