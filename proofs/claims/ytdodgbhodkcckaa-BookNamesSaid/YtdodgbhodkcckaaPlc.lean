/- The law of names holds for every input: of two names one stands ahead, and the order is one. Conditions: none but the statement's own. -/
import Derived.Test.YtdodgbhodkcckaaPlb
import Derived.Test.YtdodgbhodkcckaaPwj
set_option maxRecDepth 100000
namespace Go.Proofs.Ytdodgbhodkcckaa
open Go Go.ChangeShapes Go.WideShapes Go.ChangeAt Go.RowKit Pv

theorem bookNames_lay : Try.f8.params.toList.mapM (lay Try.prog 8) = some [(true, [.int .i64, .int .i64]), (true, [.int .i64, .int .i64]), (true, [.int .i64, .int .i64])] := by kernel_rfl
theorem bookNames_small : ∀ t ∈ Try.f8.params.toList, t < Try.prog.types.size := by rw [Try.params8]; exact of_decide_eq_true (by kernel_rfl)

set_option maxHeartbeats 40000000 in
theorem bookNames_lifted (os : Os) (started : os.Started) (H : Type) (enc : TypeId × Value → H) :
    ReturnsInHanded {} Try.checked os 8 .any (Rows.bookNamesSpec.pre6 enc Try.prog Try.f8 Rows.bookNamesRow.domain false) (Rows.bookNamesSpec.post enc Try.prog Try.f8 false true false false) := by
  refine returnsInHanded_of_change (C := Try.checked) Try.own started (by as_aux_lemma => kernel_rfl) Try.func8
    (ChangeSpec.witness6 (enc := enc) (C := Try.checked) false ⟨#[], #[.agg #[.int .i64 0, .int .i64 0], .agg #[.int .i64 0, .int .i64 0], .agg #[.int .i64 0, .int .i64 0]], []⟩ 8 (by as_aux_lemma => kernel_rfl) (by as_aux_lemma => kernel_rfl) (by as_aux_lemma => kernel_rfl) (by as_aux_lemma => kernel_rfl)) ?_
  intro W base args ds gs before hval0 hW _ _
  have hval : ∀ (j : Nat) t v, Try.f8.params.toList[j]? = some t → args.toList[j]? = some v → Value.okWide Try.prog W .any base t v := fun j t v h1 h2 => hval0 j t v (by simpa using h1) (by simpa using h2)
  obtain ⟨p0, hA⟩ : ∃ p0, DataW.TrodAll enc Try.prog W 0 (fun _ => true) true Try.f8.params.toList args.toList ds p0 := ⟨_, hW.choose_spec.choose_spec.1⟩
  obtain ⟨xs, k1, k2⟩ := args_rep (n := 8) (held0 W) hA hval bookNames_lay
  rw [Try.params8] at hA
  obtain ⟨_, _, _, d0, d1, d2, _, _, _, _, rfl, _, _, _, _⟩ := trodAll_three hA
  refine (law_calls (run8k xs k1) k2).mono ?_
  rintro e W' ⟨rfl, g1, g2, g3, g4⟩
  exact ⟨_, rfl, law_post Try.kids Try.full bookNames_small hW rfl rfl rfl rfl (by as_aux_lemma => kernel_rfl) Try.underlying4 g1 g2 g3 g4⟩

set_option maxHeartbeats 40000000 in
theorem bookNames_facts : joinedFacts Try.pinned.checked.prog 8 Try.f8 Rows.bookNamesSpec Rows.bookNamesRow = true :=
  and_of (and_of (and_of (and_of (and_of (and_of (and_of (and_of (and_of (and_of (and_of (and_of (and_of (and_of (and_of (and_of (and_of (and_of (and_of (and_of (and_of (and_of (and_of (and_of (and_of (and_of (and_of (and_of (and_of (and_of (and_of (by as_aux_lemma => kernel_rfl) Try.laidOut) Try.rowed) (by as_aux_lemma => kernel_rfl)) (by as_aux_lemma => kernel_rfl)) (by as_aux_lemma => kernel_rfl)) Try.stops0) (by as_aux_lemma => kernel_rfl)) Try.stopKnobs0) (by as_aux_lemma => kernel_rfl)) (by as_aux_lemma => kernel_rfl)) (by as_aux_lemma => kernel_rfl)) (by as_aux_lemma => kernel_rfl)) (by as_aux_lemma => kernel_rfl)) (by as_aux_lemma => kernel_rfl)) (by as_aux_lemma => kernel_rfl)) (by as_aux_lemma => kernel_rfl)) (by as_aux_lemma => kernel_rfl)) (by as_aux_lemma => kernel_rfl)) (by as_aux_lemma => kernel_rfl)) (by as_aux_lemma => kernel_rfl)) (by as_aux_lemma => kernel_rfl)) Try.keys0) (by as_aux_lemma => kernel_rfl)) Try.heard) Try.enters) Try.lifted0) Try.made) (by as_aux_lemma => kernel_rfl)) (by as_aux_lemma => kernel_rfl)) (by as_aux_lemma => kernel_rfl)) (by as_aux_lemma => kernel_rfl)
theorem bookNames_named : Try.pinned.checked.prog.funcNamed Rows.bookNamesRow.func = some 8 := by kernel_rfl
theorem bookNames_inst : Try.f8.isInstance Try.pinned.checked.prog Rows.bookNamesRow.origin Rows.bookNamesRow.targs := of_decide_eq_true (by kernel_rfl)
set_option maxHeartbeats 40000000 in
theorem bookNames_wrap : Try.f8.isWrapper Try.pinned.checked.prog Rows.bookNamesRow.wrapper Rows.bookNamesRow.mainSum := by
  unfold Func.isWrapper; first | (rw [if_pos (by decide +kernel)]; kernel_rfl) | (rw [if_neg (by decide +kernel)]; exact ⟨rfl, rfl⟩)
set_option maxHeartbeats 40000000 in
/-- The statement. -/
theorem bookNames_holds : Rows.BookNamesSaid :=
  OpenClaim.holds_of_wide 8 Try.f8 rfl rfl rfl rfl rfl rfl rfl ⟨rfl, rfl, rfl, rfl, rfl⟩ rfl rfl rfl rfl rfl bookNames_named Try.func8 bookNames_facts bookNames_inst bookNames_wrap
    (fun os started H enc _ => bookNames_lifted os started H enc)
#print axioms bookNames_holds
end Go.Proofs.Ytdodgbhodkcckaa
