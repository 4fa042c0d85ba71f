/- The law of the desk holds for every input: a desk to which anything is said, raw, by anybody, does and says just what the document says. Conditions: none but the statement's own. -/
import Derived.Test.YtdodgbhodkcckaaPlb
import Derived.Test.YtdodgbhodkcckaaPnh
set_option maxRecDepth 100000
namespace Go.Proofs.Ytdodgbhodkcckaa
open Go Go.ChangeShapes Go.WideShapes Go.ChangeAt Go.RowKit Pv

theorem matchPlays_lay : Try.f14.params.toList.mapM (lay Try.prog 8) = some [(false, [.int .i64]), (false, [.int .i64]), (false, [.slc true [.int .i64, .int .i64, .int .i64, .int .i64, .int .i64, .int .i64, .int .i64, .int .i64, .int .i64, .bool, .slc true [.int .i64, .int .i64, .int .i64, .int .i64], .slc false [.int .i64]]])] := by kernel_rfl
theorem matchPlays_small : ∀ t ∈ Try.f14.params.toList, t < Try.prog.types.size := by rw [Try.params14]; exact of_decide_eq_true (by kernel_rfl)

set_option maxHeartbeats 40000000 in
theorem matchPlays_lifted (os : Os) (started : os.Started) (H : Type) (enc : TypeId × Value → H) :
    ReturnsInHanded {} Try.checked os 14 .any (Rows.matchPlaysSpec.pre6 enc Try.prog Try.f14 Rows.matchPlaysRow.domain false) (Rows.matchPlaysSpec.post enc Try.prog Try.f14 false true false false) := by
  refine returnsInHanded_of_change (C := Try.checked) Try.own started (by as_aux_lemma => kernel_rfl) Try.func14
    (ChangeSpec.witness6 (enc := enc) (C := Try.checked) false ⟨#[], #[.int .i64 0, .int .i64 0, .slice none 0 0], []⟩ 8 (by as_aux_lemma => kernel_rfl) (by as_aux_lemma => kernel_rfl) (by as_aux_lemma => kernel_rfl) (by as_aux_lemma => kernel_rfl)) ?_
  intro W base args ds gs before hval0 hW _ _
  have hval : ∀ (j : Nat) t v, Try.f14.params.toList[j]? = some t → args.toList[j]? = some v → Value.okWide Try.prog W .any base t v := fun j t v h1 h2 => hval0 j t v (by simpa using h1) (by simpa using h2)
  obtain ⟨p0, hA⟩ : ∃ p0, DataW.TrodAll enc Try.prog W 0 (fun _ => true) true Try.f14.params.toList args.toList ds p0 := ⟨_, hW.choose_spec.choose_spec.1⟩
  obtain ⟨xs, k1, k2⟩ := args_rep (n := 8) (held0 W) hA hval matchPlays_lay
  rw [Try.params14] at hA
  obtain ⟨_, _, _, d0, d1, d2, _, _, _, _, rfl, _, _, _, _⟩ := trodAll_three hA
  refine (law_calls (run14k xs k1) k2).mono ?_
  rintro e W' ⟨rfl, g1, g2, g3, g4⟩
  exact ⟨_, rfl, law_post Try.kids Try.full matchPlays_small hW rfl rfl rfl rfl (by as_aux_lemma => kernel_rfl) Try.underlying4 g1 g2 g3 g4⟩

set_option maxHeartbeats 40000000 in
theorem matchPlays_facts : joinedFacts Try.pinned.checked.prog 14 Try.f14 Rows.matchPlaysSpec Rows.matchPlaysRow = true :=
  and_of (and_of (and_of (and_of (and_of (and_of (and_of (and_of (and_of (and_of (and_of (and_of (and_of (and_of (and_of (and_of (and_of (and_of (and_of (and_of (and_of (and_of (and_of (and_of (and_of (and_of (and_of (and_of (and_of (and_of (and_of (by as_aux_lemma => kernel_rfl) Try.laidOut) Try.rowed) (by as_aux_lemma => kernel_rfl)) (by as_aux_lemma => kernel_rfl)) (by as_aux_lemma => kernel_rfl)) Try.stops0) (by as_aux_lemma => kernel_rfl)) Try.stopKnobs0) (by as_aux_lemma => kernel_rfl)) (by as_aux_lemma => kernel_rfl)) (by as_aux_lemma => kernel_rfl)) (by as_aux_lemma => kernel_rfl)) (by as_aux_lemma => kernel_rfl)) (by as_aux_lemma => kernel_rfl)) (by as_aux_lemma => kernel_rfl)) (by as_aux_lemma => kernel_rfl)) (by as_aux_lemma => kernel_rfl)) (by as_aux_lemma => kernel_rfl)) (by as_aux_lemma => kernel_rfl)) (by as_aux_lemma => kernel_rfl)) (by as_aux_lemma => kernel_rfl)) Try.keys0) (by as_aux_lemma => kernel_rfl)) Try.heard) Try.enters) Try.lifted0) Try.made) (by as_aux_lemma => kernel_rfl)) (by as_aux_lemma => kernel_rfl)) (by as_aux_lemma => kernel_rfl)) (by as_aux_lemma => kernel_rfl)
theorem matchPlays_named : Try.pinned.checked.prog.funcNamed Rows.matchPlaysRow.func = some 14 := by kernel_rfl
theorem matchPlays_inst : Try.f14.isInstance Try.pinned.checked.prog Rows.matchPlaysRow.origin Rows.matchPlaysRow.targs := of_decide_eq_true (by kernel_rfl)
set_option maxHeartbeats 40000000 in
theorem matchPlays_wrap : Try.f14.isWrapper Try.pinned.checked.prog Rows.matchPlaysRow.wrapper Rows.matchPlaysRow.mainSum := by
  unfold Func.isWrapper; first | (rw [if_pos (by decide +kernel)]; kernel_rfl) | (rw [if_neg (by decide +kernel)]; exact ⟨rfl, rfl⟩)
set_option maxHeartbeats 40000000 in
/-- The statement. -/
theorem matchPlays_holds : Rows.MatchPlaysSaid :=
  OpenClaim.holds_of_wide 14 Try.f14 rfl rfl rfl rfl rfl rfl rfl ⟨rfl, rfl, rfl, rfl, rfl⟩ rfl rfl rfl rfl rfl matchPlays_named Try.func14 matchPlays_facts matchPlays_inst matchPlays_wrap
    (fun os started H enc _ => matchPlays_lifted os started H enc)
#print axioms matchPlays_holds
end Go.Proofs.Ytdodgbhodkcckaa
