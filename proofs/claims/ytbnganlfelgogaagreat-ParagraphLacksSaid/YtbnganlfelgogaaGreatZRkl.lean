/- ParagraphLacks returns true for every input; the arguments read as they did. -/
import Derived.Test.YtbnganlfelgogaaGreatZOpq
import Derived.Test.YtbnganlfelgogaaGreatZLkl
set_option linter.unusedSimpArgs false
set_option linter.unusedVariables false
namespace Go.Proofs.YtbnganlfelgogaaGreat
open Go.ChangeShapes Go.WideShapes Go.ChangeAt Go.RowKit Go.Deep Go.Joins
set_option maxRecDepth 100000 in
theorem paragraphLacks_lifted (os : Os) (started : os.Started) (H : Type) (enc : TypeId × Value → H) :
 ReturnsInHanded {} Tryz.checked os 7 .any (Rows.paragraphLacksSpec.pre6 enc Tryz.prog Tryz.f7 Rows.paragraphLacksRow.domain false) (Rows.paragraphLacksSpec.post enc Tryz.prog Tryz.f7 false true false false) := by
 refine returnsInHanded_of_change (C := Tryz.checked) Tryz.own started (by kernel_rfl) Tryz.func7
  (ChangeSpec.witness6 (enc := enc) (C := Tryz.checked) false ⟨#[], #[.agg #[.string ⟨#[]⟩, .int .i64 0, .slice none 0 0], .slice none 0 0, .slice none 0 0], []⟩ 8 (by kernel_rfl) (by kernel_rfl) (by kernel_rfl) (by kernel_rfl)) ?_
 intro W base args ds gs before hval0 hW hcnd _
 have hval : ∀ (j : Nat) t v, Tryz.f7.params[j]? = some t → args[j]? = some v → Value.okWide Tryz.prog W .any base t v := hval0
 have hW' := hW
 obtain ⟨p, q, hA0, hV, rfl, hfz, hnd⟩ := hW
 have hA : DataW.TrodAll enc Tryz.prog W 0 (fun _ => true) true Tryz.f7.params.toList args.toList ds p := hA0
 rw [Tryz.params7] at hA hval
 obtain ⟨v0, v1, v2, d0, d1, d2, p0, p1, p2, rfl, rfl, rfl, h0, h1, h2⟩ := trodAll_three hA
 obtain ⟨rfl, rfl⟩ := trodVars_none hV
 obtain ⟨f0, vf0, rfl, y0, n0⟩ := open_fount (hval 0 24 v0 rfl rfl) h0
 obtain ⟨l1, y1⟩ := open_l (hval 1 34 v1 rfl rfl) h1
 obtain ⟨ws2, y2⟩ := open_wordsV (hval 2 27 v2 rfl rfl) h2
 clear hA0 hval0
 refine (lacksLaw_any f0 vf0 l1 ws2 v2 v1 W y0 n0 y1 y2).mono fun e W' ⟨he, hw⟩ => ?_
 subst he
 exact ⟨_, rfl, law_post Tryz.laidOut rfl (by kernel_rfl) Tryz.underlying4 (by kernel_rfl) rfl hW' hw⟩
set_option maxRecDepth 100000 in
set_option maxHeartbeats 40000000 in
theorem paragraphLacks_closed : joinedFacts Tryz.pinned.checked.prog 7 Tryz.f7 Rows.paragraphLacksSpec Rows.paragraphLacksRow = true := by
 unfold joinedFacts
 refine band (band (band (band (band (band (band (band (band (band (band (band (band (band (band (band (band (band (band (band (band (band (band (band (band (band (band (band (band (band (band ?_ jf_laid) jf_maps) ?_) ?_) ?_) ?_) ?_) ?_) ?_) ?_) ?_) ?_) ?_) ?_) ?_) ?_) ?_) ?_) ?_) ?_) ?_) ?_) ?_) jf_heard) jf_enter) ?_) ?_) ?_) ?_) ?_) ?_
 all_goals (as_aux_lemma => kernel_rfl)
theorem paragraphLacks_holds : Rows.ParagraphLacksSaid :=
 OpenClaim.holds_of_wide 7 Tryz.f7 rfl rfl rfl rfl rfl rfl rfl ⟨rfl, rfl, rfl, rfl, rfl⟩ rfl rfl rfl rfl rfl (by kernel_rfl) Tryz.func7 paragraphLacks_closed
  (of_decide_eq_true (by kernel_rfl)) (by unfold Func.isWrapper; first | (rw [if_pos (by decide +kernel)]; kernel_rfl) | (rw [if_neg (by decide +kernel)]; exact ⟨rfl, rfl⟩))
  (fun os started H enc _ => paragraphLacks_lifted os started H enc)
#print axioms paragraphLacks_holds
end Go.Proofs.YtbnganlfelgogaaGreat
