/- ParagraphDearer returns true for every text and all surcharges; the arguments read as they did. -/
import Derived.Test.YtbnganlfelgogaaGreatOpt
import Derived.Test.YtbnganlfelgogaaGreatDea
import Derived.Test.YtbnganlfelgogaaGreatJfc
namespace Go.Proofs.YtbnganlfelgogaaGreat
set_option linter.unusedSimpArgs false
set_option linter.unusedVariables false
open Go.ChangeShapes Go.WideShapes Go.ChangeAt Go.RowKit Go.Deep Go.Joins
set_option maxRecDepth 100000 in
theorem paragraphDearer_lifted (os : Os) (started : os.Started) (H : Type) (enc : TypeId × Value → H) :
    ReturnsInHanded {} Tryz.checked os 3 .any (Rows.paragraphDearerSpec.pre6 enc Tryz.prog Tryz.f3 Rows.paragraphDearerRow.domain false) (Rows.paragraphDearerSpec.post enc Tryz.prog Tryz.f3 false true false false) := by
  refine returnsInHanded_of_change (C := Tryz.checked) Tryz.own started (by kernel_rfl) Tryz.func3
    (ChangeSpec.witness6 (enc := enc) (C := Tryz.checked) false ⟨#[], #[.agg #[.string ⟨#[]⟩, .int .i64 0, .slice none 0 0, .int .i64 0, .int .i64 0, .int .i64 0, .int .i64 0, .int .i64 0, .int .i64 0, .int .i64 0, .int .i64 0, .slice none 0 0], .int .i64 0, .int .i64 0], []⟩ 8 (by kernel_rfl) (by kernel_rfl) (by kernel_rfl) (by kernel_rfl)) ?_
  intro W base args ds gs before hval0 hW hcnd _
  have hval : ∀ (j : Nat) t v, Tryz.f3.params[j]? = some t → args[j]? = some v → Value.okWide Tryz.prog W .any base t v := hval0
  have hW' := hW
  obtain ⟨p, q, hA0, hV, rfl, hfz, hnd⟩ := hW
  have hA : DataW.TrodAll enc Tryz.prog W 0 (fun _ => true) true Tryz.f3.params.toList args.toList ds p := hA0
  rw [Tryz.params3] at hA hval
  obtain ⟨v0, v1, v2, d0, d1, d2, p0, p1, p2, rfl, rfl, rfl, h0, h1, h2⟩ := trodAll_three hA
  obtain ⟨rfl, rfl⟩ := trodVars_none hV
  obtain ⟨f, vs, r, ws, vw, rfl, x0, x1, x2⟩ := open_text (hval 0 29 v0 rfl rfl) h0
  obtain ⟨s, hs⟩ : ∃ s, v1 = .int .i64 s := okWide_int Tryz.underlying3 (hval 1 3 v1 rfl rfl)
  obtain ⟨d, hd⟩ : ∃ s, v2 = .int .i64 s := okWide_int Tryz.underlying3 (hval 2 3 v2 rfl rfl)
  subst hs hd
  clear hA0 hval0
  refine (dearer_any f vs r ws vw s d W x0 x1 x2).mono fun e W' ⟨he, hw⟩ => ?_
  subst he
  exact ⟨_, rfl, law_post Tryz.laidOut rfl (by kernel_rfl) Tryz.underlying4 (by kernel_rfl) rfl hW' hw⟩
theorem paragraphDearer_holds : Rows.ParagraphDearerSaid :=
  OpenClaim.holds_of_wide 3 Tryz.f3 rfl rfl rfl rfl rfl rfl rfl ⟨rfl, rfl, rfl, rfl, rfl⟩ rfl rfl rfl rfl rfl (by kernel_rfl) Tryz.func3 paragraphDearer_closed
    (of_decide_eq_true (by kernel_rfl)) (by unfold Func.isWrapper; first | (rw [if_pos (by decide +kernel)]; kernel_rfl) | (rw [if_neg (by decide +kernel)]; exact ⟨rfl, rfl⟩))
    (fun os started H enc _ => paragraphDearer_lifted os started H enc)
#print axioms paragraphDearer_holds
end Go.Proofs.YtbnganlfelgogaaGreat
