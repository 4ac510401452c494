/- TopGapFilled returns true for all arguments; they read as they did. -/
import Derived.Test.YtlfeoofchebbkaaGfw
import Derived.Test.YtlfeoofchebbkaaOpn
namespace Go.Proofs.Ytlfeoofchebbkaa
set_option linter.unusedSimpArgs false
set_option linter.unusedVariables false
open Go.ChangeShapes Go.WideShapes Go.ChangeAt Go.RowKit Go.Joins
set_option maxRecDepth 100000 in
theorem topGapFilled_lifted (os : Os) (started : os.Started) (H : Type) (enc : TypeId × Value → H) :
    ReturnsInHanded {} Try.checked os 17 .any (Rows.topGapFilledSpec.pre6 enc Try.prog Try.f17 Rows.topGapFilledRow.domain false) (Rows.topGapFilledSpec.post enc Try.prog Try.f17 false true false false) := by
  refine returnsInHanded_of_change (C := Try.checked) Try.own started (by kernel_rfl) Try.func17
    (ChangeSpec.witness6 (enc := enc) (C := Try.checked) false ⟨#[], #[.agg #[.int .i64 0, .int .i64 0, .slice none 0 0], .slice none 0 0, .slice none 0 0], []⟩ 8 (by kernel_rfl) (by kernel_rfl) (by kernel_rfl) (by kernel_rfl)) ?_
  intro W base args ds gs before hval0 hW hcnd _
  have hval : ∀ (j : Nat) t v, Try.f17.params[j]? = some t → args[j]? = some v → Value.okWide Try.prog W .any base t v := hval0
  have hW' := hW
  obtain ⟨p, q, hA0, hV, rfl, hfz, hnd⟩ := hW
  have hA : DataW.TrodAll enc Try.prog W 0 (fun _ => true) true Try.f17.params.toList args.toList ds p := hA0
  rw [Try.params17] at hA hval
  obtain ⟨v0, v1, v2, d0, d1, d2, p0, p1, p2, rfl, rfl, rfl, h0, h1, h2⟩ := trodAll_three hA
  obtain ⟨rfl, rfl⟩ := trodVars_none hV
  obtain ⟨f0, A0, c0, b0, off0, rfl, x00, x01, x02, x03⟩ := open_forme (hval 0 37 v0 rfl rfl) h0
  obtain ⟨A1, l1, c1, b1, off1, rfl, x10, x11, x12, x13⟩ := open_fs (hval 1 22 v1 rfl rfl) h1
  obtain ⟨A2, l2, c2, b2, off2, rfl, x20, x21, x22, x23⟩ := open_zs (hval 2 23 v2 rfl rfl) h2
  clear hA0 hval0
  refine (topGap_any f0 l1 l2 A0 A1 A2 b0 off0 c0 b1 off1 c1 b2 off2 c2 W x00 x01 x02 x03 x10 x11 (Nat.le_trans x12 (Nat.le_trans x13 (by unfold maxLen; omega))) x20 x21 (Nat.le_trans x22 (Nat.le_trans x23 (by unfold maxLen; omega)))).mono fun e W' ⟨he, hw⟩ => ?_
  subst he
  exact ⟨_, rfl, law_post Try.laidOut rfl (by kernel_rfl) Try.underlying4 (by kernel_rfl) rfl hW' hw⟩
theorem topGapFilled_holds : Rows.TopGapFilledSaid :=
  OpenClaim.holds_of_wide 17 Try.f17 rfl rfl rfl rfl rfl rfl rfl ⟨rfl, rfl, rfl, rfl, rfl⟩ rfl rfl rfl rfl rfl (by kernel_rfl) Try.func17 (by kernel_rfl)
    (of_decide_eq_true (by kernel_rfl)) (by unfold Func.isWrapper; first | (rw [if_pos (by decide +kernel)]; kernel_rfl) | (rw [if_neg (by decide +kernel)]; exact ⟨rfl, rfl⟩))
    (fun os started H enc _ => topGapFilled_lifted os started H enc)
#print axioms topGapFilled_holds
end Go.Proofs.Ytlfeoofchebbkaa
