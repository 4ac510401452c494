/- FormeChains returns true for all arguments; they read as they did. -/
import Derived.Test.YtlfeoofchebbkaaChw
import Derived.Test.YtlfeoofchebbkaaOpn
namespace Go.Proofs.Ytlfeoofchebbkaa
set_option linter.unusedSimpArgs false
set_option linter.unusedVariables false
open Go.ChangeShapes Go.WideShapes Go.ChangeAt Go.RowKit Go.Joins
set_option maxRecDepth 100000 in
theorem open_chain {H : Type} {enc : TypeId × Value → H} {W : World} {v : Value} {d : DataW H} {ps : List MemPlace} (hval : Value.okWide Try.prog W .any 0 72 v) (h : DataW.Trod enc Try.prog W 0 (fun _ => true) true 72 v d ps) :
    ∃ (zs : List Int) (dn : Bool) (A : Option Addr) (c b off : Nat), v = .agg #[.slice A zs.length c, .bool dn] ∧ Lies A zs.length W.heap.size b off ∧ ZsAt W b off zs ∧ zs.length ≤ c ∧ c ≤ maxLen := by
  obtain ⟨v0, v1, y0, y1, n, rfl, _, _, h0, h1⟩ := open_agg2 Try.underlying72 (by kernel_rfl) (by kernel_rfl) hval h
  obtain ⟨x1, hx1, _⟩ := DataW.trod_bool Try.underlying4 h1
  simp at hx1
  subst hx1
  obtain ⟨A, l, c, b, off, rfl, q0, q1, q2, q3⟩ := open_zs' h0
  exact ⟨l, x1, A, c, b, off, rfl, q0, q1, q2, q3⟩
set_option maxRecDepth 100000 in
theorem formeChains_lifted (os : Os) (started : os.Started) (H : Type) (enc : TypeId × Value → H) :
    ReturnsInHanded {} Try.checked os 9 .any (Rows.formeChainsSpec.pre6 enc Try.prog Try.f9 Rows.formeChainsRow.domain false) (Rows.formeChainsSpec.post enc Try.prog Try.f9 false true false false) := by
  refine returnsInHanded_of_change (C := Try.checked) Try.own started (by kernel_rfl) Try.func9
    (ChangeSpec.witness6 (enc := enc) (C := Try.checked) false ⟨#[], #[.agg #[.int .i64 0, .int .i64 0, .slice none 0 0], .agg #[.slice none 0 0, .slice none 0 0, .slice none 0 0], .agg #[.slice none 0 0, .bool false]], []⟩ 8 (by kernel_rfl) (by kernel_rfl) (by kernel_rfl) (by kernel_rfl)) ?_
  intro W base args ds gs before hval0 hW hcnd _
  have hval : ∀ (j : Nat) t v, Try.f9.params[j]? = some t → args[j]? = some v → Value.okWide Try.prog W .any base t v := hval0
  have hW' := hW
  obtain ⟨p, q, hA0, hV, rfl, hfz, hnd⟩ := hW
  have hA : DataW.TrodAll enc Try.prog W 0 (fun _ => true) true Try.f9.params.toList args.toList ds p := hA0
  rw [Try.params9] at hA hval
  obtain ⟨v0, v1, v2, d0, d1, d2, p0, p1, p2, rfl, rfl, rfl, h0, h1, h2⟩ := trodAll_three hA
  obtain ⟨rfl, rfl⟩ := trodVars_none hV
  obtain ⟨f0, A0, c0, b0, off0, rfl, x00, x01, x02, x03⟩ := open_forme (hval 0 37 v0 rfl rfl) h0
  obtain ⟨r1, A11, A12, A13, c11, b11, o11, c12, b12, o12, c13, b13, o13, rfl, y10, y11, y12, y13, y14, y15, y16⟩ := open_real (hval 1 39 v1 rfl rfl) h1
  obtain ⟨zs2, dn2, A2, c2, b2, off2, rfl, x20, x21, x22, x23⟩ := open_chain (hval 2 72 v2 rfl rfl) h2
  clear hA0 hval0
  refine (chains_any f0 r1 zs2 dn2 A0 A11 A12 A13 A2 b0 off0 b11 o11 b12 o12 b13 o13 b2 off2 c0 c11 c12 c13 c2 W ⟨x00, x01, y10⟩ x02 y11 y12 y13 x03 y14 y15 y16 x20 x21 x23).mono fun e W' ⟨he, hw⟩ => ?_
  subst he
  exact ⟨_, rfl, law_post Try.laidOut rfl (by kernel_rfl) Try.underlying4 (by kernel_rfl) rfl hW' hw⟩
theorem formeChains_holds : Rows.FormeChainsSaid :=
  OpenClaim.holds_of_wide 9 Try.f9 rfl rfl rfl rfl rfl rfl rfl ⟨rfl, rfl, rfl, rfl, rfl⟩ rfl rfl rfl rfl rfl (by kernel_rfl) Try.func9 (by kernel_rfl)
    (of_decide_eq_true (by kernel_rfl)) (by unfold Func.isWrapper; first | (rw [if_pos (by decide +kernel)]; kernel_rfl) | (rw [if_neg (by decide +kernel)]; exact ⟨rfl, rfl⟩))
    (fun os started H enc _ => formeChains_lifted os started H enc)
#print axioms formeChains_holds
end Go.Proofs.Ytlfeoofchebbkaa
