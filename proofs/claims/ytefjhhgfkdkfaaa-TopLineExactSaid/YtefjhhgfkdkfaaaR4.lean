/- TopLineExact returns true for every task; the argument reads as it did. -/
import Derived.Test.YtefjhhgfkdkfaaaOpr
import Derived.Test.YtefjhhgfkdkfaaaTle
namespace Go.Proofs.Ytefjhhgfkdkfaaa
set_option linter.unusedSimpArgs false
set_option linter.unusedVariables false
open Go.ChangeShapes Go.WideShapes Go.ChangeAt Go.RowKit Go.Deep Go.Joins
section
variable {H : Type} {enc : TypeId × Value → H}
theorem list_of0 {α : Type} (d : α) (n : Nat) {P : Nat → α → Prop} (h : ∀ i, i < n → ∃ x, P i x) : ∃ l : List α, l.length = n ∧ ∀ i, i < n → P i (l.getD i d) := @list_of α ⟨d⟩ n P h
set_option maxRecDepth 100000 in
/-- Lists of numbers that came in. -/
theorem open_lists {W : World} {v : Value} {n : Nat} {x : DataW H × List MemPlace} (hf : DataW.trod enc Try.prog W 0 (fun _ => true) true n 49 [v] = some x) : ∃ ls, LV W ls v := by
  rcases open_slice Try.underlying49 hf with ⟨hv, _⟩ | ⟨a, len, cap, m, n, D, Pl, hv, _, hl, hm, hmm, _, hi⟩
  · simp at hv
    subst hv
    exact ⟨[], fun _ => undef, ⟨none, 0, 0, 0, rfl, fun h => absurd h (Nat.lt_irrefl _), fun j hj => absurd hj (Nat.not_lt_zero _), Nat.le_refl _, Nat.zero_le _⟩, fun i hi => absurd hi (Nat.not_lt_zero _)⟩
  · simp at hv
    subst hv
    have hmc : m = cap := by simpa using hmm
    have hC : Try.prog.cellsOf 30 = 1 := by kernel_rfl
    rw [hC] at hi
    by_cases h0 : len = 0
    · subst h0
      exact ⟨[], fun _ => undef, ⟨some a, 0, 0, cap, rfl, fun h => absurd h (Nat.lt_irrefl _), fun j hj => absurd hj (Nat.not_lt_zero _), Nat.zero_le _, hm⟩, fun i hi => absurd hi (Nat.not_lt_zero _)⟩
    · obtain ⟨cs0, hc0, _⟩ := hi 0 (by omega)
      obtain ⟨b, off, he, hlt⟩ := cells_lt hc0 (by omega)
      have he' : a = ⟨b, off, none⟩ := by
        obtain ⟨b', off', sp'⟩ := a
        simpa [Addr.add] using he
      subst he'
      have hel : ∀ i, i < len → ∃ p : List Int × Value, W.cell? ⟨b, off + i, none⟩ = some p.2 ∧ IV W p.1 p.2 := fun i hi' => by
        obtain ⟨cs, hc, ht⟩ := hi i (by omega)
        obtain ⟨_, hcl, hat⟩ := World.cells?_some hc
        have g := hat 0 (by omega)
        simp only [add_mul] at g
        have hcn : cs.length = 1 := hcl
        obtain ⟨u0, rfl⟩ : ∃ u0, cs = [u0] := by
          match cs, hcn with
          | [u0], _ => exact ⟨u0, rfl⟩
        obtain ⟨z0, i0⟩ := open_zs' ht
        exact ⟨(z0, u0), by simpa using g, i0⟩
      obtain ⟨l, e, hall⟩ := list_of0 (([], undef) : List Int × Value) len hel
      have hgl : ∀ i, i < len → gl (l.map Prod.fst) i = (l.getD i ([], undef)).1 := fun i hi' => by
        unfold gl
        rw [List.getD_eq_getElem?_getD, List.getD_eq_getElem?_getD, List.getElem?_map, List.getElem?_eq_getElem (by omega)]
        rfl
      refine ⟨l.map Prod.fst, fun i => (l.getD i ([], undef)).2, ⟨some ⟨b, off, none⟩, b, off, cap, by rw [List.length_map, e], fun _ => ⟨rfl, hlt⟩, fun j hj => ?_, by rw [List.length_map, e]; exact hl, hm⟩, fun i hi' => ?_⟩
      · rw [List.length_map, e, Nat.mul_one] at hj
        exact (hall j hj).1
      · rw [List.length_map, e] at hi'
        rw [hgl i hi']
        exact (hall i hi').2
theorem array7 {α : Type} {cs : Array α} (h : cs.size = 7) : ∃ a b c d e f g, cs = #[a, b, c, d, e, f, g] := by
  obtain ⟨x⟩ := cs
  match x, h with
  | [a, b, c, d, e, f, g], _ => exact ⟨a, b, c, d, e, f, g, rfl⟩
set_option maxRecDepth 100000 in
/-- A task that came in: fount, case, indent, words, measure. -/
theorem open_task {W : World} {v : Value} {d : DataW H} {ps : List MemPlace} (hval : Value.okWide Try.prog W .any 0 51 v) (h : DataW.Trod enc Try.prog W 0 (fun _ => true) true 51 v d ps) :
    ∃ (t : Tsk) (vs vc vi vw : Value), v = .agg (xts t vs vc vi vw) ∧ TkV W t vs vc vi vw ∧ t.f.name.size ≤ 9223372036854775807 := by
  have hC : Try.prog.cellsOf 51 = 7 := by kernel_rfl
  have c24 : Try.prog.cellsOf 24 = 3 := by kernel_rfl
  have c30 : Try.prog.cellsOf 30 = 1 := by kernel_rfl
  have c49 : Try.prog.cellsOf 49 = 1 := by kernel_rfl
  have c22 : Try.prog.cellsOf 22 = 1 := by kernel_rfl
  have c9 : Try.prog.cellsOf 9 = 1 := by kernel_rfl
  have c3 : Try.prog.cellsOf 3 = 1 := by kernel_rfl
  obtain ⟨cs, rfl, hsz⟩ := okWide_struct Try.underlying51 hval
  obtain ⟨u0, u1, u2, u3, u4, u5, u6, rfl⟩ := array7 (hsz.trans hC)
  obtain ⟨fuel, hf⟩ := h
  obtain ⟨ys, n', _, _, _, hyl, hf'⟩ := DataW.trod_struct Try.underlying51 hf
  have f0 := hf' 0 _ rfl
  have f1 := hf' 1 _ rfl
  have f2 := hf' 2 _ rfl
  have f3 := hf' 3 _ rfl
  have f4 := hf' 4 _ rfl
  rw [List.getElem?_eq_getElem (by rw [hyl]; decide)] at f0 f1 f2 f3 f4
  clear hf hf' hval hsz hC
  have e0 : (((Value.agg #[u0, u1, u2, u3, u4, u5, u6]).cells.toList).drop 0).take (Try.prog.cellsOf 24) = [u0, u1, u2] := by rw [c24]; rfl
  obtain ⟨k0, g0⟩ : ∃ y, DataW.trod enc Try.prog W 0 (fun _ => true) true n' 24 [u0, u1, u2] = some y := ⟨_, by rw [← e0]; exact f0⟩
  have g1 := trod_field (l := (Value.agg #[u0, u1, u2, u3, u4, u5, u6]).cells.toList) (i := 3) (t := 30) (x := u3) c30 rfl f1
  have g2 := trod_field (l := (Value.agg #[u0, u1, u2, u3, u4, u5, u6]).cells.toList) (i := 4) (t := 30) (x := u4) c30 rfl f2
  have g3 := trod_field (l := (Value.agg #[u0, u1, u2, u3, u4, u5, u6]).cells.toList) (i := 5) (t := 49) (x := u5) c49 rfl f3
  have g4 := trod_field (l := (Value.agg #[u0, u1, u2, u3, u4, u5, u6]).cells.toList) (i := 6) (t := 3) (x := u6) c3 rfl f4
  clear e0 f0 f1 f2 f3 f4
  obtain ⟨zs, m0, _, _, _, hzl, hz⟩ := DataW.trod_struct Try.underlying24 g0
  have z0 := hz 0 _ rfl
  have z1 := hz 1 _ rfl
  have z2 := hz 2 _ rfl
  rw [List.getElem?_eq_getElem (by rw [hzl]; decide)] at z0 z1 z2
  clear hz
  obtain ⟨x0, hx0, _, n0⟩ := DataW.trod_string Try.underlying9 (trod_field (l := [u0, u1, u2]) (i := 0) (t := 9) c9 rfl z0)
  obtain ⟨x1, hx1, _, _⟩ := DataW.trod_int Try.underlying3 (trod_field (l := [u0, u1, u2]) (i := 1) (t := 3) c3 rfl z1)
  obtain ⟨l, hl⟩ := open_sorts (trod_field (l := [u0, u1, u2]) (i := 2) (t := 22) c22 rfl z2)
  obtain ⟨cs, hcs⟩ := open_zs' g1
  obtain ⟨ind, hind⟩ := open_zs' g2
  obtain ⟨ws, hws⟩ := open_lists g3
  obtain ⟨me, hme, _, _⟩ := DataW.trod_int Try.underlying3 g4
  simp only [List.cons.injEq, and_true] at hx0 hx1 hme
  subst hx0 hx1 hme
  exact ⟨⟨⟨x0, x1, l⟩, cs, ind, ws, me⟩, u2, u3, u4, u5, rfl, ⟨hl, hcs, hind, hws⟩, n0⟩
end
set_option maxRecDepth 100000 in
theorem topLineExact_lifted (os : Os) (started : os.Started) (H : Type) (enc : TypeId × Value → H) :
    ReturnsInHanded {} Try.checked os 4 .any (Rows.topLineExactSpec.pre6 enc Try.prog Try.f4 Rows.topLineExactRow.domain false) (Rows.topLineExactSpec.post enc Try.prog Try.f4 false true false false) := by
  refine returnsInHanded_of_change (C := Try.checked) Try.own started (by kernel_rfl) Try.func4
    (ChangeSpec.witness6 (enc := enc) (C := Try.checked) false ⟨#[], #[.agg #[.string ⟨#[]⟩, .int .i64 0, .slice none 0 0, .slice none 0 0, .slice none 0 0, .slice none 0 0, .int .i64 0]], []⟩ 8 (by kernel_rfl) (by kernel_rfl) (by kernel_rfl) (by kernel_rfl)) ?_
  intro W base args ds gs before hval0 hW hcnd _
  have hval : ∀ (j : Nat) t v, Try.f4.params[j]? = some t → args[j]? = some v → Value.okWide Try.prog W .any base t v := hval0
  have hW' := hW
  obtain ⟨p, q, hA0, hV, rfl, hfz, hnd⟩ := hW
  have hA : DataW.TrodAll enc Try.prog W 0 (fun _ => true) true Try.f4.params.toList args.toList ds p := hA0
  rw [Try.params4] at hA hval
  obtain ⟨v0, d0, rfl, rfl, h0⟩ := trodAll_one hA
  obtain ⟨rfl, rfl⟩ := trodVars_none hV
  obtain ⟨t, vs, vc, vi, vw, rfl, hT, hn⟩ := open_task (hval 0 51 v0 rfl rfl) h0
  clear hA0 hval0
  refine (topLine_any t vs vc vi vw W hT hn).mono fun e W' ⟨he, hw⟩ => ?_
  subst he
  exact ⟨_, rfl, law_post Try.laidOut rfl (by kernel_rfl) Try.underlying4 (by kernel_rfl) rfl hW' hw⟩
theorem topLineExact_holds : Rows.TopLineExactSaid :=
  OpenClaim.holds_of_wide 4 Try.f4 rfl rfl rfl rfl rfl rfl rfl ⟨rfl, rfl, rfl, rfl, rfl⟩ rfl rfl rfl rfl rfl (by kernel_rfl) Try.func4 (by kernel_rfl)
    (of_decide_eq_true (by kernel_rfl)) (by unfold Func.isWrapper; first | (rw [if_pos (by decide +kernel)]; kernel_rfl) | (rw [if_neg (by decide +kernel)]; exact ⟨rfl, rfl⟩))
    (fun os started H enc _ => topLineExact_lifted os started H enc)
#print axioms topLineExact_holds
end Go.Proofs.Ytefjhhgfkdkfaaa
