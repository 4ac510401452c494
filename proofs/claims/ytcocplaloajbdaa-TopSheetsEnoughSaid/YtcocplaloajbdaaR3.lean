/- TopSheetsEnough returns true for every run of sheets; the argument reads as it did. -/
import Derived.Test.YtcocplaloajbdaaRows
import Derived.Test.YtcocplaloajbdaaLaw
import Derived.ProofKit
import Derived.ChangeOld
import Derived.Carry
import Derived.Deep.Slices
import Derived.Lib.SmallJoins
namespace Go.Proofs.Ytcocplaloajbdaa
set_option linter.unusedSimpArgs false
set_option linter.unusedVariables false
open Go.ChangeShapes Go.WideShapes Go.ChangeAt Go.RowKit Go.Deep Go.Joins
theorem Try.own : ownKnob Try.prog.godebug = none := by kernel_rfl
theorem Try.laidOut : laidOutB Try.prog = true := by kernel_rfl
section
variable {H : Type} {enc : TypeId × Value → H}
theorem trodAll_below {P : Program} (hl : laidOutB P = true) {W W' : World} (hb : Below W.heap.size W W') : ∀ {ts : List TypeId} {vs : List Value} {ds : List (DataW H)} {ps : List MemPlace},
    (ts.all fun t => P.readableRec t && decide (t < P.types.size)) = true → (∀ x ∈ ps, x.block < W.heap.size) → DataW.TrodAll enc P W 0 (fun _ => true) true ts vs ds ps → DataW.TrodAll enc P W' 0 (fun b => decide (b < W.heap.size)) true ts vs ds ps
  | [], [], [], _, _, _, h => h
  | [], _ :: _, _, _, _, _, h => h.elim
  | [], [], _ :: _, _, _, _, h => h.elim
  | _ :: _, [], _, _, _, _, h => h.elim
  | _ :: _, _ :: _, [], _, _, _, h => h.elim
  | t :: ts, v :: vs, d :: ds, ps, hr, hlt, h => by
    obtain ⟨p, q, h1, h2, rfl⟩ := h
    simp only [List.all_cons, Bool.and_eq_true, decide_eq_true_eq] at hr
    exact ⟨p, q, Below.trod hl hr.1.1 hr.1.2 h1 hb (fun x hx => hlt x (by simp [hx])), trodAll_below hl hb (by simpa using hr.2) (fun x hx => hlt x (by simp [hx])) h2, rfl⟩
/-- The last step of a law that returns true and turns nothing that was there. -/
theorem law_post {P : Program} {f : Func} {s : ChangeSpec} {W W' : World} {args : Array Value} {ds gs : List (DataW H)} {before : List MemPlace} (hl : laidOutB P = true) (hvars : s.vars = []) (hrt : f.resultTypes = #[4]) (hu : P.underlying 4 = some .bool)
    (hts : (f.params.toList.all fun t => P.readableRec t && decide (t < P.types.size)) = true) (hfn : s.fn H (ds ++ gs) = { results := [.lit (.bool true)], args := ds })
    (hW : DataW.Whole enc P f.params.toList s.vars false W args.toList ds gs before) (hb : Below W.heap.size W W') : s.post enc P f false true false false W args (.bool true) W' := by
  have hlt : ∀ p ∈ before, p.block < W.heap.size := fun p hp => hW.lt p hp
  have hW2 := hW
  obtain ⟨p, q, hA, hV, rfl, hz, hn⟩ := hW
  rw [hvars] at hV
  obtain ⟨rfl, rfl⟩ := trodVars_none hV
  refine ⟨ds, [], p ++ [], [], p, [], hW2, ?_, ?_, ?_, World.keptBut_mono (fun x hx => ⟨hx, Or.inr (Or.inl (by simpa using hx))⟩) (hb.frame (· ∈ p ++ [])), fun h => by cases h⟩
  · rw [hrt, hfn]
    exact trodAll_mk1 ⟨1, by simp [DataW.trod, Value.cells, hu]⟩
  · rw [hfn]
    exact trodAll_below hl hb hts (fun x hx => hlt x (by simpa using hx)) hA
  · rw [hvars, hfn]
    rfl
theorem wf_rng {n : Int} (h : (Lit.int .i64 n).wf = true) : -9223372036854775808 ≤ n ∧ n ≤ 9223372036854775807 := by
  simp [Lit.wf, IntKind.min, IntKind.max, IntKind.signed, IntKind.bits] at h
  omega
set_option maxRecDepth 100000 in
theorem open_sr {W : World} {v : Value} {d : DataW H} {ps : List MemPlace} (hval : Value.okWide Try.prog W .any 0 25 v) (h : DataW.Trod enc Try.prog W 0 (fun _ => true) true 25 v d ps) :
    ∃ n k a b : Int, v = .agg #[.int .i64 n, .int .i64 k, .int .i64 a, .int .i64 b] ∧ (-9223372036854775808 ≤ a ∧ a ≤ 9223372036854775807) ∧ b ≤ 9223372036854775807 := by
  obtain ⟨cs, rfl, hsz⟩ := okWide_struct Try.underlying25 hval
  obtain ⟨fuel, hf⟩ := h
  have c3 : Try.prog.cellsOf 3 = 1 := by kernel_rfl
  have c23 : Try.prog.cellsOf 23 = 2 := by kernel_rfl
  have c25 : Try.prog.cellsOf 25 = 4 := by kernel_rfl
  obtain ⟨ys, n', _, _, hlen, hyl, hf'⟩ := DataW.trod_struct Try.underlying25 hf
  have f0 := hf' 0 _ rfl
  have f1 := hf' 1 _ rfl
  have f2 := hf' 2 _ rfl
  rw [List.getElem?_eq_getElem (by rw [hyl]; decide)] at f0 f1 f2
  obtain ⟨x0, hx0, _, _⟩ := DataW.trod_int Try.underlying3 f0
  obtain ⟨x1, hx1, _, _⟩ := DataW.trod_int Try.underlying3 f1
  obtain ⟨zs, n'', _, _, hlen2, hzl, hg'⟩ := DataW.trod_struct Try.underlying23 f2
  have g0 := hg' 0 _ rfl
  have g1 := hg' 1 _ rfl
  rw [List.getElem?_eq_getElem (by rw [hzl]; decide)] at g0 g1
  obtain ⟨x2, hx2, w2, e2⟩ := DataW.trod_int Try.underlying3 g0
  obtain ⟨x3, hx3, w3, e3⟩ := DataW.trod_int Try.underlying3 g1
  have hs4 : cs.size = 4 := by rw [hsz, c25]
  obtain ⟨l⟩ := cs
  match l, hs4 with
  | [v0, v1, v2, v3], _ =>
    simp [Value.cells, c3, c23] at hx0 hx1 hx2 hx3
    subst hx0 hx1 hx2 hx3
    exact ⟨x0, x1, x2, x3, rfl, wf_rng e2, (wf_rng e3).2⟩
end
set_option maxRecDepth 100000 in
theorem topSheetsEnough_lifted (os : Os) (started : os.Started) (H : Type) (enc : TypeId × Value → H) :
    ReturnsInHanded {} Try.checked os 3 .any (Rows.topSheetsEnoughSpec.pre6 enc Try.prog Try.f3 Rows.topSheetsEnoughRow.domain false) (Rows.topSheetsEnoughSpec.post enc Try.prog Try.f3 false true false false) := by
  refine returnsInHanded_of_change (C := Try.checked) Try.own started (by kernel_rfl) Try.func3
    (ChangeSpec.witness6 (enc := enc) (C := Try.checked) false ⟨#[], #[.agg #[.int .i64 0, .int .i64 0, .int .i64 0, .int .i64 0]], []⟩ 8 (by kernel_rfl) (by kernel_rfl) (by kernel_rfl) (by kernel_rfl)) ?_
  intro W base args ds gs before hval0 hW hcnd _
  have hval : ∀ (j : Nat) t v, Try.f3.params[j]? = some t → args[j]? = some v → Value.okWide Try.prog W .any base t v := hval0
  have hW' := hW
  obtain ⟨p, q, hA0, hV, rfl, hfz, hnd⟩ := hW
  have hA : DataW.TrodAll enc Try.prog W 0 (fun _ => true) true Try.f3.params.toList args.toList ds p := hA0
  rw [Try.params3] at hA hval
  obtain ⟨v0, d0, rfl, rfl, h0⟩ := trodAll_one hA
  obtain ⟨rfl, rfl⟩ := trodVars_none hV
  obtain ⟨n, k, a, b, rfl, ⟨ha, ha'⟩, hb'⟩ := open_sr (hval 0 25 v0 rfl rfl) h0
  clear hA0 hval0
  refine (sheets_any n k a b W ha ha' hb').mono fun e W' ⟨he, hw⟩ => ?_
  subst he
  exact ⟨_, rfl, law_post Try.laidOut rfl (by kernel_rfl) Try.underlying4 (by kernel_rfl) rfl hW' hw⟩
theorem topSheetsEnough_holds : Rows.TopSheetsEnoughSaid :=
  OpenClaim.holds_of_wide 3 Try.f3 rfl rfl rfl rfl rfl rfl rfl ⟨rfl, rfl, rfl, rfl, rfl⟩ rfl rfl rfl rfl rfl (by kernel_rfl) Try.func3 (by kernel_rfl)
    (of_decide_eq_true (by kernel_rfl)) (by unfold Func.isWrapper; first | (rw [if_pos (by decide +kernel)]; kernel_rfl) | (rw [if_neg (by decide +kernel)]; exact ⟨rfl, rfl⟩))
    (fun os started H enc _ => topSheetsEnough_lifted os started H enc)
#print axioms topSheetsEnough_holds
end Go.Proofs.Ytcocplaloajbdaa
