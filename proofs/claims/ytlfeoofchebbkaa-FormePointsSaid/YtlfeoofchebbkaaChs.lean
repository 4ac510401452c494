/- FormeChecks: CheckForme, FirstGap and Uncovered return what the document specifies, or the errors. -/
import Derived.Test.YtlfeoofchebbkaaGpr
namespace Go.Proofs.Ytlfeoofchebbkaa
set_option linter.unusedSimpArgs false
set_option linter.unusedVariables false
open Go.RowKit
/-- Two pairs of numbers are the same. -/
theorem eq57 (a b c d : Int) (w : World) : (Op.equalIn 10000 57 (.agg #[.int .i64 a, .int .i64 b]) (.agg #[.int .i64 c, .int .i64 d])).run Try.prog w = .ok (a == c && b == d) w := by
  have u3 := Try.underlying3
  have a3 := Try.isAgg3
  have z3 := Try.sizeOf3
  rw [show (10000 : Nat) = 9999 + 1 from rfl, Op.equalIn]
  simp only [Sem.run_bind, run_underlying Try.underlying57, Result.andThen_ok]
  simp only [Std.Legacy.Range.forIn_eq_forIn_range', Std.Legacy.Range.size, Nat.sub_zero, Nat.add_sub_cancel, Nat.div_one, List.range'_succ, List.range'_zero, List.forIn_cons, List.forIn_nil]
  go_simp
  by_cases h1 : a = c <;> by_cases h2 : b = d <;> simp [h1, h2]
/-- The box of a law of one forme, and its argument. -/
structure LF (w W : World) (f : Forme) (A : Option Addr) (b off c : Nat) : Prop where
  B : Below w.heap.size w W
  F : FAt W w.heap.size f (.slice A f.ps.length c)
  la : Lies A f.ps.length w.heap.size b off
  ps : PsAt W b off f.ps
  z : w.heap.size < W.heap.size
theorem LF.step {w W W' : World} {f : Forme} {A : Option Addr} {b off c : Nat} (h : LF w W f A b off c) (hb : Below W.heap.size W W') : LF w W' f A b off c :=
  ⟨h.B.trans (hb.mono h.B.size), h.F.below hb h.z, h.la, fun j hj => (h.ps j hj).below (hb.mono h.B.size) (h.la (by omega)).2, by have := h.z; have := hb.size; omega⟩
theorem LF.l {w W : World} {f : Forme} {A : Option Addr} {b off c : Nat} (h : LF w W f A b off c) : Lies A f.ps.length W.heap.size b off := h.la.mono h.B.size
/-- A call at a copy. -/
@[reducible] def AtCopy (n : Nat) (f : Forme) (P : World → Ending → World → Prop) : Prop := ∀ (W : World) (vf : Value), FormeAt W f vf → Calls Try.prog n #[vf] W (P W)
theorem checkForme_at (f : Forme) (hnm : NameOk f.ps) (hm : f.ps.length ≤ 1000) : AtCopy 40 f fun W e w' => e = .returned (.tuple #[.int .i64 (checkF f).1, .int .i64 (checkF f).2]) ∧ Below W.heap.size W w' := by
  rintro W vf ⟨A', b', c', rfl, h1, h2, h3⟩
  exact checkForme_any f A' b' 0 c' W h1 h2 hnm h3 (by omega)
theorem gapBad_at (f : Forme) (hnm : NameOk f.ps) (hm : f.ps.length ≤ 1000) (hs : (checkF f).2 ≠ 0) : AtCopy 41 f fun W e w' => e = .returned (.tuple #[.agg #[.int .i64 0, .int .i64 0], .int .i64 (checkF f).2]) ∧ Below W.heap.size W w' := by
  rintro W vf ⟨A', b', c', rfl, h1, h2, h3⟩
  exact firstGap_bad f A' b' 0 c' W h1 h2 hnm h3 (by omega) hs
theorem gapRight_at (f : Forme) (hnm : NameOk f.ps) (hm : f.ps.length ≤ 1000) (hs : (checkF f).2 = 0) : AtCopy 41 f fun W e w' => e = .returned (.tuple #[.agg #[.int .i64 (gapF f).1, .int .i64 (gapF f).2.1], .int .i64 (gapF f).2.2]) ∧ Below W.heap.size W w' := by
  rintro W vf ⟨A', b', c', rfl, h1, h2, h3⟩
  exact firstGap_right f A' b' 0 c' W h1 h2 hnm h3 (by omega) hs
theorem unc_any (f : Forme) (A : Option Addr) (b off c : Nat) (w : World) (hA : Lies A f.ps.length w.heap.size b off) (hps : PsAt w b off f.ps) (hnm : NameOk f.ps) (hc : f.ps.length ≤ c) (hm : f.ps.length ≤ 1000) :
    Calls Try.prog 42 #[.agg #[.int .i64 f.W, .int .i64 f.H, .slice A f.ps.length c]] w fun e w' => e = .returned (.tuple #[.int .i64 (if (checkF f).2 = 0 then f.W * f.H - areas f.ps else 0), .int .i64 (checkF f).2]) ∧ Below w.heap.size w w' := by
  have hcall := fun W (hb : Below w.heap.size w W) => check_any f A b off c W (hA.mono hb.size) (fun j hj => (hps j hj).below hb (hA (by omega)).2) hnm hc (by omega)
  have hB := below_new w (Obj.cells #[Value.int IntKind.i64 f.W, Value.int IntKind.i64 f.H, Value.slice A f.ps.length c] 37)
  have hF := Blk.new w 37 #[Value.int IntKind.i64 f.W, Value.int IntKind.i64 f.H, Value.slice A f.ps.length c]
  by_cases hs : (checkF f).2 = 0
  · have hR := checkF_zero hs
    have hcall2 := fun W (hb : Below w.heap.size w W) => uncovered_any f A b off c W (hA.mono hb.size) (fun j hj => (hps j hj).below hb (hA (by omega)).2) hR.toLaid hc (by omega)
    rw [hs] at hcall
    rw [if_pos hs, hs]
    generalize f.W * f.H - areas f.ps = u at *
    generalize f.ps.length = n at *
    clear hs hps hA hR
    go_enter Try.func42, Try.ntmps42
    go_wp2_with fail
    generalize w.alloc (Obj.cells #[Value.int IntKind.i64 f.W, Value.int IntKind.i64 f.H, Value.slice A n c] 37) = W0 at *
    refine (hcall _ hB).mono ?_
    rintro e w1 ⟨rfl, b1⟩
    have hF1 := hF.below b1 hF.lt
    have a0 : w1.cell? ⟨w.heap.size, 0, none⟩ = some (.int .i64 f.W) := hF1.cell 0
    have a1 : w1.cell? ⟨w.heap.size, 1, none⟩ = some (.int .i64 f.H) := hF1.cell 1
    have a2 : w1.cell? ⟨w.heap.size, 2, none⟩ = some (.slice A n c) := hF1.cell 2
    have HB1 := Lib.hid (hB.trans (b1.mono hB.size))
    have HC2 := Lib.hid hcall2
    clear hcall hcall2 hB hF hF1 b1
    go_wp2_with fail
    refine (HC2.out _ HB1.out).mono ?_
    rintro e w2 ⟨rfl, b2⟩
    have HB2 := Lib.hid (HB1.out.trans (b2.mono HB1.out.size))
    clear b2
    go_wp2_with fail
    go_ret2
    exact ⟨rfl, HB2.out⟩
  · rw [if_neg hs]
    have hsb := bne_t hs
    generalize (checkF f).2 = s at *
    generalize f.ps.length = n at *
    clear hs hps hA
    go_enter Try.func42, Try.ntmps42
    go_wp2_with fail
    generalize w.alloc (Obj.cells #[Value.int IntKind.i64 f.W, Value.int IntKind.i64 f.H, Value.slice A n c] 37) = W0 at *
    refine (hcall _ hB).mono ?_
    rintro e w1 ⟨rfl, b1⟩
    have HB1 := Lib.hid (hB.trans (b1.mono hB.size))
    clear hcall hB hF b1
    go_wp2_with fail
    go_ret2
    exact ⟨rfl, HB1.out⟩
theorem unc_at (f : Forme) (hnm : NameOk f.ps) (hm : f.ps.length ≤ 1000) : AtCopy 42 f fun W e w' => e = .returned (.tuple #[.int .i64 (if (checkF f).2 = 0 then f.W * f.H - areas f.ps else 0), .int .i64 (checkF f).2]) ∧ Below W.heap.size W w' := by
  rintro W vf ⟨A', b', c', rfl, h1, h2, h3⟩
  exact unc_any f A' b' 0 c' W h1 h2 hnm h3 hm
theorem gap_full {f : Forme} (h : f.Laid) : (gapF f).2.2 = 12 ∧ (gapF f).1 = 0 ∧ (gapF f).2.1 = 0 ∧ f.W * f.H - areas f.ps = 0 ∨ (gapF f).2.2 = 0 ∧ 0 < f.W * f.H - areas f.ps := by
  by_cases hg : ∃ x y, f.gap x y
  · right
    obtain ⟨x, y, hg⟩ := hg
    obtain ⟨x', y', h1⟩ := gap_first hg
    rw [gapF_hit h1]
    refine ⟨rfl, ?_⟩
    have h2 := h.areas_le
    rcases Int.lt_or_eq_of_le h2 with h3 | h3
    · omega
    · exact absurd hg (h.full_gap.1 h3 x y)
  · left
    have hn : ∀ x y, ¬ f.gap x y := fun x y h => hg ⟨x, y, h⟩
    rw [gapF_none hn]
    exact ⟨rfl, rfl, rfl, by rw [h.full_gap.2 hn]; omega⟩
set_option maxRecDepth 100000 in
set_option maxHeartbeats 8000000 in
theorem checks_any (f : Forme) (A : Option Addr) (b off c : Nat) (w : World) (hA : Lies A f.ps.length w.heap.size b off) (hps : PsAt w b off f.ps) (hc : f.ps.length ≤ c) (hm : c ≤ maxLen) :
    Calls Try.prog 6 #[.agg #[.int .i64 f.W, .int .i64 f.H, .slice A f.ps.length c]] w fun e w' => e = .returned (.bool true) ∧ Below w.heap.size w w' := by
  have hHL : LF w (w.alloc (Obj.cells #[Value.int IntKind.i64 f.W, Value.int IntKind.i64 f.H, Value.slice A f.ps.length c] 37)) f A b off c := ⟨below_new _ _, FAt_new w 37 f _, hA, fun j hj => (hps j hj).below (below_new _ _) (hA (by omega)).2, by simp⟩
  unfold maxLen at hm
  go_enter Try.func6, Try.ntmps6
  go_wp2_with fail
  generalize w.alloc (Obj.cells #[Value.int IntKind.i64 f.W, Value.int IntKind.i64 f.H, Value.slice A f.ps.length c] 37) = W0 at *
  have HL0 := Lib.hid hHL
  clear hHL hA hps
  refine (awake_any _).mono ?_
  rintro e W1 ⟨rfl, e1⟩
  have HL := Lib.hid (HL0.out.step e1)
  clear HL0 e1
  obtain ⟨a0, a1, a2⟩ := HL.out.F
  go_wp2_with fail
  refine (light_any f A b off c W1 HL.out.l HL.out.ps (by omega)).mono ?_
  rintro e W2 ⟨rfl, e1⟩
  have HL2 := Lib.hid (HL.out.step e1)
  clear HL e1 a0 a1 a2
  have HLT := Lib.hid (fun h => lightB_t (f := f) h)
  generalize lightB f = lb at *
  cases lb with
  | false =>
    go_wp2_with fail
    go_ret
    exact ⟨rfl, HL2.out.B⟩
  | true =>
    obtain ⟨hnm, hlen⟩ := HLT.out rfl
    have HNM := Lib.hid hnm
    clear hnm HLT
    have HL := Lib.hid HL2.out
    clear HL2
    have H40 := Lib.hid (checkForme_at f HNM.out (by omega))
    have HCF := Lib.hid (copyF_at f A b off c W2.heap.size W2 HL.out.l HL.out.ps (by omega))
    obtain ⟨a0, a1, a2⟩ := HL.out.F
    go_wp2_with fail
    refine (HCF.out _ (Below.refl _ _) (Nat.le_refl _)).mono ?_
    rintro e v1 ⟨vf, rfl, hf4, hb4⟩
    have HLm := Lib.hid (HL.out.step hb4)
    have HF4 := Lib.hid hf4
    clear HL HCF hb4 hf4 a0 a1 a2
    go_wp2_with fail
    refine (H40.out _ vf HF4.out).mono ?_
    rintro e W3 ⟨rfl, hb6⟩
    have HL := Lib.hid (HLm.out.step hb6)
    clear HLm HF4 hb6

    have H42 := Lib.hid (unc_at f HNM.out (by omega))
    have HRF : Hid (∀ W, LF w W f A b off c → Calls Try.prog 43 #[.agg #[.int .i64 f.W, .int .i64 f.H, .slice A f.ps.length c]] W fun e w' => e = .returned (.tuple #[.int .i64 (checkF f).1, .int .i64 (checkF f).2]) ∧ Below W.heap.size W w') := (show ∀ W, _ from fun W hW => refForme_any f A b off c W hW.l hW.ps HNM.out hc (by omega))
    by_cases hs : (checkF f).2 = 0
    · have hR := checkF_zero hs
      have H41 := Lib.hid (gapRight_at f HNM.out (by omega) hs)
      have HRG : Hid (∀ W, LF w W f A b off c → Calls Try.prog 44 #[.agg #[.int .i64 f.W, .int .i64 f.H, .slice A f.ps.length c]] W fun e w' => e = .returned (gapRes f) ∧ Below W.heap.size W w') := (show ∀ W, _ from fun W hW => refGap_any f A b off c W hW.l hW.ps hR.toLaid (by omega))
      have HRU : Hid (∀ W, LF w W f A b off c → Calls Try.prog 45 #[.agg #[.int .i64 f.W, .int .i64 f.H, .slice A f.ps.length c]] W fun e w' => e = .returned (.int .i64 (f.W * f.H - areas f.ps)) ∧ Below W.heap.size W w') := (show ∀ W, _ from fun W hW => refUnc_any f A b off c W hW.l hW.ps hR.toLaid (by omega))
      have HGF := Lib.hid (gap_full hR.toLaid)
      unfold gapRes at HRG
      rw [if_pos hs] at H42
      rw [hs] at H42 HRF
      rw [hs]
      clear hs hR
      generalize (checkF f).1 = c1 at *
      generalize f.W * f.H - areas f.ps = u at *
      generalize hgq1 : (gapF f).1 = gx at *
      generalize hgq2 : (gapF f).2.1 = gy at *
      generalize hgq3 : (gapF f).2.2 = ge at *
      clear hgq1 hgq2 hgq3
      have HCF := Lib.hid (copyF_at f A b off c W3.heap.size W3 HL.out.l HL.out.ps (by omega))
      obtain ⟨a0, a1, a2⟩ := HL.out.F
      go_wp2_with fail
      refine (HCF.out _ (Below.refl _ _) (Nat.le_refl _)).mono ?_
      rintro e v1 ⟨vf, rfl, hf4, hb4⟩
      have HLm := Lib.hid (HL.out.step hb4)
      have HF4 := Lib.hid hf4
      clear HL HCF hb4 hf4 a0 a1 a2
      go_wp2_with fail
      refine (H41.out _ vf HF4.out).mono ?_
      rintro e W4 ⟨rfl, hb6⟩
      have HL := Lib.hid (HLm.out.step hb6)
      clear HLm HF4 hb6

      have HCF := Lib.hid (copyF_at f A b off c W4.heap.size W4 HL.out.l HL.out.ps (by omega))
      have hF5 := HL.out.F.below (below_new W4 (Obj.cells #[Value.int IntKind.i64 gx, Value.int IntKind.i64 gy] 57)) HL.out.z
      obtain ⟨a0, a1, a2⟩ := hF5
      obtain ⟨x0, x1, x2⟩ := HL.out.F
      go_wp2_with fail
      have HBN := Lib.hid (below_new W4 (Obj.cells #[Value.int IntKind.i64 gx, Value.int IntKind.i64 gy] 57))
      have HBK := Lib.hid (Blk.new W4 57 #[Value.int IntKind.i64 gx, Value.int IntKind.i64 gy])
      generalize hWx : W4.alloc (Obj.cells #[Value.int IntKind.i64 gx, Value.int IntKind.i64 gy] 57) = W4x at *
      clear hWx
      refine (HCF.out _ HBN.out HBN.out.size).mono ?_
      rintro e v1 ⟨vf, rfl, hf4, hb4⟩
      have HLm := Lib.hid (HL.out.step (HBN.out.trans (hb4.mono HBN.out.size)))
      have HP5m := Lib.hid (HBK.out.below hb4 HBK.out.lt)
      have HF4 := Lib.hid hf4
      generalize hbq : W4.heap.size = HP5q at *
      clear hbq HL HCF hb4 hf4 a0 a1 a2 x0 x1 x2 HBN HBK
      go_wp2_with fail
      refine (H42.out _ vf HF4.out).mono ?_
      rintro e W5 ⟨rfl, hb6⟩
      have HL := Lib.hid (HLm.out.step hb6)
      have HP5 := Lib.hid (HP5m.out.below hb6 HP5m.out.lt)
      clear HLm HF4 hb6 HP5m

      obtain ⟨a0, a1, a2⟩ := HL.out.F
      go_wp2_with fail
      refine (HRF.out _ HL.out).mono ?_
      rintro e W6 ⟨rfl, hb6⟩
      have HL6 := Lib.hid (HL.out.step hb6)
      have HP6 := Lib.hid (HP5.out.below hb6 HP5.out.lt)
      clear HL HP5 hb6 a0 a1 a2
      obtain ⟨a0, a1, a2⟩ := HL6.out.F
      go_wp2_with fail
      refine (HRG.out _ HL6.out).mono ?_
      rintro e W7 ⟨rfl, hb6⟩
      have HL7 := Lib.hid (HL6.out.step hb6)
      have HP7 := Lib.hid (HP6.out.below hb6 HP6.out.lt)
      clear HL6 HP6 hb6 a0 a1 a2
      have hbn := below_new W7 (Obj.cells #[Value.int IntKind.i64 gx, Value.int IntKind.i64 gy] 57)
      have hbk := Blk.new W7 57 #[Value.int IntKind.i64 gx, Value.int IntKind.i64 gy]
      have HL8 := Lib.hid (HL7.out.step hbn)
      have HP8 := Lib.hid (HP7.out.below hbn HP7.out.lt)
      have HBK := Lib.hid hbk
      obtain ⟨a0, a1, a2⟩ := HL8.out.F
      obtain ⟨x0, x1, x2⟩ := HL7.out.F
      clear hbn hbk
      go_wp2_with fail
      generalize hWx : W7.alloc (Obj.cells #[Value.int IntKind.i64 gx, Value.int IntKind.i64 gy] 57) = W8 at *
      generalize hwq : W7.heap.size = wq at *
      clear hWx hwq x0 x1 x2
      refine (HRU.out _ HL8.out).mono ?_
      rintro e W9 ⟨rfl, hb6⟩
      have HP9 := HP8.out.below hb6 HP8.out.lt
      have HW9 := HBK.out.below hb6 HBK.out.lt
      have HB9 := Lib.hid (HL8.out.step hb6).B
      have p0 : W9.cell? ⟨HP5q, 0, none⟩ = some (.int .i64 gx) := HP9.cell 0
      have p1 : W9.cell? ⟨HP5q, 1, none⟩ = some (.int .i64 gy) := HP9.cell 1
      have q0 : W9.cell? ⟨wq, 0, none⟩ = some (.int .i64 gx) := HW9.cell 0
      have q1 : W9.cell? ⟨wq, 1, none⟩ = some (.int .i64 gy) := HW9.cell 1
      clear hb6 HP8 HBK HP9 HW9 HL7 HP7 a0 a1 a2
      have heq := eq57
      rcases HGF.out with ⟨rfl, rfl, rfl, rfl⟩ | ⟨rfl, hu⟩
      · go_wp2_with fail
        go_ret
        exact ⟨rfl, HB9.out⟩
      · go_wp2_with fail
        go_ret
        exact ⟨rfl, HB9.out⟩

    · have H41 := Lib.hid (gapBad_at f HNM.out (by omega) hs)
      have hsb := bne_t hs
      rw [if_neg hs] at H42
      clear hs
      generalize checkF f = cq at *
      have HCF := Lib.hid (copyF_at f A b off c W3.heap.size W3 HL.out.l HL.out.ps (by omega))
      obtain ⟨a0, a1, a2⟩ := HL.out.F
      go_wp2_with fail
      refine (HCF.out _ (Below.refl _ _) (Nat.le_refl _)).mono ?_
      rintro e v1 ⟨vf, rfl, hf4, hb4⟩
      have HLm := Lib.hid (HL.out.step hb4)
      have HF4 := Lib.hid hf4
      clear HL HCF hb4 hf4 a0 a1 a2
      go_wp2_with fail
      refine (H41.out _ vf HF4.out).mono ?_
      rintro e W4 ⟨rfl, hb6⟩
      have HL := Lib.hid (HLm.out.step hb6)
      clear HLm HF4 hb6

      have HCF := Lib.hid (copyF_at f A b off c W4.heap.size W4 HL.out.l HL.out.ps (by omega))
      have hF5 := HL.out.F.below (below_new W4 (Obj.cells #[Value.int IntKind.i64 0, Value.int IntKind.i64 0] 57)) HL.out.z
      obtain ⟨a0, a1, a2⟩ := hF5
      obtain ⟨x0, x1, x2⟩ := HL.out.F
      go_wp2_with fail
      have HBN := Lib.hid (below_new W4 (Obj.cells #[Value.int IntKind.i64 0, Value.int IntKind.i64 0] 57))
      have HBK := Lib.hid (Blk.new W4 57 #[Value.int IntKind.i64 0, Value.int IntKind.i64 0])
      generalize hWx : W4.alloc (Obj.cells #[Value.int IntKind.i64 0, Value.int IntKind.i64 0] 57) = W4x at *
      clear hWx
      refine (HCF.out _ HBN.out HBN.out.size).mono ?_
      rintro e v1 ⟨vf, rfl, hf4, hb4⟩
      have HLm := Lib.hid (HL.out.step (HBN.out.trans (hb4.mono HBN.out.size)))
      have HP5m := Lib.hid (HBK.out.below hb4 HBK.out.lt)
      have HF4 := Lib.hid hf4
      generalize hbq : W4.heap.size = HP5q at *
      clear hbq HL HCF hb4 hf4 a0 a1 a2 x0 x1 x2 HBN HBK
      go_wp2_with fail
      refine (H42.out _ vf HF4.out).mono ?_
      rintro e W5 ⟨rfl, hb6⟩
      have HL := Lib.hid (HLm.out.step hb6)
      have HP5 := Lib.hid (HP5m.out.below hb6 HP5m.out.lt)
      clear HLm HF4 hb6 HP5m

      obtain ⟨a0, a1, a2⟩ := HL.out.F
      go_wp2_with fail
      refine (HRF.out _ HL.out).mono ?_
      rintro e W6 ⟨rfl, hb6⟩
      have HB6 := Lib.hid (HL.out.step hb6).B
      have HP6 := HP5.out.below hb6 HP5.out.lt
      have p0 : W6.cell? ⟨HP5q, 0, none⟩ = some (.int .i64 0) := HP6.cell 0
      have p1 : W6.cell? ⟨HP5q, 1, none⟩ = some (.int .i64 0) := HP6.cell 1
      clear HL HP5 HP6 hb6 a0 a1 a2
      have heq := eq57
      go_wp2_with fail
      go_ret
      exact ⟨rfl, HB6.out⟩
end Go.Proofs.Ytlfeoofchebbkaa
