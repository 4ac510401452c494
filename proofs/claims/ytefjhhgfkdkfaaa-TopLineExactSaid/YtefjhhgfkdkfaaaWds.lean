/- CheckWords: the error of words, of the program and of the document's answer; Err; open. -/
import Derived.Test.YtefjhhgfkdkfaaaPlc
namespace Go.Proofs.Ytefjhhgfkdkfaaa
set_option linter.unusedSimpArgs false
set_option linter.unusedVariables false
open Go.RowKit Go.Sort
/-- Where a fount is boxed, beside words. -/
structure VB (w W : World) (f : Fnt) (v : Value) (ws : List PWord) (vw : Value) : Prop where
  B : Below w.heap.size w W
  F : Blk W w.heap.size 24 (fcs f v)
  S : SoV W f.sorts v
  V : WoV W ws vw
theorem VB.step {w W W' : World} {f : Fnt} {v : Value} {ws : List PWord} {vw : Value} (h : VB w W f v ws vw) (hb : Below W.heap.size W W') : VB w W' f v ws vw := ⟨h.B.trans (hb.mono h.B.size), h.F.below hb h.F.lt, h.S.below hb, h.V.below hb⟩
theorem VB.start {w : World} {f : Fnt} {v : Value} {ws : List PWord} {vw : Value} (h : SoV w f.sorts v) (h2 : WoV w ws vw) : VB w (w.alloc (.cells (fcs f v) 24)) f v ws vw := ⟨below_new _ _, Blk.new _ _ _, h.below (below_new _ _), h2.below (below_new _ _)⟩
theorem wsOk_of {f : Fnt} {ws : List PWord} (h : ∀ j, j < ws.length → wErr f ws j = 0) : WsOk f.sorts.length ws := fun i hi => (wErr_ok (h i hi)).1
set_option maxRecDepth 100000 in
set_option maxHeartbeats 4000000 in
theorem checkWords_any (f : Fnt) (v : Value) (ws : List PWord) (vw : Value) (w : World) (hv : SoV w f.sorts v) (hn : f.name.size ≤ 9223372036854775807) (hw : WoV w ws vw) :
    Calls Try.prog 79 #[.agg (fcs f v), vw] w (ErPost (wsErr f ws) w) := by
  have HD : Hid (wsErr f ws = if (fnErr f).2 ≠ 0 then (0, (fnErr f).2) else if 200 < ws.length then (0, 8) else if (fstE (wErr f ws) ws.length).2 ≠ 0 then fstE (wErr f ws) ws.length else if 300 < (places ws).length then (0, 8) else (0, 0)) := rfl
  generalize wsErr f ws = er at *
  have HP : Hid (∀ W x y, er = (x, y) → Below w.heap.size w W → ErPost er w (.returned (.tuple #[.int .i64 x, .int .i64 y])) W) := (show ∀ W x y, _ from fun W x y h hb => erPost_of h hb)
  have HT := Lib.hid (VB.start hv hw)
  have HN := Lib.hid (fun W hW => founted_any f v W hW hn)
  obtain ⟨A, c, rfl, hwm⟩ := hw.shape
  clear hv hn hw
  have g0 := HT.out.F.cell 0
  have g1 := HT.out.F.cell 1
  have g2 := HT.out.F.cell 2
  go_enter Try.func79, Try.ntmps79
  go_wp2_with fail
  generalize w.alloc (.cells (fcs f v) 24) = W0 at *
  refine (HN.out _ HT.out.S).mono ?_
  rintro e W1 ⟨rfl, hb⟩
  have H1 := Lib.hid (HT.out.step hb)
  clear hb HT HN g0 g1 g2
  have g0 := H1.out.F.cell 0
  have g1 := H1.out.F.cell 1
  have g2 := H1.out.F.cell 2
  obtain ⟨ev, hev⟩ : ∃ x, (fnErr f).2 = x := ⟨_, rfl⟩
  rw [hev]
  have HEV := Lib.hid hev
  clear hev
  by_cases he : ev = 0
  rotate_left
  · have heb := bne_t he
    have HFIN : Hid (er = (0, ev)) := by show _ = _; rw [HD.out, HEV.out, if_pos he]
    clear he
    go_wp2_with fail
    go_ret2
    exact HP.out _ _ _ HFIN.out H1.out.B
  have heb := bne_f he
  have HF0 := Lib.hid (HEV.out.trans he)
  have hfw := fnErr_few HF0.out
  have HD2 : Hid (er = if 200 < ws.length then (0, 8) else if (fstE (wErr f ws) ws.length).2 ≠ 0 then fstE (wErr f ws) ws.length else if 300 < (places ws).length then (0, 8) else (0, 0)) := by show _ = _; rw [HD.out, if_neg (fun h => h HF0.out)]
  clear he HEV HD
  by_cases h200 : 200 < ws.length
  · have h200z : (200 : Int) < (ws.length : Int) := by omega
    have HFIN : Hid (er = (0, 8)) := by show _ = _; rw [HD2.out, if_pos h200]
    clear h200
    go_wp2_with fail
    go_ret2
    exact HP.out _ _ _ HFIN.out H1.out.B
  have h200z : ¬ (200 : Int) < (ws.length : Int) := by omega
  have hn200 : ws.length ≤ 200 := by omega
  have HD3 : Hid (er = if (fstE (wErr f ws) ws.length).2 ≠ 0 then fstE (wErr f ws) ws.length else if 300 < (places ws).length then (0, 8) else (0, 0)) := by show _ = _; rw [HD2.out, if_neg h200]
  clear h200 HD2
  generalize hnn : ws.length = n at *
  have HNN := Lib.hid hnn
  clear hnn
  go_wp2_with fail
  go_loopg [20, 7, 8, 9] n (fun gg s20 _ _ _ wr => ∃ k : Nat, k ≤ n ∧ n - k ≤ gg ∧ s20 = .int .i64 k ∧ Hid (VB w wr f v ws (.slice A n c)) ∧ Hid (∀ j, j < k → wErr f ws j = 0))
  case atStart => exact ⟨0, by omega, by omega, rfl, H1.out, fun j hj => absurd hj (Nat.not_lt_zero _)⟩
  case round =>
    obtain ⟨k, hk, hg, rfl, HK, HE⟩ := hrel
    clear H1 g0 g1 g2
    have g0 := HK.out.F.cell 0
    have g1 := HK.out.F.cell 1
    have g2 := HK.out.F.cell 2
    have hwr := HK.out.F.lt
    by_cases hlt : k < n
    · have hltz : (k : Int) < (n : Int) := by omega
      have hV := HK.out.V
      rw [← HNN.out] at hV
      obtain ⟨b, off, A1, c1, A2, c2, rfl, hbw, z0, z1, I1, I2, -, -, -, -⟩ := hV.at (k := k) (by rw [HNN.out]; exact hlt)
      have HI1 := Lib.hid I1
      have HI2 := Lib.hid I2
      have ERR : Hid (∀ e, wErr f ws k = e → e ≠ 0 → er = ((k : Int), e)) := (show ∀ e, _ from fun e he h0 => by rw [HD3.out, fstE_hit (k := k) (by rw [he]; exact h0) HE.out hlt, if_pos (by rw [he]; exact h0), he])
      have HWD : Hid (∀ W, SoV W f.sorts v → IV W (gw ws k).sorts (.slice A1 (gw ws k).sorts.length c1) → IV W (gw ws k).breaks (.slice A2 (gw ws k).breaks.length c2) → Calls Try.prog 118 #[.agg (fcs f v), .agg #[.slice A1 (gw ws k).sorts.length c1, .slice A2 (gw ws k).breaks.length c2]] W fun e w' => e = .returned (.int .i64 (wErr f ws k)) ∧ Below W.heap.size W w') := (show ∀ W, _ from fun W a b d => checkWord_any f v (gw ws k) _ _ W a b d hfw.2)
      clear hV I1 I2
      generalize hse : wErr f ws k = se at *
      have HSE := Lib.hid hse
      clear hse
      generalize (gw ws k).sorts.length = sl at *
      generalize (gw ws k).breaks.length = bl at *
      have hbx := below_new wr (.cells #[.slice A1 sl c1, .slice A2 bl c2] 97)
      have HX := Lib.hid (HK.out.step hbx)
      have hB := Blk.new wr 97 #[.slice A1 sl c1, .slice A2 bl c2]
      have x0 := hB.cell 0
      have x1 := hB.cell 1
      have HJ1 := Lib.hid (HI1.out.below hbx)
      have HJ2 := Lib.hid (HI2.out.below hbx)
      clear hbx hB
      go_wp2_with fail
      refine (HWD.out _ HX.out.S HJ1.out HJ2.out).mono ?_
      rintro e W3 ⟨rfl, hb⟩
      have H3 := Lib.hid (HX.out.step hb)
      clear hb HX HK HWD HJ1 HJ2 x0 x1 z0 z1 g0 g1 g2
      have g0 := H3.out.F.cell 0
      have g1 := H3.out.F.cell 1
      have g2 := H3.out.F.cell 2
      by_cases he : se = 0
      · have heb := bne_f he
        have HZ := Lib.hid he
        clear he
        go_wp2_with fail
        go_roundg (n - (k + 1))
        case measure => omega
        case rel =>
          refine ⟨k + 1, by omega, by omega, by go_num, H3.out, (show ∀ j, _ from fun j hj => ?_)⟩
          by_cases e : j = k
          · rw [e, HSE.out]; exact HZ.out
          · exact HE.out j (by omega)
      · have heb := bne_t he
        have HFIN := Lib.hid (ERR.out se (by first | rfl | exact HSE.out) he)
        clear he
        go_wp2_with fail
        go_ret2
        exact HP.out _ _ _ HFIN.out H3.out.B
    · have hltz : ¬ (k : Int) < (n : Int) := by omega
      have hke : k = n := by omega
      have HWO := Lib.hid (wsOk_of (f := f) (ws := ws) (fun j hj => HE.out j (by rw [HNN.out] at hj; omega)))
      have HD4 : Hid (er = if 300 < (places ws).length then (0, 8) else (0, 0)) := by show _ = _; rw [HD3.out, fstE_none (fun j hj => HE.out j (by omega)), if_neg (by decide)]
      have HPL := Lib.hid (placesOf_any f.sorts.length ws (.slice A n c) wr HK.out.V HWO.out (by rw [HNN.out]; omega))
      clear hke hlt HE
      go_wp2_with fail
      refine HPL.out.mono ?_
      rintro e W4 ⟨vp, rfl, hpv, hb, -⟩
      have H4 := Lib.hid (HK.out.step hb)
      obtain ⟨Ap, cp, rfl, -, -⟩ := hpv.shape
      have hpl2 : (places ws).length ≤ 20000 := by
        have := plTo_len HWO.out (Nat.le_refl ws.length)
        rw [HNN.out] at this
        rw [places_len, HNN.out]
        omega
      clear hb hpv HPL HK g0 g1 g2
      generalize (places ws).length = pn at *
      by_cases h300 : 300 < pn
      · have h300z : (300 : Int) < (pn : Int) := by omega
        have HFIN : Hid (er = (0, 8)) := by show _ = _; rw [HD4.out, if_pos h300]
        clear h300
        go_wp2_with fail
        go_ret2
        exact HP.out _ _ _ HFIN.out H4.out.B
      · have h300z : ¬ (300 : Int) < (pn : Int) := by omega
        have HFIN : Hid (er = (0, 0)) := by show _ = _; rw [HD4.out, if_neg h300]
        clear h300
        go_wp2_with fail
        go_ret2
        exact HP.out _ _ _ HFIN.out H4.out.B
set_option maxRecDepth 100000 in
set_option maxHeartbeats 4000000 in
theorem refWords_any (f : Fnt) (v : Value) (ws : List PWord) (vw : Value) (w : World) (hv : SoV w f.sorts v) (hn : f.name.size ≤ 9223372036854775807) (hw : WoV w ws vw) :
    Calls Try.prog 135 #[.agg (fcs f v), vw] w (ErPost (wsErr f ws) w) := by
  have HD : Hid (wsErr f ws = if (fnErr f).2 ≠ 0 then (0, (fnErr f).2) else if 200 < ws.length then (0, 8) else if (fstE (wErr f ws) ws.length).2 ≠ 0 then fstE (wErr f ws) ws.length else if 300 < (places ws).length then (0, 8) else (0, 0)) := rfl
  generalize wsErr f ws = er at *
  have HP : Hid (∀ W x y, er = (x, y) → Below w.heap.size w W → ErPost er w (.returned (.tuple #[.int .i64 x, .int .i64 y])) W) := (show ∀ W x y, _ from fun W x y h hb => erPost_of h hb)
  have HT := Lib.hid (VB.start hv hw)
  have HN := Lib.hid (fun W hW => refErr_any f v W hW hn)
  obtain ⟨A, c, rfl, hwm⟩ := hw.shape
  clear hv hn hw
  have g0 := HT.out.F.cell 0
  have g1 := HT.out.F.cell 1
  have g2 := HT.out.F.cell 2
  go_enter Try.func135, Try.ntmps135
  go_wp2_with fail
  generalize w.alloc (.cells (fcs f v) 24) = W0 at *
  refine (HN.out _ HT.out.S).mono ?_
  rintro e W1 ⟨rfl, hb⟩
  have H1 := Lib.hid (HT.out.step hb)
  clear hb HT HN g0 g1 g2
  have g0 := H1.out.F.cell 0
  have g1 := H1.out.F.cell 1
  have g2 := H1.out.F.cell 2
  obtain ⟨ev, hev⟩ : ∃ x, (fnErr f).2 = x := ⟨_, rfl⟩
  rw [hev]
  have HEV := Lib.hid hev
  clear hev
  by_cases he : ev = 0
  rotate_left
  · have heb := bne_t he
    have HFIN : Hid (er = (0, ev)) := by show _ = _; rw [HD.out, HEV.out, if_pos he]
    clear he
    go_wp2_with fail
    go_ret2
    exact HP.out _ _ _ HFIN.out H1.out.B
  have heb := bne_f he
  have HF0 := Lib.hid (HEV.out.trans he)
  have hfw := fnErr_few HF0.out
  have HD2 : Hid (er = if 200 < ws.length then (0, 8) else if (fstE (wErr f ws) ws.length).2 ≠ 0 then fstE (wErr f ws) ws.length else if 300 < (places ws).length then (0, 8) else (0, 0)) := by show _ = _; rw [HD.out, if_neg (fun h => h HF0.out)]
  clear he HEV HD
  by_cases h200 : 200 < ws.length
  · have h200z : (200 : Int) < (ws.length : Int) := by omega
    have HFIN : Hid (er = (0, 8)) := by show _ = _; rw [HD2.out, if_pos h200]
    clear h200
    go_wp2_with fail
    go_ret2
    exact HP.out _ _ _ HFIN.out H1.out.B
  have h200z : ¬ (200 : Int) < (ws.length : Int) := by omega
  have hn200 : ws.length ≤ 200 := by omega
  have HD3 : Hid (er = if (fstE (wErr f ws) ws.length).2 ≠ 0 then fstE (wErr f ws) ws.length else if 300 < (places ws).length then (0, 8) else (0, 0)) := by show _ = _; rw [HD2.out, if_neg h200]
  clear h200 HD2
  generalize hnn : ws.length = n at *
  have HNN := Lib.hid hnn
  clear hnn
  go_wp2_with fail
  go_loopg [7, 8] n (fun gg s7 _ wr => ∃ k : Nat, k ≤ n ∧ n - k ≤ gg ∧ s7 = .int .i64 k ∧ Hid (VB w wr f v ws (.slice A n c)) ∧ Hid (∀ j, j < k → wErr f ws j = 0))
  case atStart => exact ⟨0, by omega, by omega, rfl, H1.out, fun j hj => absurd hj (Nat.not_lt_zero _)⟩
  case round =>
    obtain ⟨k, hk, hg, rfl, HK, HE⟩ := hrel
    clear H1 g0 g1 g2
    have g0 := HK.out.F.cell 0
    have g1 := HK.out.F.cell 1
    have g2 := HK.out.F.cell 2
    have hwr := HK.out.F.lt
    by_cases hlt : k < n
    · have hltz : (k : Int) < (n : Int) := by omega
      have hV := HK.out.V
      rw [← HNN.out] at hV
      obtain ⟨b, off, A1, c1, A2, c2, rfl, hbw, z0, z1, I1, I2, -, -, -, -⟩ := hV.at (k := k) (by rw [HNN.out]; exact hlt)
      have HI1 := Lib.hid I1
      have HI2 := Lib.hid I2
      have ERR : Hid (∀ e, wErr f ws k = e → e ≠ 0 → er = ((k : Int), e)) := (show ∀ e, _ from fun e he h0 => by rw [HD3.out, fstE_hit (k := k) (by rw [he]; exact h0) HE.out hlt, if_pos (by rw [he]; exact h0), he])
      have HWD : Hid (∀ W, SoV W f.sorts v → IV W (gw ws k).sorts (.slice A1 (gw ws k).sorts.length c1) → IV W (gw ws k).breaks (.slice A2 (gw ws k).breaks.length c2) → Calls Try.prog 143 #[.agg (fcs f v), .agg #[.slice A1 (gw ws k).sorts.length c1, .slice A2 (gw ws k).breaks.length c2]] W fun e w' => e = .returned (.int .i64 (wErr f ws k)) ∧ Below W.heap.size W w') := (show ∀ W, _ from fun W a b d => refWord_any f v (gw ws k) _ _ W a b d hfw.2)
      clear hV I1 I2
      generalize hse : wErr f ws k = se at *
      have HSE := Lib.hid hse
      clear hse
      generalize (gw ws k).sorts.length = sl at *
      generalize (gw ws k).breaks.length = bl at *
      go_upto_region 9 with (fail)
      have xg0 := cell_regrown g0
      have xg1 := cell_regrown g1
      have xg2 := cell_regrown g2
      have xz0 := cell_regrown z0
      have xz1 := cell_regrown z1
      have cN : ∀ d os, Calls Try.prog 143 #[.agg #[.string f.name, .int .i64 f.body, v], .agg #[.slice A1 sl c1, .slice A2 bl c2]] (grow (redrawn wr d) os) fun e w'' => e = .returned (.int .i64 se) ∧ ∃ p : Regrown, w'' = grow (redrawn wr p.d) p.os := fun d os => Calls.regrown_of (HWD.out (grow (redrawn wr d) os) (HK.out.S.below (below_regrown wr d os)) (HI1.out.below (below_regrown wr d os)) (HI2.out.below (below_regrown wr d os)))
      refine wp_region_quiet_below (by kernel_rfl) (by kernel_rfl) ?_
      repeat (first | go_big_quiet_step (exact cN _ _) | quiet_step (exact cN _ _))
      refine wpQuiet_nil ?_
      intro _ hw'
      obtain ⟨⟨dq, osq⟩, hw''⟩ := hw'
      subst hw''
      have b3 := below_regrown wr dq osq
      have H3 := Lib.hid (HK.out.step b3)
      clear xg0 xg1 xg2 xz0 xz1 cN b3 HK HWD z0 z1 g0 g1 g2
      generalize grow (redrawn wr dq) osq = W3 at *
      have g0 := H3.out.F.cell 0
      have g1 := H3.out.F.cell 1
      have g2 := H3.out.F.cell 2
      by_cases he : se = 0
      · have heb := bne_f he
        have HZ := Lib.hid he
        clear he
        go_wp2_with fail
        go_roundg (n - (k + 1))
        case measure => omega
        case rel =>
          refine ⟨k + 1, by omega, by omega, by go_num, H3.out, (show ∀ j, _ from fun j hj => ?_)⟩
          by_cases e : j = k
          · rw [e, HSE.out]; exact HZ.out
          · exact HE.out j (by omega)
      · have heb := bne_t he
        have HFIN := Lib.hid (ERR.out se (by first | rfl | exact HSE.out) he)
        clear he
        go_wp2_with fail
        go_ret2
        exact HP.out _ _ _ HFIN.out H3.out.B
    · have hltz : ¬ (k : Int) < (n : Int) := by omega
      have hke : k = n := by omega
      have HWO := Lib.hid (wsOk_of (f := f) (ws := ws) (fun j hj => HE.out j (by rw [HNN.out] at hj; omega)))
      have HD4 : Hid (er = if 300 < (places ws).length then (0, 8) else (0, 0)) := by show _ = _; rw [HD3.out, fstE_none (fun j hj => HE.out j (by omega)), if_neg (by decide)]
      have HPL := Lib.hid (refPlaces_any f.sorts.length ws (.slice A n c) wr HK.out.V HWO.out (by rw [HNN.out]; omega))
      clear hke hlt HE
      go_wp2_with fail
      refine HPL.out.mono ?_
      rintro e W4 ⟨vp, rfl, hpv, hb, -⟩
      have H4 := Lib.hid (HK.out.step hb)
      obtain ⟨Ap, cp, rfl, -, -⟩ := hpv.shape
      have hpl2 : (places ws).length ≤ 20000 := by
        have := plTo_len HWO.out (Nat.le_refl ws.length)
        rw [HNN.out] at this
        rw [places_len, HNN.out]
        omega
      clear hb hpv HPL HK g0 g1 g2
      generalize (places ws).length = pn at *
      by_cases h300 : 300 < pn
      · have h300z : (300 : Int) < (pn : Int) := by omega
        have HFIN : Hid (er = (0, 8)) := by show _ = _; rw [HD4.out, if_pos h300]
        clear h300
        go_wp2_with fail
        go_ret2
        exact HP.out _ _ _ HFIN.out H4.out.B
      · have h300z : ¬ (300 : Int) < (pn : Int) := by omega
        have HFIN : Hid (er = (0, 0)) := by show _ = _; rw [HD4.out, if_neg h300]
        clear h300
        go_wp2_with fail
        go_ret2
        exact HP.out _ _ _ HFIN.out H4.out.B
theorem refWordsErr_any (f : Fnt) (v : Value) (ws : List PWord) (vw : Value) (w : World) (hv : SoV w f.sorts v) (hn : f.name.size ≤ 9223372036854775807) (hw : WoV w ws vw) :
    Calls Try.prog 114 #[.agg (fcs f v), vw] w fun e w' => e = .returned (.int .i64 (wsErr f ws).2) ∧ Below w.heap.size w w' := by
  have HT := Lib.hid (VB.start hv hw)
  have HC := Lib.hid (fun W (h : VB w W f v ws vw) => refWords_any f v ws vw W h.S hn h.V)
  clear hv hn hw
  have g0 := HT.out.F.cell 0
  have g1 := HT.out.F.cell 1
  have g2 := HT.out.F.cell 2
  go_enter Try.func114, Try.ntmps114
  go_wp2_with fail
  refine (HC.out _ HT.out).mono ?_
  rintro e w1 ⟨rfl, hb⟩
  have HB1 := Lib.hid (HT.out.step hb).B
  clear hb g0 g1 g2
  go_wp2_with fail
  go_ret
  exact ⟨rfl, HB1.out⟩
/-- Where a fount and rules are boxed, beside words. -/
structure UB (w W : World) (f : Fnt) (v : Value) (r : Rls) (ws : List PWord) (vw : Value) : Prop where
  T : TB w W f v r
  V : WoV W ws vw
theorem UB.step {w W W' : World} {f : Fnt} {v : Value} {r : Rls} {ws : List PWord} {vw : Value} (h : UB w W f v r ws vw) (hb : Below W.heap.size W W') : UB w W' f v r ws vw := ⟨h.T.step hb, h.V.below hb⟩
theorem UB.start {w : World} {f : Fnt} {v : Value} {r : Rls} {ws : List PWord} {vw : Value} (h : SoV w f.sorts v) (h2 : WoV w ws vw) : UB w ((w.alloc (.cells (fcs f v) 24)).alloc (.cells (rcs r) 26)) f v r ws vw :=
  ⟨TB.start r h, (h2.below (below_new _ _)).below (below_new _ _)⟩
set_option maxRecDepth 100000 in
theorem refErr04_any (f : Fnt) (v : Value) (r : Rls) (ws : List PWord) (vw : Value) (w : World) (hv : SoV w f.sorts v) (hn : f.name.size ≤ 9223372036854775807) (hw : WoV w ws vw) :
    Calls Try.prog 77 #[.agg (fcs f v), .agg (rcs r), vw] w fun e w' => e = .returned (.int .i64 (paErr f r ws)) ∧ Below w.heap.size w w' := by
  have HT := Lib.hid (UB.start (r := r) hv hw)
  have HC := Lib.hid (fun W (h : SoV W f.sorts v) => refRules_any f v r W h hn)
  have HC2 := Lib.hid (fun W (h : SoV W f.sorts v) (h2 : WoV W ws vw) => refWordsErr_any f v ws vw W h hn h2)
  have HD : Hid (paErr f r ws = if ruErr f r ≠ 0 then ruErr f r else (wsErr f ws).2) := rfl
  generalize paErr f r ws = rv at *
  clear hv hn hw
  have g0 := HT.out.T.F.cell 0
  have g1 := HT.out.T.F.cell 1
  have g2 := HT.out.T.F.cell 2
  have q0 := HT.out.T.R.cell 0
  have q1 := HT.out.T.R.cell 1
  have q2 := HT.out.T.R.cell 2
  have q3 := HT.out.T.R.cell 3
  have q4 := HT.out.T.R.cell 4
  have q5 := HT.out.T.R.cell 5
  have q6 := HT.out.T.R.cell 6
  have q7 := HT.out.T.R.cell 7
  go_enter Try.func77, Try.ntmps77
  go_wp2_with fail
  generalize (w.alloc (.cells (fcs f v) 24)).alloc (.cells (rcs r) 26) = W0 at *
  refine (HC.out _ HT.out.T.S).mono ?_
  rintro e W1 ⟨rfl, hb⟩
  have H1 := Lib.hid (HT.out.step hb)
  clear hb HT HC g0 g1 g2 q0 q1 q2 q3 q4 q5 q6 q7
  have g0 := H1.out.T.F.cell 0
  have g1 := H1.out.T.F.cell 1
  have g2 := H1.out.T.F.cell 2
  have q0 := H1.out.T.R.cell 0
  have q1 := H1.out.T.R.cell 1
  have q2 := H1.out.T.R.cell 2
  have q3 := H1.out.T.R.cell 3
  have q4 := H1.out.T.R.cell 4
  have q5 := H1.out.T.R.cell 5
  have q6 := H1.out.T.R.cell 6
  have q7 := H1.out.T.R.cell 7
  obtain ⟨ev, hev⟩ : ∃ x, ruErr f r = x := ⟨_, rfl⟩
  rw [hev] at HD ⊢
  clear hev
  by_cases he : ev = 0
  · have heb := bne_f he
    have HFIN : Hid (rv = (wsErr f ws).2) := by show _ = _; rw [HD.out, if_neg (fun h => h he)]
    clear he
    go_wp2_with fail
    refine (HC2.out _ H1.out.T.S H1.out.V).mono ?_
    rintro e W2 ⟨rfl, hb⟩
    have HB := Lib.hid (H1.out.step hb).T.B
    clear hb
    go_wp2_with fail
    go_ret
    exact ⟨ret_int HFIN.out.symm, HB.out⟩
  · have heb := bne_t he
    have HFIN : Hid (rv = ev) := by show _ = _; rw [HD.out, if_pos he]
    clear he
    go_wp2_with fail
    go_ret
    exact ⟨ret_int HFIN.out.symm, H1.out.T.B⟩
end Go.Proofs.Ytefjhhgfkdkfaaa
