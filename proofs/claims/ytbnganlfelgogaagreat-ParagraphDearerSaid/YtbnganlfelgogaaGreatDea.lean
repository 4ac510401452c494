/- The law ParagraphDearer returns true. -/
import Derived.Test.YtbnganlfelgogaaGreatAwk
import Derived.Test.YtbnganlfelgogaaGreatPrd
import Derived.Test.YtbnganlfelgogaaGreatWst
namespace Go.Proofs.YtbnganlfelgogaaGreat
set_option linter.unusedSimpArgs false
set_option linter.unusedVariables false
open Go.RowKit
/-- Where the law has its two texts. -/
structure LX (w W : World) (f : Fnt) (v : Value) (r : Rls) (ws : List PWord) (vw : Value) (yb : Nat) (vf vg : Value) : Prop where
  B : Below w.heap.size w W
  X : Blk W w.heap.size 29 (xcs f v r vw)
  Y : Blk W yb 29 (xcs f vf r vg)
  y : w.heap.size < yb
  S : SoV W f.sorts vf
  V : WoV W ws vg
theorem LX.step {w W W' : World} {f : Fnt} {v : Value} {r : Rls} {ws : List PWord} {vw : Value} {yb : Nat} {vf vg : Value} (h : LX w W f v r ws vw yb vf vg) (hb : Below W.heap.size W W') : LX w W' f v r ws vw yb vf vg :=
  ⟨h.B.trans (hb.mono h.B.size), h.X.below hb h.X.lt, h.Y.below hb h.Y.lt, h.y, h.S.below hb, h.V.below hb⟩
theorem bt_open {f : Fnt} {r : Rls} {ws : List PWord} {w w' : World} {e : Ending} (h : BtPost f r ws w e w') (hp : paErr f r ws = 0) : Below w.heap.size w w' ∧ ∃ A n k vl, ∃ (c x : Int), e = .returned (.tuple #[.slice A n k, vl, .int .i64 c, .int .i64 x]) ∧
    ((x = 12 ∧ dist (tab f r ws) ((places ws).length - 1) = ML) ∨ (x = 0 ∧ dist (tab f r ws) ((places ws).length - 1) < ML ∧ c = (dist (tab f r ws) ((places ws).length - 1) : Int) ∧ ∃ b, b.length = n ∧ Path (tab f r ws) 0 b ((places ws).length - 1) (dist (tab f r ws) ((places ws).length - 1)))) := by
  obtain ⟨hb, ⟨h, -⟩ | ⟨-, hd, vl, rfl, -⟩ | ⟨-, hd, b, vb, vl, rfl, hv, -, hp1⟩⟩ := h
  · exact absurd hp h
  · exact ⟨hb, none, 0, 0, vl, 0, 12, rfl, .inl ⟨rfl, hd⟩⟩
  · obtain ⟨A, _, _, c, rfl, -⟩ := hv.open
    exact ⟨hb, A, _, c, vl, _, 0, rfl, .inr ⟨rfl, hd, rfl, b, by simp [ints], hp1⟩⟩
def TbPost (w : World) (e : Ending) (w' : World) : Prop := e = .returned (.bool true) ∧ Below w.heap.size w w'
set_option maxRecDepth 100000 in
set_option maxHeartbeats 8000000 in
theorem dearer_any (f : Fnt) (v : Value) (r : Rls) (ws : List PWord) (vw : Value) (s d : Int) (w : World) (hv : SoV w f.sorts v) (hn : f.name.size ≤ 9223372036854775807) (hw : WoV w ws vw) :
    Calls Tryz.prog 3 #[.agg (xcs f v r vw), .int .i64 s, .int .i64 d] w (TbPost w) := by
  have hb0 := below_new w (.cells (xcs f v r vw) 29)
  have hk0 := Blk.new w 29 (xcs f v r vw)
  obtain ⟨A, c, rfl⟩ := hv.shape
  obtain ⟨Aw, cw, rfl, -⟩ := hw.shape
  have HV := Lib.hid hv
  have HW := Lib.hid hw
  have HN := Lib.hid hn
  have HP : Hid (∀ W, Below w.heap.size w W → TbPost w (.returned (.bool true)) W) := (show ∀ W, _ from fun W hb => ⟨rfl, hb⟩)
  have HB0 := Lib.hid hb0
  have HK0 := Lib.hid hk0
  clear hv hw hn hb0 hk0
  go_enter Tryz.func3, Tryz.ntmps3
  go_wp2_with fail
  refine (awake4_any _).mono ?_
  rintro e w1 ⟨rfl, hb1⟩
  have HB1 := Lib.hid (HB0.out.trans (hb1.mono HB0.out.size))
  have HK := Lib.hid (HK0.out.below hb1 HK0.out.lt)
  clear hb1 HB0 HK0
  have c0 := HK.out.cell 0
  have c1 := HK.out.cell 1
  have c2 := HK.out.cell 2
  have c3 := HK.out.cell 3
  have c4 := HK.out.cell 4
  have c5 := HK.out.cell 5
  have c6 := HK.out.cell 6
  have c7 := HK.out.cell 7
  have c8 := HK.out.cell 8
  have c9 := HK.out.cell 9
  have c10 := HK.out.cell 10
  have c11 := HK.out.cell 11
  have cl := HK.out.lt
  have HWH := Lib.hid (whole_any f _ r ws _ w1 (HV.out.below HB1.out) HN.out (HW.out.below HB1.out))
  go_wp2_with fail
  refine HWH.out.mono ?_
  rintro e w2 ⟨b, rfl, hb, hb2⟩
  have HB2 := Lib.hid (HB1.out.trans (hb2.mono HB1.out.size))
  have HK2 := Lib.hid (HK.out.below hb2 HK.out.lt)
  clear hb2 c0 c1 c2 c3 c4 c5 c6 c7 c8 c9 c10 c11 cl HWH HK
  cases b with
  | false =>
    clear hb
    go_wp2_with fail
    go_ret
    exact HP.out _ HB2.out
  | true =>
  have hbb := hb rfl
  have HSM := Lib.hid hbb.1
  have HPE := Lib.hid hbb.2
  have HOK := Lib.hid (paErr_ok HPE.out)
  have HK := Lib.hid HK2.out
  clear hbb hb HK2
  have c0 := HK.out.cell 0
  have c1 := HK.out.cell 1
  have c2 := HK.out.cell 2
  have c3 := HK.out.cell 3
  have c4 := HK.out.cell 4
  have c5 := HK.out.cell 5
  have c6 := HK.out.cell 6
  have c7 := HK.out.cell 7
  have c8 := HK.out.cell 8
  have c9 := HK.out.cell 9
  have c10 := HK.out.cell 10
  have c11 := HK.out.cell 11
  have cl := HK.out.lt
  go_wp2_with fail
  refine (within13_any s 0 1000 w2).mono ?_
  rintro e w3 ⟨rfl, hw3⟩
  subst hw3
  cases hws : win s 0 1000 with
  | false =>
    clear hws
    go_wp2_with fail
    go_ret
    exact HP.out _ HB2.out
  | true =>
  have HS := Lib.hid (win_t.1 hws)
  clear hws
  go_wp2_with fail
  refine (within13_any d 0 1000 w2).mono ?_
  rintro e w3 ⟨rfl, hw3⟩
  subst hw3
  cases hws : win d 0 1000 with
  | false =>
    clear hws
    go_wp2_with fail
    go_ret
    exact HP.out _ HB2.out
  | true =>
  have HD := Lib.hid (win_t.1 hws)
  clear hws
  have hw1 : wrap64 (r.single + s) = r.single + s := IntWalk.wrap64_in _ (by have := HS.out; have := HOK.out.ru.si; omega)
  have hw2 : wrap64 (r.double + d) = r.double + d := IntWalk.wrap64_in _ (by have := HD.out; have := HOK.out.ru.db; omega)
  go_wp2_with fail
  refine (within13_any (r.single + s) 0 100000 w2).mono ?_
  rintro e w3 ⟨rfl, hw3⟩
  subst hw3
  cases hws : win (r.single + s) 0 100000 with
  | false =>
    clear hws
    go_wp2_with fail
    go_ret
    exact HP.out _ HB2.out
  | true =>
  have HS2 := Lib.hid hws
  clear hws
  go_wp2_with fail
  refine (within13_any (r.double + d) 0 100000 w2).mono ?_
  rintro e w3 ⟨rfl, hw3⟩
  subst hw3
  cases hws : win (r.double + d) 0 100000 with
  | false =>
    clear hws
    go_wp2_with fail
    go_ret
    exact HP.out _ HB2.out
  | true =>
  have HD2 := Lib.hid hws
  have HPD : Hid (paErr f (dear r s d) ws = 0) := dear_pa HPE.out HS2.out HD2.out
  clear hws
  have HOWN := Lib.hid (own_any f _ r ws _ w2 (HV.out.below HB2.out) (HW.out.below HB2.out) HSM.out)
  go_wp2_with fail
  refine HOWN.out.mono ?_
  rintro e w3 ⟨vf, vg, rfl, hsf, hwg, hb3⟩
  obtain ⟨Af, cf, rfl⟩ := hsf.shape
  obtain ⟨Ag, cg, rfl, -⟩ := hwg.shape
  have HLX : Hid (LX w (w3.alloc (.cells (xcs f (.slice Af f.sorts.length cf) r (.slice Ag ws.length cg)) 29)) f (.slice A f.sorts.length c) r ws (.slice Aw ws.length cw) w3.heap.size (.slice Af f.sorts.length cf) (.slice Ag ws.length cg)) := by
    have hbn := below_new w3 (.cells (xcs f (.slice Af f.sorts.length cf) r (.slice Ag ws.length cg)) 29)
    have hx := HK.out.below hb3 HK.out.lt
    exact ⟨(HB2.out.trans (hb3.mono HB2.out.size)).trans (hbn.mono (Nat.le_trans HB2.out.size hb3.size)), hx.below hbn hx.lt, Blk.new w3 29 _, hx.lt, hsf.below hbn, hwg.below hbn⟩
  clear hsf hwg hb3 HOWN c0 c1 c2 c3 c4 c5 c6 c7 c8 c9 c10 c11 cl HK
  go_upto_region 6 with fail
  generalize w3.alloc (.cells (xcs f (.slice Af f.sorts.length cf) r (.slice Ag ws.length cg)) 29) = w4 at *
  generalize w3.heap.size = yb at *
  have HK := Lib.hid HLX.out.Y
  have c0 := HK.out.cell 0
  have c1 := HK.out.cell 1
  have c2 := HK.out.cell 2
  have c3 := HK.out.cell 3
  have c4 := HK.out.cell 4
  have c5 := HK.out.cell 5
  have c6 := HK.out.cell 6
  have c7 := HK.out.cell 7
  have c8 := HK.out.cell 8
  have c9 := HK.out.cell 9
  have c10 := HK.out.cell 10
  have c11 := HK.out.cell 11
  have cl := HK.out.lt
  go_wp2_with fail
  refine (bestO_any f _ r ws _ w4 HLX.out.S HN.out HLX.out.V).mono ?_
  rintro e w5 h5
  have hb5 := h5.1
  have HLX5 := Lib.hid (HLX.out.step hb5)
  clear c0 c1 c2 c3 c4 c5 c6 c7 c8 c9 c10 c11 cl HK HLX
  obtain ⟨-, A1, n1, k1, vl1, c1, x1, rfl, h1⟩ := bt_open h5 HPE.out
  have HR1 := Lib.hid h1
  clear h1 h5 hb5
  have HDO := Lib.hid (dear_ok HPE.out HPD.out HS.out.1 HD.out.1)
  have HK := Lib.hid HLX5.out.X
  have c0 := HK.out.cell 0
  have c1 := HK.out.cell 1
  have c2 := HK.out.cell 2
  have c3 := HK.out.cell 3
  have c4 := HK.out.cell 4
  have c5 := HK.out.cell 5
  have c6 := HK.out.cell 6
  have c7 := HK.out.cell 7
  have c8 := HK.out.cell 8
  have c9 := HK.out.cell 9
  have c10 := HK.out.cell 10
  have c11 := HK.out.cell 11
  have cl := HK.out.lt
  have hw1 : wrap64 (r.single + s) = r.single + s := IntWalk.wrap64_in _ (by have := HS.out; have := HOK.out.ru.si; omega)
  have hw2 : wrap64 (r.double + d) = r.double + d := IntWalk.wrap64_in _ (by have := HD.out; have := HOK.out.ru.db; omega)
  have HRW : Hid (w.heap.size < w5.heap.size) := HLX5.out.X.lt
  have HRY : Hid (yb < w5.heap.size) := HLX5.out.Y.lt
  go_upto_region 8 with fail
  have hbn := ((below_new w5 (.cells (rcs r) 26)).setCell (p := ⟨w5.heap.size, 6, none⟩) (Nat.le_refl _) (.int .i64 (r.single + s))).setCell (p := ⟨w5.heap.size, 7, none⟩) (Nat.le_refl _) (.int .i64 (r.double + d))
  have HLX7 := Lib.hid (HLX5.out.step hbn)
  have HRB := Lib.hid (Blk.new w5 26 (rcs r))
  have HRB7 : Hid (Blk (((w5.alloc (.cells (rcs r) 26)).setCell ⟨w5.heap.size, 6, none⟩ (.int .i64 (r.single + s))).setCell ⟨w5.heap.size, 7, none⟩ (.int .i64 (r.double + d))) w5.heap.size 26 (rcs (dear r s d))) := (((Blk.new w5 26 (rcs r)).set_ 6 (.int .i64 (r.single + s))).set_ 7 (.int .i64 (r.double + d)))
  clear hbn HLX5 c0 c1 c2 c3 c4 c5 c6 c7 c8 c9 c10 c11 cl HK
  generalize w5.alloc (.cells (rcs r) 26) = w6 at *
  generalize w5.heap.size = rb at *
  have q6 := HRB.out.cell 6
  have q7 := HRB.out.cell 7
  have ql := HRB.out.lt
  have qf := HRB.out.frozen 6
  have qg := HRB.out.frozen 7
  go_upto_region 9 with fail
  clear q6 q7 ql qf qg HRB hw1 hw2
  generalize (w6.setCell ⟨rb, 6, none⟩ (.int .i64 (r.single + s))).setCell ⟨rb, 7, none⟩ (.int .i64 (r.double + d)) = w7 at *
  have HK := Lib.hid HLX7.out.Y
  have c0 := HK.out.cell 0
  have c1 := HK.out.cell 1
  have c2 := HK.out.cell 2
  have c3 := HK.out.cell 3
  have c4 := HK.out.cell 4
  have c5 := HK.out.cell 5
  have c6 := HK.out.cell 6
  have c7 := HK.out.cell 7
  have c8 := HK.out.cell 8
  have c9 := HK.out.cell 9
  have c10 := HK.out.cell 10
  have c11 := HK.out.cell 11
  have cl := HK.out.lt
  have q0 := HRB7.out.cell 0
  have q1 := HRB7.out.cell 1
  have q2 := HRB7.out.cell 2
  have q3 := HRB7.out.cell 3
  have q4 := HRB7.out.cell 4
  have q5 := HRB7.out.cell 5
  have q6 := HRB7.out.cell 6
  have q7 := HRB7.out.cell 7
  have ql := HRB7.out.lt
  go_wp2_with fail
  refine (bestO_any f _ (dear r s d) ws _ w7 HLX7.out.S HN.out HLX7.out.V).mono ?_
  rintro e w8 h8
  have hb8 := h8.1
  have HLX8 := Lib.hid (HLX7.out.step hb8)
  clear q0 q1 q2 q3 q4 q5 q6 q7 ql HRB7 HLX7 HK c0 c1 c2 c3 c4 c5 c6 c7 c8 c9 c10 c11 cl
  obtain ⟨-, A2, n2, k2, vl2, c2, x2, rfl, h2⟩ := bt_open h8 HPD.out
  have HR2 := Lib.hid h2
  clear h2 h8 hb8
  rcases HR1.out with ⟨rfl, hd1⟩ | ⟨rfl, hd1, rfl, b1, hb1n, hp1⟩
  · rcases HR2.out with ⟨rfl, hd2⟩ | ⟨rfl, hd2, rfl, b2, hb2n, hp2⟩
    · clear hd1 hd2
      go_wp2_with fail
      go_ret
      exact HP.out _ HLX8.out.B
    · have := HDO.out.1.2 hd2
      omega
  rcases HR2.out with ⟨rfl, hd2⟩ | ⟨rfl, hd2, rfl, b2, hb2n, hp2⟩
  · have := HDO.out.1.1 hd1
    omega
  have HP1 := Lib.hid (HDO.out.2.2 b1 hp1)
  have HG1 : Hid (dist (tab f r ws) ((places ws).length - 1) ≤ dist (tab f (dear r s d) ws) ((places ws).length - 1)) := HDO.out.2.1 hd1
  rw [hb1n] at HP1
  have HM1 := Lib.hid hd1
  have HM2 := Lib.hid hd2
  have HBO : Hid (dist (tab f r (bareW ws)) ((places (bareW ws)).length - 1) < ML → dist (tab f r ws) ((places ws).length - 1) ≤ dist (tab f r (bareW ws)) ((places (bareW ws)).length - 1)) := (show _ → _ from bare_ok HPE.out)
  clear hb1n hp1 hb2n hp2 hd1 hd2 HR1 HR2 HDO
  generalize dist (tab f r ws) ((places ws).length - 1) = D1 at *
  generalize dist (tab f (dear r s d) ws) ((places ws).length - 1) = D2 at *
  have hML : ML = 1000000000000000 := rfl
  have hsn : ((s + d).toNat : Int) = s + d := Int.toNat_of_nonneg (by have := HS.out; have := HD.out; omega)
  have hmm : ((n1 * (s + d).toNat : Nat) : Int) = (n1 : Int) * (s + d) := by rw [Int.natCast_mul, hsn]
  have hmb : n1 * (s + d).toNat ≤ 300 * 2000 := Nat.mul_le_mul HP1.out.1 (by have := HS.out; have := HD.out; omega)
  have hsd : wrap64 (s + d) = s + d := IntWalk.wrap64_in _ (by have := HS.out; have := HD.out; omega)
  have hpm : wrap64 ((n1 : Int) * (s + d)) = (n1 : Int) * (s + d) := IntWalk.wrap64_in _ (by rw [← hmm]; omega)
  have hsub : wrap64 ((D2 : Int) - (D1 : Int)) = (D2 : Int) - (D1 : Int) := IntWalk.wrap64_in _ (by have := HM1.out; have := HM2.out; omega)
  have hl1 : ¬ (D2 : Int) < (D1 : Int) := by have := HG1.out; omega
  have hl2 : ¬ (300 : Int) < (n1 : Int) := by have := HP1.out.1; omega
  have hl3 : ¬ (n1 : Int) * (s + d) < (D2 : Int) - (D1 : Int) := by
    have h := HP1.out.2
    rw [← hmm]
    omega
  clear hML hsn hmm hmb
  go_upto_region 14 with fail
  clear hsd hpm hsub hl1 hl2 hl3
  have HK := Lib.hid HLX8.out.X
  have c0 := HK.out.cell 0
  have c1 := HK.out.cell 1
  have c2 := HK.out.cell 2
  have c3 := HK.out.cell 3
  have c4 := HK.out.cell 4
  have c5 := HK.out.cell 5
  have c6 := HK.out.cell 6
  have c7 := HK.out.cell 7
  have c8 := HK.out.cell 8
  have c9 := HK.out.cell 9
  have c10 := HK.out.cell 10
  have c11 := HK.out.cell 11
  have cl := HK.out.lt
  have HCP := Lib.hid (copyWords_any ws _ w8 (HW.out.below HLX8.out.B) (by have := HSM.out.2.1; omega) (fun i hi => by have := HSM.out.2.2 i hi; omega))
  go_wp2_with fail
  refine HCP.out.mono ?_
  rintro e w9 ⟨vc, hd0, rfl, hs9, hb9⟩
  obtain ⟨Ac, cc, rfl, -⟩ := hs9.wov.shape
  have HB9 := Lib.hid hb9
  have HS9 : Hid (WoS w9 w8.heap.size (mixW ws 0) (.slice Ac ws.length cc) hd0) := (show WoS _ _ _ _ _ from by rw [mix_zero]; exact hs9)
  have HW82 : Hid (w.heap.size ≤ w8.heap.size) := HLX8.out.B.size
  clear hs9 hb9 HCP HK c0 c1 c2 c3 c4 c5 c6 c7 c8 c9 c10 c11 cl
  have HNB : Hid (ws.length ≤ 202) := HSM.out.2.1
  generalize hN : ws.length = N at *
  have HNN := Lib.hid hN
  clear hN
  go_wp2_with fail
  go_loopg [18] N (fun gg s18 wr => ∃ (k : Nat) (hd : List (Value × Value)), k ≤ N ∧ N - k ≤ gg ∧ s18 = .int .i64 (k : Int) ∧ Hid (Below w8.heap.size w8 wr) ∧ Hid (WoS wr w8.heap.size (mixW ws k) (.slice Ac N cc) hd))
  case atStart => exact ⟨0, hd0, by omega, by omega, rfl, HB9.out, HS9.out⟩
  case round =>
    obtain ⟨k, hd, hk, hg, rfl, HB, HS⟩ := hrel
    by_cases hlt : k < N
    · have hltz : (k : Int) < (N : Int) := by omega
      have hml : (mixW ws k).length = N := by rw [mix_len (by rw [HNN.out]; exact hk)]; exact HNN.out
      obtain ⟨-, g, x, rfl, hBg, hgl, hx, hfz, hnext⟩ := HS.out.strip (k := k) (by rw [hml]; exact hlt)
      have HNX := Lib.hid (hnext (mixW ws (k + 1)) (by rw [mix_len (by rw [HNN.out]; omega), mix_len (by rw [HNN.out]; omega)])
        (by rw [mix_gw (by rw [HNN.out]; omega), mix_gw (by rw [HNN.out]; omega), if_pos (by omega), if_neg (by omega), gw_bare])
        (fun i hik hi => by
          rw [mix_gw (by rw [HNN.out]; omega), mix_gw (by rw [HNN.out]; omega)]
          by_cases h : i < k
          · rw [if_pos h, if_pos (by omega)]
          · rw [if_neg h, if_neg (by omega)]))
      have HBN : Hid (Below w8.heap.size w8 (wr.setCell ⟨g, k * 2 + 1, none⟩ (.slice none 0 0))) := HB.out.setCell (p := ⟨g, k * 2 + 1, none⟩) hBg _
      clear hml hnext hBg
      go_wp2_with fail
      go_roundg (N - (k + 1))
      case measure => omega
      case rel => exact ⟨k + 1, _, by omega, by omega, congrArg (Value.int .i64) ((IntWalk.wrap64_in _ (by have := HNB.out; omega)).trans (by push_cast; rfl)), HBN, HNX⟩
    · have hltz : ¬ (k : Int) < (N : Int) := by omega
      have hkn : k = N := by omega
      subst hkn
      have HLX9 := Lib.hid (HLX8.out.step HB.out)
      have HWV : Hid (WoV wr (bareW ws) (.slice Ac k cc)) := (show WoV _ _ _ from by
        have h := HS.out.wov
        rw [← HNN.out, mix_all] at h
        rw [← HNN.out]
        exact h)
      have HK := Lib.hid HLX9.out.Y
      clear HB HS hltz hlt hg hk HS9 HB9
      have c0 := HK.out.cell 0
      have c1 := HK.out.cell 1
      have c2 := HK.out.cell 2
      have c3 := HK.out.cell 3
      have c4 := HK.out.cell 4
      have c5 := HK.out.cell 5
      have c6 := HK.out.cell 6
      have c7 := HK.out.cell 7
      have c8 := HK.out.cell 8
      have c9 := HK.out.cell 9
      have c10 := HK.out.cell 10
      have c11 := HK.out.cell 11
      have cl := HK.out.lt
      go_wp2_with fail
      refine (bestO_any f _ r (bareW ws) _ wr HLX9.out.S HN.out HWV.out).mono ?_
      rintro e w10 h10
      have HB10 := Lib.hid (HLX9.out.step h10.1).B
      clear HK c0 c1 c2 c3 c4 c5 c6 c7 c8 c9 c10 c11 cl
      obtain ⟨-, A3, n3, k3, vl3, c3, x3, rfl, h3⟩ := bt_open h10 (bare_pa HPE.out)
      have HR3 := Lib.hid h3
      clear h3 h10
      rcases HR3.out with ⟨rfl, hd3⟩ | ⟨rfl, hd3, rfl, b3, -, -⟩
      · clear hd3
        go_wp2_with fail
        go_ret
        exact HP.out _ HB10.out
      · have hge := HBO.out hd3
        clear hd3 HR3 HBO
        generalize dist (tab f r (bareW ws)) ((places (bareW ws)).length - 1) = D3 at *
        have hgz : (D1 : Int) ≤ (D3 : Int) := by omega
        clear hge
        go_wp2_with fail
        go_ret
        exact HP.out _ HB10.out
end Go.Proofs.YtbnganlfelgogaaGreat
