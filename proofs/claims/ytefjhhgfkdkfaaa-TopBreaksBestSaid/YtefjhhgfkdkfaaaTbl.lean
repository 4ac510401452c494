/- The law TopBreaksBest returns true. -/
import Derived.Test.YtefjhhgfkdkfaaaTbp
import Derived.Test.YtefjhhgfkdkfaaaBrl
namespace Go.Proofs.Ytefjhhgfkdkfaaa
set_option linter.unusedSimpArgs false
set_option linter.unusedVariables false
open Go.RowKit
/-- Where the law has its two texts. -/
structure LX (w W : World) (f : Fnt) (v : Value) (r : Rls) (ws : List PWord) (vw : Value) (yb : Nat) (vf vg : Value) : Prop where
  B : Below w.heap.size w W
  X : Blk W w.heap.size 29 (xcs f v r vw)
  Y : Blk W yb 29 (xcs f vf r vg)
  y : w.heap.size < yb
  S : SoV W f.sorts vf
  V : WoV W ws vg
theorem LX.step {w W W' : World} {f : Fnt} {v : Value} {r : Rls} {ws : List PWord} {vw : Value} {yb : Nat} {vf vg : Value} (h : LX w W f v r ws vw yb vf vg) (hb : Below W.heap.size W W') : LX w W' f v r ws vw yb vf vg :=
  ⟨h.B.trans (hb.mono h.B.size), h.X.below hb h.X.lt, h.Y.below hb h.Y.lt, h.y, h.S.below hb, h.V.below hb⟩
theorem IV.atN {W : World} {zs : List Int} {A : Option Addr} {n c j : Nat} (h : IV W zs (.slice A n c)) (hj : j < zs.length) : ∃ b off, A = some ⟨b, off, none⟩ ∧ b < W.heap.size ∧ W.cell? ⟨b, off + j, none⟩ = some (.int .i64 (gz zs j)) := by
  obtain ⟨A', b, off, c', he, hA, hz, -⟩ := h.open
  injection he with e1 e2 e3
  obtain ⟨h1, h2⟩ := hA (by omega)
  exact ⟨b, off, by rw [e1, h1], h2, hz j hj⟩
def TbPost (w : World) (e : Ending) (w' : World) : Prop := e = .returned (.bool true) ∧ Below w.heap.size w w'
set_option maxRecDepth 100000 in
set_option maxHeartbeats 8000000 in
theorem topBreaks_any (f : Fnt) (v : Value) (r : Rls) (ws : List PWord) (vw : Value) (other : List Int) (vo : Value) (w : World) (hv : SoV w f.sorts v) (hn : f.name.size ≤ 9223372036854775807) (hw : WoV w ws vw) (ho : IV w other vo) :
    Calls Try.prog 3 #[.agg (xcs f v r vw), vo] w (TbPost w) := by
  have hb0 := below_new w (.cells (xcs f v r vw) 29)
  have hk0 := Blk.new w 29 (xcs f v r vw)
  obtain ⟨A, c, rfl⟩ := hv.shape
  obtain ⟨Aw, cw, rfl, -⟩ := hw.shape
  obtain ⟨Ao, bo, oo, co, rfl, -, -, hoc, hoc2⟩ := ho.open
  have HV := Lib.hid hv
  have HW := Lib.hid hw
  have HO := Lib.hid ho
  have HN := Lib.hid hn
  have HP : Hid (∀ W, Below w.heap.size w W → TbPost w (.returned (.bool true)) W) := (show ∀ W, _ from fun W hb => ⟨rfl, hb⟩)
  have HB0 := Lib.hid hb0
  have HK0 := Lib.hid hk0
  clear hv hw ho hn hb0 hk0
  generalize hlo : other.length = lo at *
  have HLO := Lib.hid hlo
  clear hlo
  go_enter Try.func3, Try.ntmps3
  go_wp2_with fail
  refine (broken_any _).mono ?_
  rintro e w1 ⟨rfl, hb1⟩
  have HB1 := Lib.hid (HB0.out.trans (hb1.mono HB0.out.size))
  have HK1 := Lib.hid (HK0.out.below hb1 HK0.out.lt)
  clear hb1 HB0 HK0
  have c0 := HK1.out.cell 0
  have c1 := HK1.out.cell 1
  have c2 := HK1.out.cell 2
  have c3 := HK1.out.cell 3
  have c4 := HK1.out.cell 4
  have c5 := HK1.out.cell 5
  have c6 := HK1.out.cell 6
  have c7 := HK1.out.cell 7
  have c8 := HK1.out.cell 8
  have c9 := HK1.out.cell 9
  have c10 := HK1.out.cell 10
  have c11 := HK1.out.cell 11
  have cl := HK1.out.lt
  have HWH := Lib.hid (wholeO_any f _ r ws _ w1 (HV.out.below HB1.out) HN.out (HW.out.below HB1.out))
  go_wp2_with fail
  refine HWH.out.mono ?_
  rintro e w2 ⟨b, rfl, hb, hb2⟩
  have HB2 := Lib.hid (HB1.out.trans (hb2.mono HB1.out.size))
  cases b with
  | false =>
    go_wp2_with fail
    go_ret
    exact HP.out _ HB2.out
  | true =>
  have hbb := hb rfl
  have HSM := Lib.hid hbb.1
  have HPE := Lib.hid hbb.2
  have HK2 := Lib.hid (HK1.out.below hb2 HK1.out.lt)
  clear hbb hb hb2 HK1 c0 c1 c2 c3 c4 c5 c6 c7 c8 c9 c10 c11 cl HWH
  by_cases h40 : 40 < lo
  · have h40z : (40 : Int) < (lo : Int) := by omega
    go_wp2_with fail
    go_ret
    exact HP.out _ HB2.out
  have h40z : ¬ (40 : Int) < (lo : Int) := by omega
  have c0 := HK2.out.cell 0
  have c1 := HK2.out.cell 1
  have c2 := HK2.out.cell 2
  have c3 := HK2.out.cell 3
  have c4 := HK2.out.cell 4
  have c5 := HK2.out.cell 5
  have c6 := HK2.out.cell 6
  have c7 := HK2.out.cell 7
  have c8 := HK2.out.cell 8
  have c9 := HK2.out.cell 9
  have c10 := HK2.out.cell 10
  have c11 := HK2.out.cell 11
  have cl := HK2.out.lt
  have HOWN := Lib.hid (own_any f _ r ws _ w2 (HV.out.below HB2.out) (HW.out.below HB2.out) HSM.out)
  go_wp2_with fail
  refine HOWN.out.mono ?_
  rintro e w3 ⟨vf, vg, rfl, hsf, hwg, hb3⟩
  obtain ⟨Af, cf, rfl⟩ := hsf.shape
  obtain ⟨Ag, cg, rfl, -⟩ := hwg.shape
  have HLX : Hid (LX w (w3.alloc (.cells (xcs f (.slice Af f.sorts.length cf) r (.slice Ag ws.length cg)) 29)) f (.slice A f.sorts.length c) r ws (.slice Aw ws.length cw) w3.heap.size (.slice Af f.sorts.length cf) (.slice Ag ws.length cg)) := by
    have hbn := below_new w3 (.cells (xcs f (.slice Af f.sorts.length cf) r (.slice Ag ws.length cg)) 29)
    have hx := HK2.out.below hb3 HK2.out.lt
    exact ⟨(HB2.out.trans (hb3.mono HB2.out.size)).trans (hbn.mono (Nat.le_trans HB2.out.size hb3.size)), hx.below hbn hx.lt, Blk.new w3 29 _, hx.lt, hsf.below hbn, hwg.below hbn⟩
  have HOK := Lib.hid (paErr_ok HPE.out)
  clear hsf hwg hb3 HOWN c0 c1 c2 c3 c4 c5 c6 c7 c8 c9 c10 c11 cl HK2 h40
  have HBE : Hid (∀ W, LX w W f (.slice A f.sorts.length c) r ws (.slice Aw ws.length cw) w3.heap.size (.slice Af f.sorts.length cf) (.slice Ag ws.length cg) → Calls Try.prog 8 #[.agg (fcs f (.slice Af f.sorts.length cf)), .agg (rcs r), .slice Ag ws.length cg] W (BtPost f r ws W)) := (show ∀ W, _ from fun W h => bestO_any f _ r ws _ W h.S HN.out h.V)
  have HFE : Hid (∀ W, LX w W f (.slice A f.sorts.length c) r ws (.slice Aw ws.length cw) w3.heap.size (.slice Af f.sorts.length cf) (.slice Ag ws.length cg) → Calls Try.prog 9 #[.agg (fcs f (.slice Af f.sorts.length cf)), .agg (rcs r), .slice Ag ws.length cg] W (FwPost f r ws W)) := (show ∀ W, _ from fun W h => fewest_any f _ r ws _ W h.S HN.out h.V)
  have HCB := Lib.hid (fun bs vb W (h : LX w W f (.slice A f.sorts.length c) r ws (.slice Aw ws.length cw) w3.heap.size (.slice Af f.sorts.length cf) (.slice Ag ws.length cg)) (hb : IV W bs vb) => checkBreaks_any f _ r ws _ bs vb W h.S HN.out h.V hb)
  have HDM := Lib.hid (fun a b W (h : LX w W f (.slice A f.sorts.length c) r ws (.slice Aw ws.length cw) w3.heap.size (.slice Af f.sorts.length cf) (.slice Ag ws.length cg)) => demeritsOf_any f _ r ws _ a b W h.S HN.out h.V)
  have HBI := Lib.hid (fun ln W (h : LX w W f (.slice A f.sorts.length c) r ws (.slice Aw ws.length cw) w3.heap.size (.slice Af f.sorts.length cf) (.slice Ag ws.length cg)) => bestIn_any f _ r ws _ ln W h.S HN.out h.V)
  have HPL := Lib.hid (fun W (h : Below w.heap.size w W) => refPlaces_any f.sorts.length ws _ W (HW.out.below h) HOK.out.wo HOK.out.n)
  have HCI := Lib.hid (fun W (h : Below w.heap.size w W) => copyInts_any other _ W (HO.out.below h) (by rw [HLO.out]; omega))
  have y0 := HLX.out.Y.cell 0
  have y1 := HLX.out.Y.cell 1
  have y2 := HLX.out.Y.cell 2
  have y3 := HLX.out.Y.cell 3
  have y4 := HLX.out.Y.cell 4
  have y5 := HLX.out.Y.cell 5
  have y6 := HLX.out.Y.cell 6
  have y7 := HLX.out.Y.cell 7
  have y8 := HLX.out.Y.cell 8
  have y9 := HLX.out.Y.cell 9
  have y10 := HLX.out.Y.cell 10
  have y11 := HLX.out.Y.cell 11
  have yl := HLX.out.Y.lt
  go_wp2_with fail
  generalize w3.alloc (.cells (xcs f (.slice Af f.sorts.length cf) r (.slice Ag ws.length cg)) 29) = W4 at *
  generalize w3.heap.size = yb at *
  refine (HBE.out _ HLX.out).mono ?_
  rintro e W5 ⟨hb5, hor⟩
  have H5 := Lib.hid (HLX.out.step hb5)
  have hm := HOK.out.m
  have hpos := places_pos ws
  have HTB := Lib.hid (tab_ok HOK.out.ru hm)
  clear HBE HLX hb5 y0 y1 y2 y3 y4 y5 y6 y7 y8 y9 y10 y11 yl
  have y0 := H5.out.Y.cell 0
  have y1 := H5.out.Y.cell 1
  have y2 := H5.out.Y.cell 2
  have y3 := H5.out.Y.cell 3
  have y4 := H5.out.Y.cell 4
  have y5 := H5.out.Y.cell 5
  have y6 := H5.out.Y.cell 6
  have y7 := H5.out.Y.cell 7
  have y8 := H5.out.Y.cell 8
  have y9 := H5.out.Y.cell 9
  have y10 := H5.out.Y.cell 10
  have y11 := H5.out.Y.cell 11
  have yl := H5.out.Y.lt
  have HFW := Lib.hid (HFE.out _ H5.out)
  clear HFE
  rcases hor with ⟨h, -⟩ | ⟨-, hd, vl, rfl, hvl⟩ | ⟨-, hd, bk, vb, vl, rfl, hvb, hvl, hp⟩
  · exact absurd HPE.out h
  · -- there are no right breaks
    have hhop := hop_none_dist HTB.out hd
    have hfw : fwE f r ws = (0, 12) := by
      unfold fwE
      rw [if_neg (fun h => h HPE.out), hhop]
    have hcb : ¬ (cbA f r ws other).2 = 0 := fun h => by
      unfold cbA at h
      rw [if_neg (fun h => h HPE.out)] at h
      by_cases hl : lnErr f r ws other = 0
      · obtain ⟨b, -, hp⟩ := lnErr_path HOK.out hl
        have h1 := dist_le HTB.out hp
        have h2 := (hp.lt HTB.out (by omega)).1
        omega
      · rw [if_pos hl] at h
        exact hl h
    obtain ⟨Al, bl, ol, cl, rfl, -, -, -, -⟩ := hvl.open
    have hcbb := bne_t hcb
    go_wp2_with fail
    refine HFW.out.mono ?_
    rintro e W6 ⟨rfl, hb6⟩
    rw [hfw]
    have H6 := Lib.hid (H5.out.step hb6)
    clear hfw hhop hcb HFW hb6 hvl hd H5 y0 y1 y2 y3 y4 y5 y6 y7 y8 y9 y10 y11 yl
    have y0 := H6.out.Y.cell 0
    have y1 := H6.out.Y.cell 1
    have y2 := H6.out.Y.cell 2
    have y3 := H6.out.Y.cell 3
    have y4 := H6.out.Y.cell 4
    have y5 := H6.out.Y.cell 5
    have y6 := H6.out.Y.cell 6
    have y7 := H6.out.Y.cell 7
    have y8 := H6.out.Y.cell 8
    have y9 := H6.out.Y.cell 9
    have y10 := H6.out.Y.cell 10
    have y11 := H6.out.Y.cell 11
    have yl := H6.out.Y.lt
    go_wp2_with fail
    have HKS : Hid (∀ W, Below W6.heap.size W6 W → (W.cell? ⟨yb, 0, none⟩ = some (.string f.name) ∧ W.cell? ⟨yb, 1, none⟩ = some (.int .i64 f.body) ∧ W.cell? ⟨yb, 2, none⟩ = some (.slice Af f.sorts.length cf) ∧ W.cell? ⟨yb, 3, none⟩ = some (.int .i64 r.measure) ∧ W.cell? ⟨yb, 4, none⟩ = some (.int .i64 r.indent) ∧ W.cell? ⟨yb, 5, none⟩ = some (.int .i64 r.least) ∧ W.cell? ⟨yb, 6, none⟩ = some (.int .i64 r.most) ∧ W.cell? ⟨yb, 7, none⟩ = some (.int .i64 r.gap) ∧ W.cell? ⟨yb, 8, none⟩ = some (.int .i64 r.hyphen) ∧ W.cell? ⟨yb, 9, none⟩ = some (.int .i64 r.single) ∧ W.cell? ⟨yb, 10, none⟩ = some (.int .i64 r.double) ∧ W.cell? ⟨yb, 11, none⟩ = some (.slice Ag ws.length cg))) := (show ∀ W, _ from fun W hW => by
      have h := H6.out.Y.below hW H6.out.Y.lt
      exact ⟨h.cell 0, h.cell 1, h.cell 2, h.cell 3, h.cell 4, h.cell 5, h.cell 6, h.cell 7, h.cell 8, h.cell 9, h.cell 10, h.cell 11⟩)
    have hbd : Below W6.heap.size W6 W6.drew := (Below.refl _ _).drew
    have hS0 := HKS.out _ hbd
    go_region_held3 (fun W => (W.cell? ⟨yb, 0, none⟩ = some (.string f.name) ∧ W.cell? ⟨yb, 1, none⟩ = some (.int .i64 f.body) ∧ W.cell? ⟨yb, 2, none⟩ = some (.slice Af f.sorts.length cf) ∧ W.cell? ⟨yb, 3, none⟩ = some (.int .i64 r.measure) ∧ W.cell? ⟨yb, 4, none⟩ = some (.int .i64 r.indent) ∧ W.cell? ⟨yb, 5, none⟩ = some (.int .i64 r.least) ∧ W.cell? ⟨yb, 6, none⟩ = some (.int .i64 r.most) ∧ W.cell? ⟨yb, 7, none⟩ = some (.int .i64 r.gap) ∧ W.cell? ⟨yb, 8, none⟩ = some (.int .i64 r.hyphen) ∧ W.cell? ⟨yb, 9, none⟩ = some (.int .i64 r.single) ∧ W.cell? ⟨yb, 10, none⟩ = some (.int .i64 r.double) ∧ W.cell? ⟨yb, 11, none⟩ = some (.slice Ag ws.length cg)))
      (first | exact hS0 | exact HKS.out _ hb8 | exact HKS.out _ hb7 | go_keep)
      ((first
        | (go_at_call 11; (with_reducible refine (HCI.out _ (H6.out.B.trans (hbd.mono H6.out.B.size))).mono ?_); rintro e W7 ⟨v7, rfl, hio7, hb7'⟩
           have hb7 : Below W6.heap.size W6 W7 := hbd.trans (hb7'.mono (by exact hbd.size))
           have hiv7 := hio7.iv
           obtain ⟨A7, b7, o7, c7, rfl, -, -, -, -⟩ := hiv7.open
           have H7 := Lib.hid (H6.out.step hb7))
        | (go_at_call 10; (with_reducible refine (HCB.out _ _ _ H7.out hiv7).mono ?_); rintro e W8 ⟨rfl, hb8'⟩
           have hb8 : Below W6.heap.size W6 W8 := hb7.trans (hb8'.mono (by exact hb7.size))
           have H8 := Lib.hid (H6.out.step hb8))))
    have HB8 := Lib.hid hb8
    clear hb8 hb8' hb7 hb7' hio7 hiv7 H7 HKS hbd hS0
    go_wp2_with fail
    go_ret
    exact HP.out _ H8.out.B
  · obtain ⟨k, hhop, hkb⟩ := hop_some_dist HTB.out hp
    have hfw : fwE f r ws = ((k : Int), 0) := by
      unfold fwE
      rw [if_neg (fun h => h HPE.out), hhop]
    have hbl := (hp.lt HTB.out (by omega)).2
    have hlbl := lbs_len (tab f r ws) (places ws).length (places ws).length
    have hil : (ints bk).length = bk.length := by rw [ints, List.length_map]
    have HIL := Lib.hid hil
    have HLL := Lib.hid hlbl
    have HHOP := Lib.hid hhop
    have hML : ML = 1000000000000000 := rfl
    have hcb : Hid ((cbA f r ws other).2 = 0 → (dist (tab f r ws) ((places ws).length - 1) : Int) ≤ (cbA f r ws other).1 ∧ k ≤ lo) := (show _ → _ from fun h => by
      unfold cbA at h ⊢
      rw [if_neg (fun h => h HPE.out)] at h ⊢
      by_cases hl : lnErr f r ws other = 0
      · rw [if_neg (fun h => h hl)]
        obtain ⟨b, hb, hp⟩ := lnErr_path HOK.out hl
        have h1 := dist_le HTB.out hp
        have h2 := dmA_bound HOK.out.ru (lnErr_ok hl).2 other.length (Nat.le_refl _)
        obtain ⟨k', h3, h4⟩ := hop_some_dist HTB.out hp
        rw [HHOP.out] at h3
        injection h3 with h3
        have h5 := HLO.out
        dsimp only
        omega
      · rw [if_pos hl] at h
        exact absurd h hl)
    have HVL := Lib.hid hvl
    have HVB := Lib.hid hvb
    obtain ⟨Al, bl, ol, cl, rfl, -, -, -, -⟩ := hvl.open
    obtain ⟨Ab, bb, ob, cb, rfl, -, -, -, -⟩ := hvb.open
    rw [hlbl] at HVL ⊢
    rw [hil] at HVB ⊢
    have HDB : Hid (∀ i, i < bk.length → gz (ints bk) i = ((bk.getD i 0 : Nat) : Int)) := (show ∀ i, _ from fun i hi => by
      unfold gz ints
      rw [List.getD_eq_getElem?_getD, List.getElem?_map, List.getElem?_eq_getElem hi, List.getD_eq_getElem?_getD, List.getElem?_eq_getElem hi]
      rfl)
    have HDL : Hid (∀ j, j < (places ws).length → gz (lbs (tab f r ws) (places ws).length (places ws).length) j = ((dist (tab f r ws) j : Nat) : Int)) := (show ∀ j, _ from fun j hj => by
      rw [lbs_get _ _ _ _ hj, fwd_dist HTB.out (by omega)])
    have HTD : Hid (∀ i j d, tab f r ws i j = some d → dmE f r ws i j = ((d : Int), 0)) := (show ∀ i j d, _ from fun i j d h => tab_dmE HOK.out HPE.out h)
    have HPA := Lib.hid hp
    have HDD := Lib.hid hd
    clear hvl hvb hhop hlbl hil hp
    generalize hN : (places ws).length = N at *
    have HNN := Lib.hid hN
    clear hN
    generalize hdl : dist (tab f r ws) (N - 1) = dl at *
    have HDLE := Lib.hid hdl
    clear hdl
    go_wp2_with fail
    refine HFW.out.mono ?_
    rintro e W6 ⟨rfl, hb6⟩
    rw [hfw]
    have H6 := Lib.hid (H5.out.step hb6)
    have HVL6 := Lib.hid (HVL.out.below hb6)
    have HVB6 := Lib.hid (HVB.out.below hb6)
    clear hfw HFW hb6 HVL HVB H5 y0 y1 y2 y3 y4 y5 y6 y7 y8 y9 y10 y11 yl
    have y0 := H6.out.Y.cell 0
    have y1 := H6.out.Y.cell 1
    have y2 := H6.out.Y.cell 2
    have y3 := H6.out.Y.cell 3
    have y4 := H6.out.Y.cell 4
    have y5 := H6.out.Y.cell 5
    have y6 := H6.out.Y.cell 6
    have y7 := H6.out.Y.cell 7
    have y8 := H6.out.Y.cell 8
    have y9 := H6.out.Y.cell 9
    have y10 := H6.out.Y.cell 10
    have y11 := H6.out.Y.cell 11
    have yl := H6.out.Y.lt
    go_wp2_with fail
    have HKS : Hid (∀ W, Below W6.heap.size W6 W → (W.cell? ⟨yb, 0, none⟩ = some (.string f.name) ∧ W.cell? ⟨yb, 1, none⟩ = some (.int .i64 f.body) ∧ W.cell? ⟨yb, 2, none⟩ = some (.slice Af f.sorts.length cf) ∧ W.cell? ⟨yb, 3, none⟩ = some (.int .i64 r.measure) ∧ W.cell? ⟨yb, 4, none⟩ = some (.int .i64 r.indent) ∧ W.cell? ⟨yb, 5, none⟩ = some (.int .i64 r.least) ∧ W.cell? ⟨yb, 6, none⟩ = some (.int .i64 r.most) ∧ W.cell? ⟨yb, 7, none⟩ = some (.int .i64 r.gap) ∧ W.cell? ⟨yb, 8, none⟩ = some (.int .i64 r.hyphen) ∧ W.cell? ⟨yb, 9, none⟩ = some (.int .i64 r.single) ∧ W.cell? ⟨yb, 10, none⟩ = some (.int .i64 r.double) ∧ W.cell? ⟨yb, 11, none⟩ = some (.slice Ag ws.length cg))) := (show ∀ W, _ from fun W hW => by
      have h := H6.out.Y.below hW H6.out.Y.lt
      exact ⟨h.cell 0, h.cell 1, h.cell 2, h.cell 3, h.cell 4, h.cell 5, h.cell 6, h.cell 7, h.cell 8, h.cell 9, h.cell 10, h.cell 11⟩)
    have hbd : Below W6.heap.size W6 W6.drew := (Below.refl _ _).drew
    have hS0 := HKS.out _ hbd
    go_region_held3 (fun W => (W.cell? ⟨yb, 0, none⟩ = some (.string f.name) ∧ W.cell? ⟨yb, 1, none⟩ = some (.int .i64 f.body) ∧ W.cell? ⟨yb, 2, none⟩ = some (.slice Af f.sorts.length cf) ∧ W.cell? ⟨yb, 3, none⟩ = some (.int .i64 r.measure) ∧ W.cell? ⟨yb, 4, none⟩ = some (.int .i64 r.indent) ∧ W.cell? ⟨yb, 5, none⟩ = some (.int .i64 r.least) ∧ W.cell? ⟨yb, 6, none⟩ = some (.int .i64 r.most) ∧ W.cell? ⟨yb, 7, none⟩ = some (.int .i64 r.gap) ∧ W.cell? ⟨yb, 8, none⟩ = some (.int .i64 r.hyphen) ∧ W.cell? ⟨yb, 9, none⟩ = some (.int .i64 r.single) ∧ W.cell? ⟨yb, 10, none⟩ = some (.int .i64 r.double) ∧ W.cell? ⟨yb, 11, none⟩ = some (.slice Ag ws.length cg)))
      (first | exact hS0 | exact HKS.out _ hb8 | exact HKS.out _ hb7 | go_keep)
      ((first
        | (go_at_call 11; (with_reducible refine (HCI.out _ (H6.out.B.trans (hbd.mono H6.out.B.size))).mono ?_); rintro e W7 ⟨v7, rfl, hio7, hb7'⟩
           have hb7 : Below W6.heap.size W6 W7 := hbd.trans (hb7'.mono (by exact hbd.size))
           have hiv7 := hio7.iv
           obtain ⟨A7, b7, o7, c7, rfl, -, -, -, -⟩ := hiv7.open
           have H7 := Lib.hid (H6.out.step hb7))
        | (go_at_call 10; (with_reducible refine (HCB.out _ _ _ H7.out hiv7).mono ?_); rintro e W8 ⟨rfl, hb8'⟩
           have hb8 : Below W6.heap.size W6 W8 := hb7.trans (hb8'.mono (by exact hb7.size))
           have H8 := Lib.hid (H6.out.step hb8))))
    have HB8 := Lib.hid hb8
    clear hb8 hb8' hb7 hb7' hio7 hiv7 H7 HKS hbd hS0
    have HVL8 := Lib.hid (HVL6.out.below HB8.out)
    have HVB8 := Lib.hid (HVB6.out.below HB8.out)
    have x11 := H8.out.X.cell 11
    have xl := H8.out.X.lt
    have HPC := Lib.hid (HPL.out _ H8.out.B)
    clear HVL6 HVB6 HB8 HCB HCI HPL H6 y0 y1 y2 y3 y4 y5 y6 y7 y8 y9 y10 y11 yl
    obtain ⟨m8, hm8⟩ : ∃ x, (cbA f r ws other).1 = x := ⟨_, rfl⟩
    obtain ⟨g8, hg8⟩ : ∃ x, (cbA f r ws other).2 = x := ⟨_, rfl⟩
    rw [hm8, hg8] at hcb ⊢
    clear hm8 hg8
    go_wp2_with fail
    refine HPC.out.mono ?_
    rintro e W9 ⟨vp, rfl, hpv, hb9, -⟩
    obtain ⟨Ap, cp, rfl, -, -⟩ := hpv.shape
    rw [HNN.out]
    have H9 := Lib.hid (H8.out.step hb9)
    have HVL9 := Lib.hid (HVL8.out.below hb9)
    have HVB9 := Lib.hid (HVB8.out.below hb9)
    clear hpv hb9 HPC HVL8 HVB8 H8 x11 xl
    have hbz : ¬ N < bk.length := by omega
    have hkz : ¬ bk.length < k := by omega
    have hgg : (g8 ≠ 0) ∨ (g8 = 0 ∧ ¬ m8 < (dl : Int) ∧ ¬ (lo : Int) < (k : Int)) := by
      by_cases h : g8 = 0
      · have := hcb.out h
        exact .inr ⟨h, by omega, by omega⟩
      · exact .inl h
    clear hcb
    rcases hgg with hg | ⟨rfl, hg1, hg2⟩
    rotate_left
    all_goals
      (try have hgb := beq_false_of_ne hg)
      (try clear hg)
      (try have hg3 : ¬ lo < k := by omega)
      go_wp2_with fail
      go_loopg [17, 15, 16] bk.length (fun gg s17 s15 s16 wr => ∃ i fr sm : Nat, i ≤ bk.length ∧ bk.length - i ≤ gg ∧ s17 = .int .i64 (i : Int) ∧ s15 = .int .i64 (sm : Int) ∧ s16 = .int .i64 (fr : Int) ∧ Hid (Path (tab f r ws) 0 (bk.take i) fr sm) ∧ Hid (LX w wr f (.slice A f.sorts.length c) r ws (.slice Aw ws.length cw) yb (.slice Af f.sorts.length cf) (.slice Ag ws.length cg)) ∧ Hid (Below W9.heap.size W9 wr))
      case atStart => exact ⟨0, 0, 0, by omega, by omega, rfl, rfl, rfl, Path.nil _ 0, H9.out, Below.refl _ _⟩
      case round =>
        obtain ⟨i, fr, sm, hi, hgi, rfl, rfl, rfl, HPI, HLI, HBI9⟩ := hrel
        by_cases hlt : i < bk.length
        · have hltz : (i : Int) < (bk.length : Int) := by omega
          obtain ⟨d, hd1, hp1⟩ := HPA.out.at hlt HPI.out
          have hup := HTB.out.up hd1
          have hsl := (hp1.lt HTB.out hup.2.1).1
          have hdl1 := dist_le HTB.out hp1
          have hdmx : DMX = 400200000 := rfl
          have hgb1 := HDB.out i hlt
          have hge : bk.getD i 0 = bk[i] := by rw [List.getD_eq_getElem?_getD, List.getElem?_eq_getElem hlt]; rfl
          rw [hge] at hgb1
          obtain ⟨b, off, rfl, hbw, hbc⟩ := (HVB9.out.below HBI9.out).atN (j := i) (by rw [HIL.out]; exact hlt)
          rw [hgb1] at hbc
          obtain ⟨bi, hbi⟩ : ∃ x, bk[i] = x := ⟨_, rfl⟩
          rw [hbi] at hd1 hp1 hup hdl1 hbc
          have HP1 := Lib.hid hp1
          have hde := HTD.out _ _ _ hd1
          obtain ⟨b2, o2, rfl, hbw2, hbc2⟩ := (HVL9.out.below HBI9.out).atN (j := bi) (by rw [HLL.out]; exact hup.2.1)
          rw [HDL.out bi hup.2.1] at hbc2
          clear hgb1 hge hbi hp1 hd1
          obtain ⟨lbi, hlb⟩ : ∃ x, dist (tab f r ws) bi = x := ⟨_, rfl⟩
          rw [hlb] at hbc2 hdl1
          clear hlb
          have hwin : win (bi : Int) ((fr : Int) + 1) ((N : Int) - 1) = true := win_t.2 (by omega)
          have hwin2 : win (d : Int) 0 1000000000000000 = true := win_t.2 (by omega)
          have hbiz : (bi : Int) < (N : Int) := by omega
          have hsz : ¬ (sm : Int) + (d : Int) < (lbi : Int) := by omega
          have HKS : Hid (∀ W, Below wr.heap.size wr W → (W.cell? ⟨yb, 0, none⟩ = some (.string f.name) ∧ W.cell? ⟨yb, 1, none⟩ = some (.int .i64 f.body) ∧ W.cell? ⟨yb, 2, none⟩ = some (.slice Af f.sorts.length cf) ∧ W.cell? ⟨yb, 3, none⟩ = some (.int .i64 r.measure) ∧ W.cell? ⟨yb, 4, none⟩ = some (.int .i64 r.indent) ∧ W.cell? ⟨yb, 5, none⟩ = some (.int .i64 r.least) ∧ W.cell? ⟨yb, 6, none⟩ = some (.int .i64 r.most) ∧ W.cell? ⟨yb, 7, none⟩ = some (.int .i64 r.gap) ∧ W.cell? ⟨yb, 8, none⟩ = some (.int .i64 r.hyphen) ∧ W.cell? ⟨yb, 9, none⟩ = some (.int .i64 r.single) ∧ W.cell? ⟨yb, 10, none⟩ = some (.int .i64 r.double) ∧ W.cell? ⟨yb, 11, none⟩ = some (.slice Ag ws.length cg) ∧ W.cell? ⟨b, off + i, none⟩ = some (.int .i64 (bi : Int)))) := (show ∀ W, _ from fun W hW => by
            have h := HLI.out.Y.below hW HLI.out.Y.lt
            exact ⟨h.cell 0, h.cell 1, h.cell 2, h.cell 3, h.cell 4, h.cell 5, h.cell 6, h.cell 7, h.cell 8, h.cell 9, h.cell 10, h.cell 11, (hW.cell (p := ⟨b, off + i, none⟩) hbw).trans hbc⟩)
          have hbd : Below wr.heap.size wr wr.drew := (Below.refl _ _).drew
          have hS0 := HKS.out _ hbd
          have HDC := Lib.hid (HDM.out (fr : Int) (bi : Int) _ (HLI.out.step hbd))
          rw [hde] at HDC
          have HKB : Hid (∀ W, Below wr.heap.size wr W → W.cell? ⟨b, off + i, none⟩ = some (.int .i64 (bi : Int)) ∧ b < W.heap.size ∧ W.cell? ⟨b2, o2 + bi, none⟩ = some (.int .i64 (lbi : Int)) ∧ b2 < W.heap.size) := (show ∀ W, _ from fun W hW => ⟨(hW.cell (p := ⟨b, off + i, none⟩) hbw).trans hbc, Nat.lt_of_lt_of_le hbw hW.size, (hW.cell (p := ⟨b2, o2 + bi, none⟩) hbw2).trans hbc2, Nat.lt_of_lt_of_le hbw2 hW.size⟩)
          clear hde hbc2 hbw2
          go_wp2_with (first
            | (go_at_call 13; (with_reducible refine (within13_any _ _ _ _).mono ?_); rintro e w' ⟨rfl, hw'⟩; subst hw'; rw [hwin]))
          go_region_held3 (fun W => (W.cell? ⟨yb, 0, none⟩ = some (.string f.name) ∧ W.cell? ⟨yb, 1, none⟩ = some (.int .i64 f.body) ∧ W.cell? ⟨yb, 2, none⟩ = some (.slice Af f.sorts.length cf) ∧ W.cell? ⟨yb, 3, none⟩ = some (.int .i64 r.measure) ∧ W.cell? ⟨yb, 4, none⟩ = some (.int .i64 r.indent) ∧ W.cell? ⟨yb, 5, none⟩ = some (.int .i64 r.least) ∧ W.cell? ⟨yb, 6, none⟩ = some (.int .i64 r.most) ∧ W.cell? ⟨yb, 7, none⟩ = some (.int .i64 r.gap) ∧ W.cell? ⟨yb, 8, none⟩ = some (.int .i64 r.hyphen) ∧ W.cell? ⟨yb, 9, none⟩ = some (.int .i64 r.single) ∧ W.cell? ⟨yb, 10, none⟩ = some (.int .i64 r.double) ∧ W.cell? ⟨yb, 11, none⟩ = some (.slice Ag ws.length cg) ∧ W.cell? ⟨b, off + i, none⟩ = some (.int .i64 (bi : Int))))
            (first | exact hS0 | exact HKS.out _ hb8 | go_keep)
            ((go_at_call 14; (with_reducible refine HDC.out.mono ?_); rintro e W8 ⟨rfl, hb8'⟩
              have hb8 : Below wr.heap.size wr W8 := hbd.trans (hb8'.mono (by exact hbd.size))))
          obtain ⟨z1, z2, z3, z4⟩ := HKB.out _ hb8
          have HLI8 := Lib.hid (HLI.out.step hb8)
          have HBI8 := Lib.hid (HBI9.out.trans (hb8.mono HBI9.out.size))
          clear hS0 hbd hb8' hb8 HKS HDC HKB hbc hbw
          go_wp2_with (first
            | (go_at_call 13; (with_reducible refine (within13_any _ _ _ _).mono ?_); rintro e w' ⟨rfl, hw'⟩; subst hw'; rw [hwin2]))
          go_quiet (fail)
          have hbq := below_drewN W8 nq
          have HLI9 := Lib.hid (HLI8.out.step hbq)
          have HBI10 := Lib.hid (HBI8.out.trans (hbq.mono HBI8.out.size))
          clear hbq
          go_wp2_with fail
          go_roundg (bk.length - (i + 1))
          case measure => omega
          case rel => exact ⟨i + 1, bi, sm + d, by omega, by omega, by go_num, by go_num, rfl, HP1.out, HLI9.out, HBI10.out⟩
        · have hltz : ¬ (i : Int) < (bk.length : Int) := by omega
          have hie : bk.take i = bk := List.take_of_length_le (by omega)
          have hpi := HPI.out
          rw [hie] at hpi
          have hsm := (hpi.same HPA.out).2
          have HSM2 := Lib.hid hsm
          clear hlt hie hpi hsm HPI
          go_wp2_with fail
          clear HVL9 HVB9 HDM HTD HDB HDL
          have HMLE := Lib.hid (mnL_end HTB.out (by rw [HDLE.out]; exact HDD.out) (by rw [HDLE.out]; exact HPA.out))
          rw [HDLE.out] at HMLE
          have HM0 : Hid (mnL (tab f r ws) N 0 = 1000000000000000) := rfl
          have HMS : Hid (∀ q, mnL (tab f r ws) N (q + 1) = min (mnL (tab f r ws) N q) (inD (tab f r ws) N q (N - 1)).1) := (show ∀ q, _ from fun q => rfl)
          have HMB := Lib.hid (fun q => mnL_le (tab f r ws) N q)
          have HKL : Hid (∀ q, (inD (tab f r ws) N q (N - 1)).1 < ML → k ≤ q) := (show ∀ q, _ from fun q hq => by
            obtain ⟨b, hb, hl⟩ := inD_path HTB.out q (N - 1) hq
            obtain ⟨k', h3, h4⟩ := hop_some_dist HTB.out hb
            rw [HHOP.out] at h3
            injection h3 with h3
            omega)
          obtain ⟨wA, hwA⟩ : ∃ x, x = wr := ⟨_, rfl⟩
          subst hwA
          go_loopg [21, 20] (N + 1) (fun gg s21 s20 wr => ∃ q : Nat, q ≤ N + 1 ∧ N + 1 - q ≤ gg ∧ s21 = .int .i64 (q : Int) ∧ s20 = .int .i64 ((mnL (tab f r ws) N q : Nat) : Int) ∧ Hid (LX w wr f (.slice A f.sorts.length c) r ws (.slice Aw ws.length cw) yb (.slice Af f.sorts.length cf) (.slice Ag ws.length cg)))
          case atStart => exact ⟨0, by omega, by omega, rfl, rfl, HLI.out⟩
          case round =>
            obtain ⟨q, hq, hgq, rfl, rfl, HLQ⟩ := hrel
            have hmb := HMB.out q
            by_cases hlt : q < N + 1
            · have hltz : (q : Int) < (N : Int) + 1 := by omega
              have hms := HMS.out q
              have hwq : win (q : Int) 0 300 = true := win_t.2 (by omega)
              have y0 := HLQ.out.Y.cell 0
              have y1 := HLQ.out.Y.cell 1
              have y2 := HLQ.out.Y.cell 2
              have y3 := HLQ.out.Y.cell 3
              have y4 := HLQ.out.Y.cell 4
              have y5 := HLQ.out.Y.cell 5
              have y6 := HLQ.out.Y.cell 6
              have y7 := HLQ.out.Y.cell 7
              have y8 := HLQ.out.Y.cell 8
              have y9 := HLQ.out.Y.cell 9
              have y10 := HLQ.out.Y.cell 10
              have y11 := HLQ.out.Y.cell 11
              have yl := HLQ.out.Y.lt
              have HBC := Lib.hid (HBI.out (q : Int) _ HLQ.out)
              obtain ⟨mq, hmq⟩ : ∃ x, mnL (tab f r ws) N q = x := ⟨_, rfl⟩
              have HMQ := Lib.hid hmq
              rw [hmq] at hms hmb ⊢
              clear hmq
              go_wp2_with fail
              refine HBC.out.mono ?_
              rintro e W7 ⟨hb7, ⟨h, -⟩ | ⟨-, h, -⟩ | ⟨-, -, hin, rfl⟩ | ⟨-, -, hin, b, vb, rfl, -, -, -⟩⟩
              · exact absurd HPE.out h
              · rw [hwq] at h; cases h
              · rw [Int.toNat_natCast, HNN.out] at hin
                have HLR := Lib.hid (HLQ.out.step hb7)
                rw [hin, Nat.min_eq_left hmb] at hms
                have HMS2 := Lib.hid hms
                clear hb7 hin hms HBC
                go_wp2_with fail
                go_roundg (N + 1 - (q + 1))
                case measure => omega
                case rel => exact ⟨q + 1, by omega, by omega, by go_num, by rw [HMS2.out], HLR.out⟩
              · rw [Int.toNat_natCast, HNN.out] at hin ⊢
                have hkq := HKL.out q hin
                have hkz : ¬ (q : Int) < (k : Int) := by omega
                have HLR := Lib.hid (HLQ.out.step hb7)
                obtain ⟨dq, hdq⟩ : ∃ x, (inD (tab f r ws) N q (N - 1)).1 = x := ⟨_, rfl⟩
                rw [hdq] at hin hms ⊢
                have HMS2 := Lib.hid hms
                clear hb7 hms HBC hdq
                go_wp2_with fail
                go_roundg (N + 1 - (q + 1))
                case measure => omega
                case rel => exact ⟨q + 1, by omega, by omega, by go_num, by rw [HMS2.out]; exact congrArg (Value.int .i64) (by omega), HLR.out⟩
            · have hltz : ¬ (q : Int) < (N : Int) + 1 := by omega
              have hqe : q = N + 1 := by omega
              have hmq : mnL (tab f r ws) N q = dl := by rw [hqe, HMLE.out]
              have hsm : sm = dl := HSM2.out
              rw [hmq, hsm]
              clear hlt hqe hmq hmb HMLE HM0 HMS HMB
              go_wp2_with fail
              go_ret
              exact HP.out _ HLQ.out.B
end Go.Proofs.Ytefjhhgfkdkfaaa
