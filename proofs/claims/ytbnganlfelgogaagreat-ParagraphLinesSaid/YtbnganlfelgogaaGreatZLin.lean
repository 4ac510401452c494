/- The law ParagraphLines returns true. -/
import Derived.Test.YtbnganlfelgogaaGreatZAwk
import Derived.Test.YtbnganlfelgogaaGreatZLax
import Derived.Test.YtbnganlfelgogaaGreatZRof
import Derived.Test.YtbnganlfelgogaaGreatZRfo
set_option linter.unusedSimpArgs false
set_option linter.unusedVariables false
namespace Go.Proofs.YtbnganlfelgogaaGreat
open Go.RowKit
structure LY (w W : World) (f : Fnt) (v : Value) (r : Rls) (ws : List PWord) (vw : Value) (yb : Nat) (vf vg : Value) : Prop where
 B : Below w.heap.size w W
 X : Blk W w.heap.size 29 (xcs f v r vw)
 Y : Blk W yb 29 (xcs f vf r vg)
 y : w.heap.size < yb
 S : SoV W f.sorts vf
 V : WoV W ws vg
theorem LY.step {w W W' : World} {f : Fnt} {v : Value} {r : Rls} {ws : List PWord} {vw : Value} {yb : Nat} {vf vg : Value} (h : LY w W f v r ws vw yb vf vg) (hb : Below W.heap.size W W') : LY w W' f v r ws vw yb vf vg :=
 ⟨h.B.trans (hb.mono h.B.size), h.X.below hb h.X.lt, h.Y.below hb h.Y.lt, h.y, h.S.below hb, h.V.below hb⟩
def TruePost (w : World) (e : Ending) (w' : World) : Prop := e = .returned (.bool true) ∧ Below w.heap.size w w'
structure L2 (w W : World) (f : Fnt) (v : Value) (r : Rls) (ws : List PWord) (vw : Value) (a b : Int) : Prop where
 B : Below w.heap.size w W
 X : Blk W w.heap.size 29 (xcs f v r vw)
 T : Blk W (w.heap.size + 1) 70 #[.int .i64 a, .int .i64 b]
theorem L2.step {w W W' : World} {f : Fnt} {v : Value} {r : Rls} {ws : List PWord} {vw : Value} {a b : Int} (h : L2 w W f v r ws vw a b) (hb : Below W.heap.size W W') : L2 w W' f v r ws vw a b :=
 ⟨h.B.trans (hb.mono h.B.size), h.X.below hb h.X.lt, h.T.below hb h.T.lt⟩
theorem L2.start (w : World) (f : Fnt) (v : Value) (r : Rls) (ws : List PWord) (vw : Value) (a b : Int) : L2 w ((w.alloc (.cells (xcs f v r vw) 29)).alloc (.cells #[.int .i64 a, .int .i64 b] 70)) f v r ws vw a b := by
 have b1 := below_new w (.cells (xcs f v r vw) 29)
 have b2 := below_new (w.alloc (.cells (xcs f v r vw) 29)) (.cells #[.int .i64 a, .int .i64 b] 70)
 have k2 := Blk.new (w.alloc (.cells (xcs f v r vw) 29)) 70 #[.int .i64 a, .int .i64 b]
 rw [World.size_alloc] at k2
 exact ⟨b1.trans (b2.mono (by simp)), (Blk.new w 29 (xcs f v r vw)).below b2 (by simp), k2⟩
structure LT2 (w W : World) (f : Fnt) (v : Value) (r : Rls) (ws : List PWord) (vw : Value) (yb : Nat) (vf vg : Value) (a b : Int) : Prop where
 L : LY w W f v r ws vw yb vf vg
 T : Blk W (w.heap.size + 1) 70 #[.int .i64 a, .int .i64 b]
theorem LT2.step {w W W' : World} {f : Fnt} {v : Value} {r : Rls} {ws : List PWord} {vw : Value} {yb : Nat} {vf vg : Value} {a b : Int} (h : LT2 w W f v r ws vw yb vf vg a b) (hb : Below W.heap.size W W') : LT2 w W' f v r ws vw yb vf vg a b :=
 ⟨h.L.step hb, h.T.below hb h.T.lt⟩
theorem la_at {f : Fnt} {r : Rls} {ws : List PWord} {a b : Int} (h : paErr f r ws = 0) : laE f r ws a b = atE ws a b := by
 have hp := places_pos ws
 have e : (((places ws).length - 1 : Nat) : Int) = ((places ws).length : Int) - 1 := by omega
 unfold laE atE
 rw [if_neg (fun h2 => h2 h), e]
set_option maxRecDepth 100000 in
set_option maxHeartbeats 8000000 in
theorem lines11_any (f : Fnt) (v : Value) (r : Rls) (ws : List PWord) (vw : Value) (a b : Int) (w : World) (hv : SoV w f.sorts v) (hn : f.name.size ≤ 9223372036854775807) (hw : WoV w ws vw) :
 Calls Tryz.prog 11 #[.agg (xcs f v r vw), .agg #[.int .i64 a, .int .i64 b]] w (TruePost w) := by
 have HL0 := Lib.hid (L2.start w f v r ws vw a b)
 have HV := Lib.hid hv
 have HW := Lib.hid hw
 have HN := Lib.hid hn
 obtain ⟨A, c, rfl⟩ := hv.shape
 obtain ⟨Aw, cw, rfl, -⟩ := hw.shape
 have HP : Hid (∀ W, Below w.heap.size w W → TruePost w (.returned (.bool true)) W) := (show ∀ W, _ from fun W hb => ⟨rfl, hb⟩)
 clear hv hw hn
 go_enter Tryz.func11, Tryz.ntmps11
 go_upto_region 1 with fail
 generalize (w.alloc (.cells (xcs f (.slice A f.sorts.length c) r (.slice Aw ws.length cw)) 29)).alloc (.cells #[.int .i64 a, .int .i64 b] 70) = W0 at *
 go_wp2_with fail
 refine (awake4_any _).mono ?_
 rintro e w1 ⟨rfl, hb1⟩
 have HL1 := Lib.hid (HL0.out.step hb1)
 clear hb1 HL0
 have c0 := HL1.out.X.cell 0
 have c1 := HL1.out.X.cell 1
 have c2 := HL1.out.X.cell 2
 have c3 := HL1.out.X.cell 3
 have c4 := HL1.out.X.cell 4
 have c5 := HL1.out.X.cell 5
 have c6 := HL1.out.X.cell 6
 have c7 := HL1.out.X.cell 7
 have c8 := HL1.out.X.cell 8
 have c9 := HL1.out.X.cell 9
 have c10 := HL1.out.X.cell 10
 have c11 := HL1.out.X.cell 11
 have cl := HL1.out.X.lt
 have t0 := HL1.out.T.cell 0
 have t1 := HL1.out.T.cell 1
 have tl := HL1.out.T.lt
 have HWH := Lib.hid (light_any f _ r ws _ w1 (HV.out.below HL1.out.B) HN.out (HW.out.below HL1.out.B))
 go_wp2_with fail
 refine HWH.out.mono ?_
 rintro e w2 ⟨b0, rfl, hb, hb2⟩
 have HL2 := Lib.hid (HL1.out.step hb2)
 clear hb2 HWH HL1 c0 c1 c2 c3 c4 c5 c6 c7 c8 c9 c10 c11 cl t0 t1 tl
 cases b0 with
 | false =>
  clear hb
  go_wp2_with fail
  go_ret
  exact HP.out _ HL2.out.B
 | true =>
 have HSM := Lib.hid (hb rfl)
 clear hb
 have c0 := HL2.out.X.cell 0
 have c1 := HL2.out.X.cell 1
 have c2 := HL2.out.X.cell 2
 have c3 := HL2.out.X.cell 3
 have c4 := HL2.out.X.cell 4
 have c5 := HL2.out.X.cell 5
 have c6 := HL2.out.X.cell 6
 have c7 := HL2.out.X.cell 7
 have c8 := HL2.out.X.cell 8
 have c9 := HL2.out.X.cell 9
 have c10 := HL2.out.X.cell 10
 have c11 := HL2.out.X.cell 11
 have cl := HL2.out.X.lt
 have t0 := HL2.out.T.cell 0
 have t1 := HL2.out.T.cell 1
 have tl := HL2.out.T.lt
 have HOWN := Lib.hid (own_any f _ r ws _ w2 (HV.out.below HL2.out.B) (HW.out.below HL2.out.B) HSM.out)
 go_wp2_with fail
 refine HOWN.out.mono ?_
 rintro e w3 ⟨vf, vg, rfl, hsf, hwg, hb3⟩
 obtain ⟨Af, cf, rfl⟩ := hsf.shape
 obtain ⟨Ag, cg, rfl, -⟩ := hwg.shape
 have HL : Hid (LT2 w (w3.alloc (.cells (xcs f (.slice Af f.sorts.length cf) r (.slice Ag ws.length cg)) 29)) f (.slice A f.sorts.length c) r ws (.slice Aw ws.length cw) w3.heap.size (.slice Af f.sorts.length cf) (.slice Ag ws.length cg) a b) := by
  have hbn := below_new w3 (.cells (xcs f (.slice Af f.sorts.length cf) r (.slice Ag ws.length cg)) 29)
  have h2 := HL2.out.step hb3
  have h3 := h2.step hbn
  exact ⟨⟨h3.B, h3.X, Blk.new w3 29 _, h2.X.lt, hsf.below hbn, hwg.below hbn⟩, h3.T⟩
 clear hsf hwg hb3 HOWN HL2 c0 c1 c2 c3 c4 c5 c6 c7 c8 c9 c10 c11 cl t0 t1 tl
 go_upto_region 6 with fail
 generalize w3.alloc (.cells (xcs f (.slice Af f.sorts.length cf) r (.slice Ag ws.length cg)) 29) = w4 at *
 generalize w3.heap.size = yb at *
 have c0 := HL.out.L.Y.cell 0
 have c1 := HL.out.L.Y.cell 1
 have c2 := HL.out.L.Y.cell 2
 have c3 := HL.out.L.Y.cell 3
 have c4 := HL.out.L.Y.cell 4
 have c5 := HL.out.L.Y.cell 5
 have c6 := HL.out.L.Y.cell 6
 have c7 := HL.out.L.Y.cell 7
 have c8 := HL.out.L.Y.cell 8
 have c9 := HL.out.L.Y.cell 9
 have c10 := HL.out.L.Y.cell 10
 have c11 := HL.out.L.Y.cell 11
 have cl := HL.out.L.Y.lt
 have t0 := HL.out.T.cell 0
 have t1 := HL.out.T.cell 1
 have tl := HL.out.T.lt
 have HPI := Lib.hid (pieces_any f _ r ws _ a b w4 HL.out.L.S HN.out HL.out.L.V)
 go_wp2_with fail
 refine HPI.out.mono ?_
 rintro e w5 ⟨hb5, hor⟩
 have HL5 := Lib.hid (HL.out.step hb5)
 clear hb5 HPI HL c0 c1 c2 c3 c4 c5 c6 c7 c8 c9 c10 c11 cl t0 t1 tl
 have HDM := Lib.hid (demeritsOf_any f _ r ws _ a b w5 HL5.out.L.S HN.out HL5.out.L.V)
 have HPA := Lib.hid (fun W (h : Below w.heap.size w W) => refErr04_any f _ r ws _ W (HV.out.below h) HN.out (HW.out.below h))
 have HLE : Hid (laE f r ws a b = if paErr f r ws ≠ 0 then paErr f r ws else if win a 0 (((places ws).length - 1 : Nat) : Int) = false ∨ win b 0 (((places ws).length - 1 : Nat) : Int) = false then 6 else if b ≤ a then 9 else 0) := rfl
 have HLA : Hid (paErr f r ws = 0 → laE f r ws a b = atE ws a b) := (show _ → _ from la_at)
 have HDE : Hid (dmE f r ws a b = if laE f r ws a b ≠ 0 then (0, laE f r ws a b) else if allowB r (lineF f r ws a.toNat b.toNat) = false then (0, 26) else (demF f r (lineF f r ws a.toNat b.toNat) (divB ws a.toNat) (divB ws b.toNat), 0)) := rfl
 rcases hor with ⟨h0, rfl⟩ | ⟨h0, hok, h2, h3, h4, vps, rfl, hlv⟩
 · -- an error
   have HDF : Hid (dmE f r ws a b = (0, laE f r ws a b)) := by show _ = _; rw [HDE.out, if_pos h0]
   have HL0 := Lib.hid h0
   clear h0 HDE
   have c0 := HL5.out.L.Y.cell 0
   have c1 := HL5.out.L.Y.cell 1
   have c2 := HL5.out.L.Y.cell 2
   have c3 := HL5.out.L.Y.cell 3
   have c4 := HL5.out.L.Y.cell 4
   have c5 := HL5.out.L.Y.cell 5
   have c6 := HL5.out.L.Y.cell 6
   have c7 := HL5.out.L.Y.cell 7
   have c8 := HL5.out.L.Y.cell 8
   have c9 := HL5.out.L.Y.cell 9
   have c10 := HL5.out.L.Y.cell 10
   have c11 := HL5.out.L.Y.cell 11
   have cl := HL5.out.L.Y.lt
   have t0 := HL5.out.T.cell 0
   have t1 := HL5.out.T.cell 1
   have tl := HL5.out.T.lt
   go_wp2_with fail
   refine HDM.out.mono ?_
   rw [HDF.out]
   rintro e w6 ⟨rfl, hb6⟩
   have HL6 := Lib.hid (HL5.out.step hb6)
   clear hb6 HDM HL5 HDF c0 c1 c2 c3 c4 c5 c6 c7 c8 c9 c10 c11 cl t0 t1 tl
   have c0 := HL6.out.L.X.cell 0
   have c1 := HL6.out.L.X.cell 1
   have c2 := HL6.out.L.X.cell 2
   have c3 := HL6.out.L.X.cell 3
   have c4 := HL6.out.L.X.cell 4
   have c5 := HL6.out.L.X.cell 5
   have c6 := HL6.out.L.X.cell 6
   have c7 := HL6.out.L.X.cell 7
   have c8 := HL6.out.L.X.cell 8
   have c9 := HL6.out.L.X.cell 9
   have c10 := HL6.out.L.X.cell 10
   have c11 := HL6.out.L.X.cell 11
   have cl := HL6.out.L.X.lt
   have t0 := HL6.out.T.cell 0
   have t1 := HL6.out.T.cell 1
   have tl := HL6.out.T.lt
   go_wp2_with fail
   refine (HPA.out w6 HL6.out.L.B).mono ?_
   rintro e w7 ⟨rfl, hb7⟩
   have HL7 := Lib.hid (HL6.out.step hb7)
   clear hb7 HL6 c0 c1 c2 c3 c4 c5 c6 c7 c8 c9 c10 c11 cl t0 t1 tl
   obtain ⟨pe, hpe⟩ : ∃ x, paErr f r ws = x := ⟨_, rfl⟩
   rw [hpe]
   by_cases hp0 : pe = 0
   · subst hp0
     have HOK := Lib.hid (paErr_ok hpe)
     have HAT := Lib.hid (refAt_any f.sorts.length ws _ a b w7 (HW.out.below HL7.out.L.B) HOK.out.wo HOK.out.n HOK.out.m)
     rw [← HLA.out hpe] at HAT
     clear hpe HLE HLA
     obtain ⟨le, hle⟩ : ∃ x, laE f r ws a b = x := ⟨_, rfl⟩
     rw [hle] at HAT HL0 ⊢
     have hl0 := HL0.out
     have hlb : (le != 0) = true := bne_t hl0
     clear hle hl0
     have c0 := HL7.out.L.X.cell 0
     have c1 := HL7.out.L.X.cell 1
     have c2 := HL7.out.L.X.cell 2
     have c3 := HL7.out.L.X.cell 3
     have c4 := HL7.out.L.X.cell 4
     have c5 := HL7.out.L.X.cell 5
     have c6 := HL7.out.L.X.cell 6
     have c7 := HL7.out.L.X.cell 7
     have c8 := HL7.out.L.X.cell 8
     have c9 := HL7.out.L.X.cell 9
     have c10 := HL7.out.L.X.cell 10
     have c11 := HL7.out.L.X.cell 11
     have cl := HL7.out.L.X.lt
     have t0 := HL7.out.T.cell 0
     have t1 := HL7.out.T.cell 1
     have tl := HL7.out.T.lt
     go_wp2_with fail
     refine HAT.out.mono ?_
     rintro e w8 ⟨rfl, hb8⟩
     have HL8 := Lib.hid (HL7.out.step hb8)
     clear hb8 HL7 HAT c0 c1 c2 c3 c4 c5 c6 c7 c8 c9 c10 c11 cl t0 t1 tl
     go_wp2_with fail
     go_ret
     exact HP.out _ HL8.out.L.B
   · have hpb : (pe == 0) = false := by simp [hp0]
     have hpc : (pe != 0) = true := bne_t hp0
     have hle : laE f r ws a b = pe := by rw [HLE.out, if_pos (by rw [hpe]; exact hp0), hpe]
     rw [hle]
     clear hle hp0 hpe HLE HLA
     go_wp2_with fail
     go_ret
     exact HP.out _ HL7.out.L.B
 · -- a line
   have HOK := Lib.hid hok
   obtain ⟨i, rfl⟩ : ∃ i : Nat, a = (i : Int) := ⟨a.toNat, by omega⟩
   obtain ⟨j, rfl⟩ : ∃ j : Nat, b = (j : Int) := ⟨b.toNat, by omega⟩
   rw [Int.toNat_natCast, Int.toNat_natCast] at HDE hlv
   have hij : i < j := by omega
   have hjn : j < (places ws).length := by omega
   have hpe : paErr f r ws = 0 := by
    by_cases hp : paErr f r ws = 0
    · exact hp
    · exfalso; rw [HLE.out, if_pos hp] at h0; exact hp h0
   have hat := HLA.out hpe
   rw [h0] at hat
   have HPE := Lib.hid hpe
   have HAT0 := Lib.hid hat
   rw [if_neg (fun h => h h0)] at HDE
   have HLO := Lib.hid (line_ok hok hij hjn)
   have HRB : Hid (-2000000000 ≤ (lineF f r ws i j).room ∧ (lineF f r ws i j).room ≤ 2000000000) := line_room hok HLO.out
   have HGG : Hid (0 ≤ (lineF f r ws i j).g ∧ (lineF f r ws i j).g ≤ 1000) := by
    show _ ∧ _
    have h1 := HLO.out.pos
    have h2 := HLO.out.few
    have h3 : (lineF f r ws i j).g = ((lineF f r ws i j).ps.length : Int) - 1 := rfl
    omega
   have HAA : Hid (alR r (lineF f r ws i j).g (lineF f r ws i j).room (lineF f r ws i j).ends (fitsB (lineF f r ws i j)) = allowB r (lineF f r ws i j)) := allow_al HLO.out.pos
   obtain ⟨Ap, cp, rfl, -, -⟩ := hlv.shape
   have HLV := Lib.hid hlv
   have HRL := Lib.hid (fun W (h : Below w.heap.size w W) => refLineAt_any f.sorts.length r ws _ i j W (HW.out.below h) HOK.out.wo HOK.out.n HOK.out.m hij hjn)
   have HPS : Hid (piecesF ws r.hyphen (gpl (places ws) i) (gpl (places ws) j) = (lineF f r ws i j).ps) := rfl
   rw [HPS.out] at HRL
   have HOF := Lib.hid (fun W (h : Below w.heap.size w W) => refOf_any f _ r ws _ i j W (HV.out.below h) (HW.out.below h) HOK.out hij hjn)
   have HOFP : Hid (∀ W e W', OfPost f r ws i j W e W' → e = .returned (.agg (ofc (lineF f r ws i j).g (lineF f r ws i j).room (lineF f r ws i j).ends (divB ws i) (divB ws j) (fitsB (lineF f r ws i j)))) ∧ Below W.heap.size W W') := (show ∀ W e W', _ from fun W e W' h => h)
   have HAL := Lib.hid (fun W => refAllowed_any f r (lineF f r ws i j).g (lineF f r ws i j).room (lineF f r ws i j).ends (divB ws i) (divB ws j) (fitsB (lineF f r ws i j)) W HOK.out.ru HGG.out)
   rw [HAA.out] at HAL
   have HRD : Hid (∀ W, Below w.heap.size w W → Calls Tryz.prog 63 #[.agg (fcs f (.slice A f.sorts.length c)), .agg (rcs r), .agg (ofc (lineF f r ws i j).g (lineF f r ws i j).room (lineF f r ws i j).ends (divB ws i) (divB ws j) (fitsB (lineF f r ws i j)))] W (IntPost (demF f r (lineF f r ws i j) (divB ws i) (divB ws j)) W)) := (show ∀ W, _ from fun W hW => refDemerits_any f _ r _ _ _ _ _ _ W HOK.out.fn HOK.out.ru (HV.out.below hW) HGG.out HRB.out)
   have HATC := Lib.hid (fun W (h : Below w.heap.size w W) => refAt_any f.sorts.length ws _ (i : Int) (j : Int) W (HW.out.below h) HOK.out.wo HOK.out.n HOK.out.m)
   rw [← HAT0.out] at HATC
   have HPC : Hid (∀ W, Below w.heap.size w W → Calls Tryz.prog 39 #[.agg (fcs f (.slice A f.sorts.length c)), .agg (rcs r), .slice Aw ws.length cw] W (fun e w' => e = .returned (.int .i64 0) ∧ Below W.heap.size W w')) := (show ∀ W, _ from fun W hW => by
    have h := HPA.out W hW
    rwa [HPE.out] at h)
   have hlen := HLO.out.few
   have HGL : Hid (∀ q, (gl (lineF f r ws i j).ps q).length ≤ 1000000) := (show ∀ q, _ from fun q => by
    by_cases hq : q < (lineF f r ws i j).ps.length
    · have := (HLO.out.inf q hq).2; omega
    · unfold gl; rw [List.getD_eq_getElem?_getD, List.getElem?_eq_none (by omega)]; exact Nat.zero_le _)
   clear hlv hat h0 hok h2 h3 h4 hpe HPS HAA HLA HLE HPE HAT0 HPA HOK HLO HGG HRB hij
   generalize lineF f r ws i j = l at *
   generalize divB ws i = da at *
   generalize divB ws j = db at *
   generalize demF f r l da db = dd at *
   have c0 := HL5.out.L.Y.cell 0
   have c1 := HL5.out.L.Y.cell 1
   have c2 := HL5.out.L.Y.cell 2
   have c3 := HL5.out.L.Y.cell 3
   have c4 := HL5.out.L.Y.cell 4
   have c5 := HL5.out.L.Y.cell 5
   have c6 := HL5.out.L.Y.cell 6
   have c7 := HL5.out.L.Y.cell 7
   have c8 := HL5.out.L.Y.cell 8
   have c9 := HL5.out.L.Y.cell 9
   have c10 := HL5.out.L.Y.cell 10
   have c11 := HL5.out.L.Y.cell 11
   have cl := HL5.out.L.Y.lt
   have t0 := HL5.out.T.cell 0
   have t1 := HL5.out.T.cell 1
   have tl := HL5.out.T.lt
   go_wp2_with fail
   refine HDM.out.mono ?_
   rintro e w6 ⟨rfl, hb6⟩
   have HL6 := Lib.hid (HL5.out.step hb6)
   have HLV6 := Lib.hid (HLV.out.below hb6)
   clear hb6 HDM HL5 HLV c0 c1 c2 c3 c4 c5 c6 c7 c8 c9 c10 c11 cl t0 t1 tl
   generalize dmE f r ws (i : Int) (j : Int) = de at *
   have c0 := HL6.out.L.X.cell 0
   have c1 := HL6.out.L.X.cell 1
   have c2 := HL6.out.L.X.cell 2
   have c3 := HL6.out.L.X.cell 3
   have c4 := HL6.out.L.X.cell 4
   have c5 := HL6.out.L.X.cell 5
   have c6 := HL6.out.L.X.cell 6
   have c7 := HL6.out.L.X.cell 7
   have c8 := HL6.out.L.X.cell 8
   have c9 := HL6.out.L.X.cell 9
   have c10 := HL6.out.L.X.cell 10
   have c11 := HL6.out.L.X.cell 11
   have cl := HL6.out.L.X.lt
   have t0 := HL6.out.T.cell 0
   have t1 := HL6.out.T.cell 1
   have tl := HL6.out.T.lt
   go_wp2_with fail
   refine (HPC.out w6 HL6.out.L.B).mono ?_
   rintro e w7 ⟨rfl, hb7⟩
   have HL7 := Lib.hid (HL6.out.step hb7)
   have HLV7 := Lib.hid (HLV6.out.below hb7)
   clear hb7 HL6 HLV6 HPC c0 c1 c2 c3 c4 c5 c6 c7 c8 c9 c10 c11 cl t0 t1 tl
   have c0 := HL7.out.L.X.cell 0
   have c1 := HL7.out.L.X.cell 1
   have c2 := HL7.out.L.X.cell 2
   have c3 := HL7.out.L.X.cell 3
   have c4 := HL7.out.L.X.cell 4
   have c5 := HL7.out.L.X.cell 5
   have c6 := HL7.out.L.X.cell 6
   have c7 := HL7.out.L.X.cell 7
   have c8 := HL7.out.L.X.cell 8
   have c9 := HL7.out.L.X.cell 9
   have c10 := HL7.out.L.X.cell 10
   have c11 := HL7.out.L.X.cell 11
   have cl := HL7.out.L.X.lt
   have t0 := HL7.out.T.cell 0
   have t1 := HL7.out.T.cell 1
   have tl := HL7.out.T.lt
   go_wp2_with fail
   refine (HATC.out w7 HL7.out.L.B).mono ?_
   rintro e w8 ⟨rfl, hb8⟩
   have HL8 := Lib.hid (HL7.out.step hb8)
   have HLV8 := Lib.hid (HLV7.out.below hb8)
   clear hb8 HL7 HLV7 HATC c0 c1 c2 c3 c4 c5 c6 c7 c8 c9 c10 c11 cl t0 t1 tl
   have c0 := HL8.out.L.X.cell 0
   have c1 := HL8.out.L.X.cell 1
   have c2 := HL8.out.L.X.cell 2
   have c3 := HL8.out.L.X.cell 3
   have c4 := HL8.out.L.X.cell 4
   have c5 := HL8.out.L.X.cell 5
   have c6 := HL8.out.L.X.cell 6
   have c7 := HL8.out.L.X.cell 7
   have c8 := HL8.out.L.X.cell 8
   have c9 := HL8.out.L.X.cell 9
   have c10 := HL8.out.L.X.cell 10
   have c11 := HL8.out.L.X.cell 11
   have cl := HL8.out.L.X.lt
   have t0 := HL8.out.T.cell 0
   have t1 := HL8.out.T.cell 1
   have tl := HL8.out.T.lt
   go_wp2_with fail
   refine (HRL.out w8 HL8.out.L.B).mono ?_
   rintro e w9 ⟨vr, hd, rfl, hps, hb9⟩
   have HL9 := Lib.hid (HL8.out.step hb9)
   have hl9 := HLV8.out.below hb9
   obtain ⟨Ar, cr, rfl⟩ := hps.shape
   have HLC := Lib.hid (lists_any l.ps l.ps _ _ w9 hl9 hps.lv (by omega) HGL.out HGL.out)
   rw [show decide (l.ps = l.ps) = true from decide_eq_true rfl] at HLC
   clear hb9 hl9 hps HLV8 HL8 HRL HGL c0 c1 c2 c3 c4 c5 c6 c7 c8 c9 c10 c11 cl t0 t1 tl
   go_wp2_with fail
   refine HLC.out.mono ?_
   rintro e w10 ⟨rfl, hb10⟩
   have HL10 := Lib.hid (HL9.out.step hb10)
   clear hb10 HL9 HLC
   have c0 := HL10.out.L.X.cell 0
   have c1 := HL10.out.L.X.cell 1
   have c2 := HL10.out.L.X.cell 2
   have c3 := HL10.out.L.X.cell 3
   have c4 := HL10.out.L.X.cell 4
   have c5 := HL10.out.L.X.cell 5
   have c6 := HL10.out.L.X.cell 6
   have c7 := HL10.out.L.X.cell 7
   have c8 := HL10.out.L.X.cell 8
   have c9 := HL10.out.L.X.cell 9
   have c10 := HL10.out.L.X.cell 10
   have c11 := HL10.out.L.X.cell 11
   have cl := HL10.out.L.X.lt
   have t0 := HL10.out.T.cell 0
   have t1 := HL10.out.T.cell 1
   have tl := HL10.out.T.lt
   go_wp2_with fail
   refine (HOF.out w10 HL10.out.L.B).mono ?_
   intro e w11 h11
   obtain ⟨rfl, hb11⟩ := HOFP.out _ _ _ h11
   have HL11 := Lib.hid (HL10.out.step hb11)
   clear hb11 h11 HL10 HOF HOFP c0 c1 c2 c3 c4 c5 c6 c7 c8 c9 c10 c11 cl t0 t1 tl
   have hbn := below_new w11 (.cells (ofc l.g l.room l.ends da db (fitsB l)) 104)
   have HL12 := Lib.hid (HL11.out.step hbn)
   have HX104 := Lib.hid (Blk.new w11 104 (ofc l.g l.room l.ends da db (fitsB l)))
   clear hbn HL11
   go_upto_region 16 with fail
   generalize w11.alloc (.cells (ofc l.g l.room l.ends da db (fitsB l)) 104) = w12 at *
   generalize w11.heap.size = xb at *
   generalize fitsB l = fi at *
   have z0 := HX104.out.cell 0
   have z1 := HX104.out.cell 1
   have z2 := HX104.out.cell 2
   have z3 := HX104.out.cell 3
   have z4 := HX104.out.cell 4
   have z5 := HX104.out.cell 5
   have zl := HX104.out.lt
   have c0 := HL12.out.L.X.cell 0
   have c1 := HL12.out.L.X.cell 1
   have c2 := HL12.out.L.X.cell 2
   have c3 := HL12.out.L.X.cell 3
   have c4 := HL12.out.L.X.cell 4
   have c5 := HL12.out.L.X.cell 5
   have c6 := HL12.out.L.X.cell 6
   have c7 := HL12.out.L.X.cell 7
   have c8 := HL12.out.L.X.cell 8
   have c9 := HL12.out.L.X.cell 9
   have c10 := HL12.out.L.X.cell 10
   have c11 := HL12.out.L.X.cell 11
   have cl := HL12.out.L.X.lt
   have t0 := HL12.out.T.cell 0
   have t1 := HL12.out.T.cell 1
   have tl := HL12.out.T.lt
   go_wp2_with fail
   refine (HAL.out w12).mono ?_
   rintro e w13 ⟨rfl, hb13⟩
   have HL13 := Lib.hid (HL12.out.step hb13)
   have HX13 := Lib.hid (HX104.out.below hb13 HX104.out.lt)
   clear hb13 HL12 HX104 HAL c0 c1 c2 c3 c4 c5 c6 c7 c8 c9 c10 c11 cl t0 t1 tl z0 z1 z2 z3 z4 z5 zl
   cases hal : allowB r l with
   | false =>
    rw [hal, if_pos rfl] at HDE
    obtain ⟨d1, d2⟩ := de
    have h1 := HDE.out
    injection h1 with h1 h2
    subst h1 h2
    clear HDE hal
    go_wp2_with fail
    go_ret
    exact HP.out _ HL13.out.L.B
   | true =>
    rw [hal, if_neg (by decide)] at HDE
    obtain ⟨d1, d2⟩ := de
    have h1 := HDE.out
    injection h1 with h1 h2
    subst h1 h2
    clear HDE hal
    have z0 := HX13.out.cell 0
    have z1 := HX13.out.cell 1
    have z2 := HX13.out.cell 2
    have z3 := HX13.out.cell 3
    have z4 := HX13.out.cell 4
    have z5 := HX13.out.cell 5
    have zl := HX13.out.lt
    have c0 := HL13.out.L.X.cell 0
    have c1 := HL13.out.L.X.cell 1
    have c2 := HL13.out.L.X.cell 2
    have c3 := HL13.out.L.X.cell 3
    have c4 := HL13.out.L.X.cell 4
    have c5 := HL13.out.L.X.cell 5
    have c6 := HL13.out.L.X.cell 6
    have c7 := HL13.out.L.X.cell 7
    have c8 := HL13.out.L.X.cell 8
    have c9 := HL13.out.L.X.cell 9
    have c10 := HL13.out.L.X.cell 10
    have c11 := HL13.out.L.X.cell 11
    have cl := HL13.out.L.X.lt
    have t0 := HL13.out.T.cell 0
    have t1 := HL13.out.T.cell 1
    have tl := HL13.out.T.lt
    go_wp2_with fail
    refine (HRD.out w13 HL13.out.L.B).mono ?_
    rintro e w14 ⟨rfl, hb14⟩
    have HL14 := Lib.hid (HL13.out.step hb14)
    clear hb14 HL13 HX13 HRD c0 c1 c2 c3 c4 c5 c6 c7 c8 c9 c10 c11 cl t0 t1 tl z0 z1 z2 z3 z4 z5 zl
    go_wp2_with fail
    go_ret
    exact HP.out _ HL14.out.L.B
end Go.Proofs.YtbnganlfelgogaaGreat
