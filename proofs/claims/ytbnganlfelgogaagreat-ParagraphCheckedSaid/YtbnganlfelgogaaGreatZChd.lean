/- The law ParagraphChecked returns true. -/
import Derived.Test.YtbnganlfelgogaaGreatZAwk
import Derived.Test.YtbnganlfelgogaaGreatZRcb
import Derived.Test.YtbnganlfelgogaaGreatZCkc
set_option linter.unusedSimpArgs false
set_option linter.unusedVariables false
namespace Go.Proofs.YtbnganlfelgogaaGreat
open Go.RowKit
structure LY (w W : World) (f : Fnt) (v : Value) (r : Rls) (ws : List PWord) (vw : Value) (yb : Nat) (vf vg : Value) : Prop where
 B : Below w.heap.size w W
 X : Blk W w.heap.size 29 (xcs f v r vw)
 Y : Blk W yb 29 (xcs f vf r vg)
 y : w.heap.size < yb
 S : SoV W f.sorts vf
 V : WoV W ws vg
theorem LY.step {w W W' : World} {f : Fnt} {v : Value} {r : Rls} {ws : List PWord} {vw : Value} {yb : Nat} {vf vg : Value} (h : LY w W f v r ws vw yb vf vg) (hb : Below W.heap.size W W') : LY w W' f v r ws vw yb vf vg :=
 ⟨h.B.trans (hb.mono h.B.size), h.X.below hb h.X.lt, h.Y.below hb h.Y.lt, h.y, h.S.below hb, h.V.below hb⟩
def TruePost (w : World) (e : Ending) (w' : World) : Prop := e = .returned (.bool true) ∧ Below w.heap.size w w'
theorem cb_eq {f : Fnt} {r : Rls} {ws : List PWord} {bs : List Int} : cbA f r ws bs = if paErr f r ws ≠ 0 then (0, paErr f r ws) else cbR f r ws bs := rfl
set_option maxRecDepth 100000 in
set_option maxHeartbeats 8000000 in
theorem checked_any (f : Fnt) (v : Value) (r : Rls) (ws : List PWord) (vw : Value) (bs : List Int) (vb : Value) (w : World) (hv : SoV w f.sorts v) (hn : f.name.size ≤ 9223372036854775807) (hw : WoV w ws vw) (hb : IV w bs vb) :
 Calls Tryz.prog 6 #[.agg (xcs f v r vw), vb] w (TruePost w) := by
 obtain ⟨Ab, bb, ob, cb, rfl, -, -, -, -⟩ := hb.open
 have HBV := Lib.hid hb
 clear hb
 have hb0 := below_new w (.cells (xcs f v r vw) 29)
 have hk0 := Blk.new w 29 (xcs f v r vw)
 obtain ⟨A, c, rfl⟩ := hv.shape
 obtain ⟨Aw, cw, rfl, -⟩ := hw.shape
 have HV := Lib.hid hv
 have HW := Lib.hid hw
 have HN := Lib.hid hn
 have HP : Hid (∀ W, Below w.heap.size w W → TruePost w (.returned (.bool true)) W) := (show ∀ W, _ from fun W hb => ⟨rfl, hb⟩)
 have HB0 := Lib.hid hb0
 have HK0 := Lib.hid hk0
 clear hv hw hn hb0 hk0
 go_enter Tryz.func6, Tryz.ntmps6
 go_wp2_with fail
 refine (awake4_any _).mono ?_
 rintro e w1 ⟨rfl, hb1⟩
 have HB1 := Lib.hid (HB0.out.trans (hb1.mono HB0.out.size))
 have HK := Lib.hid (HK0.out.below hb1 HK0.out.lt)
 clear hb1 HB0 HK0
 have c0 := HK.out.cell 0
 have c1 := HK.out.cell 1
 have c2 := HK.out.cell 2
 have c3 := HK.out.cell 3
 have c4 := HK.out.cell 4
 have c5 := HK.out.cell 5
 have c6 := HK.out.cell 6
 have c7 := HK.out.cell 7
 have c8 := HK.out.cell 8
 have c9 := HK.out.cell 9
 have c10 := HK.out.cell 10
 have c11 := HK.out.cell 11
 have cl := HK.out.lt
 have HWH := Lib.hid (light_any f _ r ws _ w1 (HV.out.below HB1.out) HN.out (HW.out.below HB1.out))
 go_wp2_with fail
 refine HWH.out.mono ?_
 rintro e w2 ⟨b, rfl, hb, hb2⟩
 have HB2 := Lib.hid (HB1.out.trans (hb2.mono HB1.out.size))
 have HK2 := Lib.hid (HK.out.below hb2 HK.out.lt)
 clear hb2 c0 c1 c2 c3 c4 c5 c6 c7 c8 c9 c10 c11 cl HWH HK
 cases b with
 | false =>
  clear hb
  go_wp2_with fail
  go_ret
  exact HP.out _ HB2.out
 | true =>
 have HSM := Lib.hid (hb rfl)
 have HK := Lib.hid HK2.out
 clear hb HK2
 by_cases g1 : 40 < bs.length
 · have g1z : (40 : Int) < ((bs.length : Nat) : Int) := by omega
   go_wp2_with fail
   go_ret
   exact HP.out _ HB2.out
 have g1z : ¬ (40 : Int) < ((bs.length : Nat) : Int) := by omega
 have c0 := HK.out.cell 0
 have c1 := HK.out.cell 1
 have c2 := HK.out.cell 2
 have c3 := HK.out.cell 3
 have c4 := HK.out.cell 4
 have c5 := HK.out.cell 5
 have c6 := HK.out.cell 6
 have c7 := HK.out.cell 7
 have c8 := HK.out.cell 8
 have c9 := HK.out.cell 9
 have c10 := HK.out.cell 10
 have c11 := HK.out.cell 11
 have cl := HK.out.lt
 have HOWN := Lib.hid (own_any f _ r ws _ w2 (HV.out.below HB2.out) (HW.out.below HB2.out) HSM.out)
 go_wp2_with fail
 refine HOWN.out.mono ?_
 rintro e w3 ⟨vf, vg, rfl, hsf, hwg, hb3⟩
 obtain ⟨Af, cf, rfl⟩ := hsf.shape
 obtain ⟨Ag, cg, rfl, -⟩ := hwg.shape
 have HL : Hid (LY w (w3.alloc (.cells (xcs f (.slice Af f.sorts.length cf) r (.slice Ag ws.length cg)) 29)) f (.slice A f.sorts.length c) r ws (.slice Aw ws.length cw) w3.heap.size (.slice Af f.sorts.length cf) (.slice Ag ws.length cg)) := by
  have hbn := below_new w3 (.cells (xcs f (.slice Af f.sorts.length cf) r (.slice Ag ws.length cg)) 29)
  have hx := HK.out.below hb3 HK.out.lt
  exact ⟨(HB2.out.trans (hb3.mono HB2.out.size)).trans (hbn.mono (Nat.le_trans HB2.out.size hb3.size)), hx.below hbn hx.lt, Blk.new w3 29 _, hx.lt, hsf.below hbn, hwg.below hbn⟩
 clear hsf hwg hb3 HOWN HK HB1 HB2 c0 c1 c2 c3 c4 c5 c6 c7 c8 c9 c10 c11 cl
 go_upto_region 6 with fail
 generalize w3.alloc (.cells (xcs f (.slice Af f.sorts.length cf) r (.slice Ag ws.length cg)) 29) = w4 at *
 generalize w3.heap.size = yb at *
 have HCI : Hid (∀ W, Below w.heap.size w W → Calls Tryz.prog 34 #[.slice Ab bs.length cb] W (CloPost W bs)) := (show ∀ W, _ from fun W hW => copyInts_any bs _ W (HBV.out.below hW) (by omega))
 have HCB : Hid (∀ W A7 c7, LY w W f (.slice A f.sorts.length c) r ws (.slice Aw ws.length cw) yb (.slice Af f.sorts.length cf) (.slice Ag ws.length cg) → IV W bs (.slice A7 bs.length c7) → Calls Tryz.prog 38 #[.agg (fcs f (.slice Af f.sorts.length cf)), .agg (rcs r), .slice Ag ws.length cg, .slice A7 bs.length c7] W (fun e W' => e = .returned (.tuple #[.int .i64 (cbA f r ws bs).1, .int .i64 (cbA f r ws bs).2]) ∧ Below W.heap.size W W')) := (show ∀ W A7 c7, _ from fun W A7 c7 h h7 => checkBreaks_any f _ r ws _ bs _ W h.S HN.out h.V h7)
 have HCE : Hid (cbA f r ws bs = if paErr f r ws ≠ 0 then (0, paErr f r ws) else cbR f r ws bs) := cb_eq
 have HKS : Hid (∀ W, Below w4.heap.size w4 W → (W.cell? ⟨yb, 0, none⟩ = some (.string f.name) ∧ W.cell? ⟨yb, 1, none⟩ = some (.int .i64 f.body) ∧ W.cell? ⟨yb, 2, none⟩ = some (.slice Af f.sorts.length cf) ∧ W.cell? ⟨yb, 3, none⟩ = some (.int .i64 r.measure) ∧ W.cell? ⟨yb, 4, none⟩ = some (.int .i64 r.indent) ∧ W.cell? ⟨yb, 5, none⟩ = some (.int .i64 r.least) ∧ W.cell? ⟨yb, 6, none⟩ = some (.int .i64 r.most) ∧ W.cell? ⟨yb, 7, none⟩ = some (.int .i64 r.gap) ∧ W.cell? ⟨yb, 8, none⟩ = some (.int .i64 r.hyphen) ∧ W.cell? ⟨yb, 9, none⟩ = some (.int .i64 r.single) ∧ W.cell? ⟨yb, 10, none⟩ = some (.int .i64 r.double) ∧ W.cell? ⟨yb, 11, none⟩ = some (.slice Ag ws.length cg))) := (show ∀ W, _ from fun W hW => by
  have h := HL.out.Y.below hW HL.out.Y.lt
  exact ⟨h.cell 0, h.cell 1, h.cell 2, h.cell 3, h.cell 4, h.cell 5, h.cell 6, h.cell 7, h.cell 8, h.cell 9, h.cell 10, h.cell 11⟩)
 have hbd : Below w4.heap.size w4 w4.drew := (Below.refl _ _).drew
 have hS0 := HKS.out _ hbd
 go_region_held3 (fun W => (W.cell? ⟨yb, 0, none⟩ = some (.string f.name) ∧ W.cell? ⟨yb, 1, none⟩ = some (.int .i64 f.body) ∧ W.cell? ⟨yb, 2, none⟩ = some (.slice Af f.sorts.length cf) ∧ W.cell? ⟨yb, 3, none⟩ = some (.int .i64 r.measure) ∧ W.cell? ⟨yb, 4, none⟩ = some (.int .i64 r.indent) ∧ W.cell? ⟨yb, 5, none⟩ = some (.int .i64 r.least) ∧ W.cell? ⟨yb, 6, none⟩ = some (.int .i64 r.most) ∧ W.cell? ⟨yb, 7, none⟩ = some (.int .i64 r.gap) ∧ W.cell? ⟨yb, 8, none⟩ = some (.int .i64 r.hyphen) ∧ W.cell? ⟨yb, 9, none⟩ = some (.int .i64 r.single) ∧ W.cell? ⟨yb, 10, none⟩ = some (.int .i64 r.double) ∧ W.cell? ⟨yb, 11, none⟩ = some (.slice Ag ws.length cg)))
  (first | exact hS0 | exact HKS.out _ hb8a | exact HKS.out _ hb7a | go_keep)
  ((first
    | (go_at_call 34; (with_reducible refine (HCI.out _ (HL.out.B.trans (hbd.mono HL.out.B.size))).mono ?_); rintro e W7a ⟨v7, rfl, hio7, hb7'⟩
       have hb7a : Below w4.heap.size w4 W7a := hbd.trans (hb7'.mono (by exact hbd.size))
       have hiv7 := hio7.iv
       obtain ⟨A7, b7, o7, c7, rfl, -, -, -, -⟩ := hiv7.open
       have H7 := Lib.hid (HL.out.step hb7a))
    | (go_at_call 38; (with_reducible refine (HCB.out _ _ _ H7.out hiv7).mono ?_); rintro e W8a ⟨rfl, hb8'⟩
       have hb8a : Below w4.heap.size w4 W8a := hb7a.trans (hb8'.mono (by exact hb7a.size))
       have H8a := Lib.hid (HL.out.step hb8a))))
 clear hb8a hb8' hb7a hb7' hio7 hiv7 H7 HKS hbd hS0
 clear HL HCI HCB
 generalize cbA f r ws bs = ca at *
 have HKX := Lib.hid H8a.out.X
 have c0 := HKX.out.cell 0
 have c1 := HKX.out.cell 1
 have c2 := HKX.out.cell 2
 have c3 := HKX.out.cell 3
 have c4 := HKX.out.cell 4
 have c5 := HKX.out.cell 5
 have c6 := HKX.out.cell 6
 have c7 := HKX.out.cell 7
 have c8 := HKX.out.cell 8
 have c9 := HKX.out.cell 9
 have c10 := HKX.out.cell 10
 have c11 := HKX.out.cell 11
 have cl := HKX.out.lt
 have HPA := Lib.hid (refErr04_any f _ r ws _ W8a (HV.out.below H8a.out.B) HN.out (HW.out.below H8a.out.B))
 go_wp2_with fail
 refine HPA.out.mono ?_
 rintro e w9 ⟨rfl, hb9⟩
 have H9 := Lib.hid (H8a.out.step hb9)
 clear hb9 H8a HKX HPA c0 c1 c2 c3 c4 c5 c6 c7 c8 c9 c10 c11 cl
 obtain ⟨pe, hpe⟩ : ∃ x, paErr f r ws = x := ⟨_, rfl⟩
 rw [hpe]
 by_cases hp0 : pe = 0
 · subst hp0
   have HOK := Lib.hid (paErr_ok hpe)
   have HF : Hid (ca = cbR f r ws bs) := by show _ = _; rw [HCE.out, if_neg (fun h => h hpe)]
   clear hpe HCE
   have HKX := Lib.hid H9.out.X
   have c0 := HKX.out.cell 0
   have c1 := HKX.out.cell 1
   have c2 := HKX.out.cell 2
   have c3 := HKX.out.cell 3
   have c4 := HKX.out.cell 4
   have c5 := HKX.out.cell 5
   have c6 := HKX.out.cell 6
   have c7 := HKX.out.cell 7
   have c8 := HKX.out.cell 8
   have c9 := HKX.out.cell 9
   have c10 := HKX.out.cell 10
   have c11 := HKX.out.cell 11
   have cl := HKX.out.lt
   have HRB := Lib.hid (refBreaks_any f _ r ws _ bs _ w9 (HV.out.below H9.out.B) (HW.out.below H9.out.B) HOK.out (HBV.out.below H9.out.B) (by omega))
   have HRB2 : Hid (∀ e W', TwoPost (cbR f r ws bs) w9 e W' → e = .returned (.tuple #[.int .i64 ca.1, .int .i64 ca.2]) ∧ Below w9.heap.size w9 W') := (show ∀ e W', _ from fun e W' h => by rw [HF.out]; exact h)
   go_wp2_with fail
   refine HRB.out.mono ?_
   intro e w10 h10
   obtain ⟨rfl, hb10⟩ := HRB2.out _ _ h10
   have H10 := Lib.hid (H9.out.step hb10)
   clear hb10 h10 H9 HKX HRB HRB2 HF c0 c1 c2 c3 c4 c5 c6 c7 c8 c9 c10 c11 cl
   obtain ⟨c1, c2⟩ := ca
   go_wp2_with fail
   go_ret
   exact HP.out _ H10.out.B
 · have hpb : (pe == 0) = false := by simp [hp0]
   have HF : Hid (ca = (0, pe)) := by show _ = _; rw [HCE.out, if_pos (by rw [hpe]; exact hp0), hpe]
   obtain ⟨c1, c2⟩ := ca
   have h1 := HF.out
   injection h1 with h1 h2
   subst h1 h2
   clear hp0 hpe HCE HF
   go_wp2_with fail
   go_ret
   exact HP.out _ H9.out.B
end Go.Proofs.YtbnganlfelgogaaGreat
