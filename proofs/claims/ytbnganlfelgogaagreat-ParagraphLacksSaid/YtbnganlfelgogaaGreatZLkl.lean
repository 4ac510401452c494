/- The law ParagraphLacks returns true. -/
import Derived.Test.YtbnganlfelgogaaGreatZAwk
import Derived.Test.YtbnganlfelgogaaGreatZLkr
import Derived.Test.YtbnganlfelgogaaGreatZKse
set_option linter.unusedSimpArgs false
set_option linter.unusedVariables false
namespace Go.Proofs.YtbnganlfelgogaaGreat
open Go.RowKit
def TruePost (w : World) (e : Ending) (w' : World) : Prop := e = .returned (.bool true) ∧ Below w.heap.size w w'
theorem SoV.sz {W : World} {l : List TSort} {v : Value} (h : SoV W l v) : SzOk l := by
 obtain ⟨A, b, off, c, -, -, -, -, -, h6⟩ := h
 exact h6
theorem eq70 (a b : Int) (w : World) : (Op.equalIn 10000 70 (.agg #[.int .i64 a, .int .i64 b]) (.agg #[.int .i64 a, .int .i64 b])).run Tryz.prog w = .ok true w := by
 have u3 := Tryz.underlying3
 have a3 := Tryz.isAgg3
 have z3 := Tryz.sizeOf3
 rw [show (10000 : Nat) = 9999 + 1 from rfl, Op.equalIn]
 simp only [Sem.run_bind, run_underlying Tryz.underlying70, Result.andThen_ok]
 simp only [Std.Legacy.Range.forIn_eq_forIn_range', Std.Legacy.Range.size, Nat.sub_zero, Nat.add_sub_cancel, Nat.div_one, List.range'_succ, List.range'_zero, List.forIn_cons, List.forIn_nil]
 go_simp
attribute [local go_sem] eq70
structure U1 (w W : World) (f : Fnt) (v : Value) : Prop where
 B : Below w.heap.size w W
 F : Blk W w.heap.size 24 (fcs f v)
theorem U1.step {w W W' : World} {f : Fnt} {v : Value} (h : U1 w W f v) (hb : Below W.heap.size W W') : U1 w W' f v := ⟨h.B.trans (hb.mono h.B.size), h.F.below hb h.F.lt⟩
set_option maxRecDepth 100000 in
set_option maxHeartbeats 8000000 in
theorem lacksLaw_any (f : Fnt) (v : Value) (cs : List Int) (ws : List PWord) (vw : Value) (vc : Value) (w : World) (hv : SoV w f.sorts v) (hn : f.name.size ≤ 9223372036854775807) (hc : IV w cs vc) (hw : WoV w ws vw) :
 Calls Tryz.prog 7 #[.agg (fcs f v), vc, vw] w (TruePost w) := by
 have HU0 : Hid (U1 w (w.alloc (.cells (fcs f v) 24)) f v) := ⟨below_new _ _, Blk.new _ _ _⟩
 have HSZ := Lib.hid hv.sz
 have HV := Lib.hid hv
 have HW := Lib.hid hw
 have HC := Lib.hid hc
 obtain ⟨A, c, rfl⟩ := hv.shape
 obtain ⟨Aw, cw, rfl, -⟩ := hw.shape
 obtain ⟨Ac, bc, oc, cc, rfl, -, -, -, -⟩ := hc.open
 have HP : Hid (∀ W, Below w.heap.size w W → TruePost w (.returned (.bool true)) W) := (show ∀ W, _ from fun W hb => ⟨rfl, hb⟩)
 clear hv hw hc
 go_enter Tryz.func7, Tryz.ntmps7
 go_upto_region 1 with fail
 generalize w.alloc (.cells (fcs f (.slice A f.sorts.length c)) 24) = W0 at *
 go_wp2_with fail
 refine (awake4_any _).mono ?_
 rintro e w1 ⟨rfl, hb1⟩
 have HU1 := Lib.hid (HU0.out.step hb1)
 clear hb1 HU0
 have f0 := HU1.out.F.cell 0
 have f1 := HU1.out.F.cell 1
 have f2 := HU1.out.F.cell 2
 have fl := HU1.out.F.lt
 have HSL := Lib.hid (small_any f _ ws _ w1 (HV.out.below HU1.out.B) hn (HW.out.below HU1.out.B))
 go_wp2_with fail
 refine HSL.out.mono ?_
 rintro e w2 ⟨b, rfl, hb, hb2⟩
 have HU2 := Lib.hid (HU1.out.step hb2)
 clear hb2 HU1 HSL f0 f1 f2 fl
 cases b with
 | false =>
  clear hb
  go_wp2_with fail
  go_ret
  exact HP.out _ HU2.out.B
 | true =>
 have HSM := Lib.hid (hb rfl)
 clear hb
 by_cases g1 : 124 < cs.length
 · have g1z : (124 : Int) < ((cs.length : Nat) : Int) := by omega
   go_wp2_with fail
   go_ret
   exact HP.out _ HU2.out.B
 have g1z : ¬ (124 : Int) < ((cs.length : Nat) : Int) := by omega
 have f0 := HU2.out.F.cell 0
 have f1 := HU2.out.F.cell 1
 have f2 := HU2.out.F.cell 2
 have fl := HU2.out.F.lt
 go_wp2_with fail
 refine (copyFount_any f _ w2 (HV.out.below HU2.out.B) (by have := HSM.out.1; omega)).mono ?_
 rintro e w3 ⟨vf, rfl, hso, hb3⟩
 have HSO3 := Lib.hid (hso.sov HSZ.out)
 have HU3 := Lib.hid (HU2.out.step hb3)
 obtain ⟨Af, cf, rfl⟩ := HSO3.out.shape
 clear hso hb3 HU2 f0 f1 f2 fl
 go_wp2_with fail
 refine (copyInts_any cs _ w3 (HC.out.below HU3.out.B) (by omega)).mono ?_
 rintro e w4 ⟨vd, rfl, hio, hb4⟩
 have HIO4 := Lib.hid hio.iv
 obtain ⟨Ad, cd, rfl⟩ := hio.shape
 have HSO4 := Lib.hid (HSO3.out.below hb4)
 have HU4 := Lib.hid (HU3.out.step hb4)
 clear hio hb4 HU3 HSO3
 have HCW := Lib.hid (copyWords_any ws _ w4 (HW.out.below HU4.out.B) (by have := HSM.out.2.1; omega) (fun i hi => by have := HSM.out.2.2 i hi; omega))
 go_wp2_with fail
 refine HCW.out.mono ?_
 rintro e w5 ⟨vg, hd, rfl, hs, hb5⟩
 have HWV5 := Lib.hid hs.wov
 obtain ⟨Ag, cg, rfl, -⟩ := HWV5.out.shape
 have HLK := Lib.hid (lacks_any f _ cs _ ws _ w5 (HSO4.out.below hb5) hn (HIO4.out.below hb5) HWV5.out (by omega))
 have HU5 := Lib.hid (HU4.out.step hb5)
 clear hs hb5 HCW HU4 HIO4 HSO4
 go_wp2_with fail
 refine HLK.out.mono ?_
 rintro e w6 ⟨hb6, hor⟩
 have HU6 := Lib.hid (HU5.out.step hb6)
 clear hb6 HLK HU5 HWV5
 have HFE := Lib.hid (fun W (h : Below w.heap.size w W) => refErr_any f _ W (HV.out.below h) hn)
 have HCA := Lib.hid (fun W (h : Below w.heap.size w W) => case53_any f _ cs _ W (HV.out.below h) hn (HC.out.below h) (by omega))
 have HWE := Lib.hid (fun W (h : Below w.heap.size w W) => refWordsErr_any f _ ws _ W (HV.out.below h) hn (HW.out.below h))
 have HRL := Lib.hid (fun W (h : Below w.heap.size w W) h1 h2 h3 h4 => refLacks_any f cs _ ws _ W (HC.out.below h) (HW.out.below h) h1 h2 h3 h4)
 have HDC : Hid (caErr f cs = if (fnErr f).2 ≠ 0 then (fnErr f).2 else cntErr f.sorts.length cs) := rfl
 have HDL : Hid (lkErr f cs ws = if caErr f cs ≠ 0 then caErr f cs else (wsErr f ws).2) := rfl
 rcases hor with ⟨h0, rfl⟩ | ⟨h0, a, ha, rfl⟩
 · have HL0 := Lib.hid h0
   clear h0 HRL
   obtain ⟨le, hle⟩ : ∃ x, lkErr f cs ws = x := ⟨_, rfl⟩
   rw [hle] at HDL HL0 ⊢
   clear hle
   have hbn := below_new w6 (.cells #[.int .i64 0, .int .i64 0] 70)
   have HU7 := Lib.hid (HU6.out.step hbn)
   have HX7 := Lib.hid (Blk.new w6 70 #[.int .i64 0, .int .i64 0])
   clear hbn HU6
   go_upto_region 6 with fail
   generalize w6.alloc (.cells #[.int .i64 0, .int .i64 0] 70) = w7 at *
   generalize w6.heap.size = xb at *
   have f0 := HU7.out.F.cell 0
   have f1 := HU7.out.F.cell 1
   have f2 := HU7.out.F.cell 2
   have fl := HU7.out.F.lt
   go_wp2_with fail
   refine (HFE.out w7 HU7.out.B).mono ?_
   rintro e w8 ⟨rfl, hb8⟩
   have HU8 := Lib.hid (HU7.out.step hb8)
   have HX8 := Lib.hid (HX7.out.below hb8 HX7.out.lt)
   clear hb8 HU7 HX7 HFE f0 f1 f2 fl
   obtain ⟨fe, hfe⟩ : ∃ x, (fnErr f).2 = x := ⟨_, rfl⟩
   rw [hfe] at HDC ⊢
   clear hfe
   by_cases hf0 : fe = 0
   · subst hf0
     have hfz : ((0 : Int) == 0) = true := rfl
     have f0 := HU8.out.F.cell 0
     have f1 := HU8.out.F.cell 1
     have f2 := HU8.out.F.cell 2
     have fl := HU8.out.F.lt
     go_wp2_with fail
     refine (HCA.out w8 HU8.out.B).mono ?_
     rintro e w9 ⟨rfl, hb9⟩
     have HU9 := Lib.hid (HU8.out.step hb9)
     have HX9 := Lib.hid (HX8.out.below hb9 HX8.out.lt)
     clear hb9 HU8 HX8 HCA f0 f1 f2 fl
     obtain ⟨ce, hce⟩ : ∃ x, caErr f cs = x := ⟨_, rfl⟩
     rw [hce] at HDL ⊢
     clear hce HDC
     by_cases hc0 : ce = 0
     · subst hc0
       have f0 := HU9.out.F.cell 0
       have f1 := HU9.out.F.cell 1
       have f2 := HU9.out.F.cell 2
       have fl := HU9.out.F.lt
       go_wp2_with fail
       refine (HWE.out w9 HU9.out.B).mono ?_
       rintro e w10 ⟨rfl, hb10⟩
       have HU10 := Lib.hid (HU9.out.step hb10)
       have HX10 := Lib.hid (HX9.out.below hb10 HX9.out.lt)
       clear hb10 HU9 HX9 HWE f0 f1 f2 fl
       have HF : Hid (le = (wsErr f ws).2) := by show _ = _; rw [HDL.out, if_neg (fun h => h rfl)]
       rw [← HF.out]
       have hl0 := HL0.out
       have hlb : (le != 0) = true := bne_t hl0
       clear hl0 HF HDL
       have x0 := HX10.out.cell 0
       have x1 := HX10.out.cell 1
       have xl := HX10.out.lt
       go_wp2_with fail
       go_ret
       exact HP.out _ HU10.out.B
     · have hcb : (ce == 0) = false := by simp [hc0]
       have hcc : (ce != 0) = true := bne_t hc0
       have HF : Hid (le = ce) := by show _ = _; rw [HDL.out, if_pos hc0]
       rw [HF.out]
       clear hc0 HF HDL HL0
       have x0 := HX9.out.cell 0
       have x1 := HX9.out.cell 1
       have xl := HX9.out.lt
       go_wp2_with fail
       go_ret
       exact HP.out _ HU9.out.B
   · have hfb : (fe == 0) = false := by simp [hf0]
     have hfc : (fe != 0) = true := bne_t hf0
     have HF : Hid (le = fe) := by
      show _ = _
      rw [HDL.out, HDC.out, if_pos hf0, if_pos hf0]
     rw [HF.out]
     clear hf0 HF HDL HDC HL0
     have x0 := HX8.out.cell 0
     have x1 := HX8.out.cell 1
     have xl := HX8.out.lt
     go_wp2_with fail
     go_ret
     exact HP.out _ HU8.out.B
 · have HA := Lib.hid ha
   have hce : caErr f cs = 0 := by
    by_cases h : caErr f cs = 0
    · exact h
    · exfalso; rw [HDL.out, if_pos h] at h0; exact h h0
   have hwe : (wsErr f ws).2 = 0 := by rw [HDL.out, if_neg (fun h => h hce)] at h0; exact h0
   have hfe : (fnErr f).2 = 0 := by
    by_cases h : (fnErr f).2 = 0
    · exact h
    · exfalso; rw [HDC.out, if_pos h] at hce; exact h hce
   have hwo := wsErr_ok hwe
   have HCK := Lib.hid (ca_ok2 hce)
   have HWK := Lib.hid hwo.2.1
   have hn2 := hwo.2.2.2.1
   have hnm := (fnErr_few hfe).2
   have HRL2 := Lib.hid (fun W (h : Below w.heap.size w W) => HRL.out W h HCK.out HWK.out hn2 (by omega))
   have HFE0 : Hid (∀ W, Below w.heap.size w W → Calls Tryz.prog 42 #[.agg #[.string f.name, .int .i64 f.body, .slice A f.sorts.length c]] W (fun e w' => e = .returned (.int .i64 0) ∧ Below W.heap.size W w')) := (show ∀ W, _ from fun W hW => by have h := HFE.out W hW; rwa [hfe] at h)
   have HCA0 : Hid (∀ W, Below w.heap.size w W → Calls Tryz.prog 43 #[.agg (fcs f (.slice A f.sorts.length c)), .slice Ac cs.length cc] W (IntPost 0 W)) := (show ∀ W, _ from fun W hW => by have h := HCA.out W hW; rwa [hce] at h)
   have HWE0 : Hid (∀ W, Below w.heap.size w W → Calls Tryz.prog 44 #[.agg (fcs f (.slice A f.sorts.length c)), .slice Aw ws.length cw] W (fun e w' => e = .returned (.int .i64 0) ∧ Below W.heap.size W w')) := (show ∀ W, _ from fun W hW => by have h := HWE.out W hW; rwa [hwe] at h)
   clear h0 ha hce hwe hfe hwo HFE HCA HWE HRL HDC HDL HCK HWK
   have HFE := HFE0
   have HCA := HCA0
   have HWE := HWE0
   clear HFE0 HCA0 HWE0
   obtain ⟨x1, x2, a2, hlv, HAE⟩ : ∃ (x1 x2 : Int) (a2 : Int), lkV a = #[.int .i64 x1, .int .i64 x2] ∧ Hid ((a = none ∧ x1 = 0 ∧ x2 = 0 ∧ a2 = 12) ∨ (a = some (x1, x2) ∧ a2 = 0)) ∧ (if a.isSome = true then (0 : Int) else 12) = a2 := by
    cases a with
    | none => exact ⟨0, 0, 12, rfl, .inl ⟨rfl, rfl, rfl, rfl⟩, rfl⟩
    | some p => exact ⟨p.1, p.2, 0, rfl, .inr ⟨rfl, rfl⟩, rfl⟩
   rw [hlv, HAE.2]
   have HAC := HAE.1
   clear hlv HAE
   have hbn := below_new w6 (.cells #[.int .i64 x1, .int .i64 x2] 70)
   have HU7 := Lib.hid (HU6.out.step hbn)
   have HX7 := Lib.hid (Blk.new w6 70 #[.int .i64 x1, .int .i64 x2])
   clear hbn HU6
   go_upto_region 6 with fail
   generalize w6.alloc (.cells #[.int .i64 x1, .int .i64 x2] 70) = w7 at *
   generalize w6.heap.size = xb at *
   have f0 := HU7.out.F.cell 0
   have f1 := HU7.out.F.cell 1
   have f2 := HU7.out.F.cell 2
   have fl := HU7.out.F.lt
   go_wp2_with fail
   refine (HFE.out w7 HU7.out.B).mono ?_
   rintro e w8 ⟨rfl, hb8⟩
   have HU8 := Lib.hid (HU7.out.step hb8)
   have HX8 := Lib.hid (HX7.out.below hb8 HX7.out.lt)
   clear hb8 HU7 HX7 HFE f0 f1 f2 fl
   have f0 := HU8.out.F.cell 0
   have f1 := HU8.out.F.cell 1
   have f2 := HU8.out.F.cell 2
   have fl := HU8.out.F.lt
   go_wp2_with fail
   refine (HCA.out w8 HU8.out.B).mono ?_
   rintro e w9 ⟨rfl, hb9⟩
   have HU9 := Lib.hid (HU8.out.step hb9)
   have HX9 := Lib.hid (HX8.out.below hb9 HX8.out.lt)
   clear hb9 HU8 HX8 HCA f0 f1 f2 fl
   have f0 := HU9.out.F.cell 0
   have f1 := HU9.out.F.cell 1
   have f2 := HU9.out.F.cell 2
   have fl := HU9.out.F.lt
   go_wp2_with fail
   refine (HWE.out w9 HU9.out.B).mono ?_
   rintro e w10 ⟨rfl, hb10⟩
   have HU10 := Lib.hid (HU9.out.step hb10)
   have HX10 := Lib.hid (HX9.out.below hb10 HX9.out.lt)
   clear hb10 HU9 HX9 HWE f0 f1 f2 fl
   go_wp2_with fail
   refine (HRL2.out w10 HU10.out.B).mono ?_
   rintro e w11 ⟨hb11, b, hB, rfl⟩
   have hab := HA.out.uniq hB
   subst hab
   have HU11 := Lib.hid (HU10.out.step hb11)
   have HX11 := Lib.hid (HX10.out.below hb11 HX10.out.lt)
   clear hb11 hB HA HRL2 HU10 HX10
   rcases HAC.out with ⟨rfl, rfl, rfl, rfl⟩ | ⟨rfl, rfl⟩
   · simp only [lkV, Option.isSome_none]
     have hbn := below_new w11 (.cells #[.int .i64 0, .int .i64 0] 70)
     have HU12 := Lib.hid (HU11.out.step hbn)
     have HX12 := Lib.hid (HX11.out.below hbn HX11.out.lt)
     clear hbn HU11 HX11
     have x0 := HX12.out.cell 0
     have x1 := HX12.out.cell 1
     have xl := HX12.out.lt
     go_wp2_with fail
     go_ret
     exact HP.out _ HU12.out.B
   · simp only [lkV, Option.isSome_some]
     have hbn := below_new w11 (.cells #[.int .i64 x1, .int .i64 x2] 70)
     have HU12 := Lib.hid (HU11.out.step hbn)
     have HX12 := Lib.hid (HX11.out.below hbn HX11.out.lt)
     have HY12 := Lib.hid (Blk.new w11 70 #[.int .i64 x1, .int .i64 x2])
     clear hbn HU11 HX11
     have x0 := HX12.out.cell 0
     have x1 := HX12.out.cell 1
     have xl := HX12.out.lt
     have y0 := HY12.out.cell 0
     have y1 := HY12.out.cell 1
     have yl := HY12.out.lt
     go_wp2_with fail
     go_ret
     exact HP.out _ HU12.out.B
end Go.Proofs.YtbnganlfelgogaaGreat
