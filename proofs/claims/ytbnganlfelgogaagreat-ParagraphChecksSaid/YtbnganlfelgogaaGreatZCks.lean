/- The law ParagraphChecks returns true. -/
import Derived.Test.YtbnganlfelgogaaGreatZAwk
import Derived.Test.YtbnganlfelgogaaGreatZPlx
set_option linter.unusedSimpArgs false
set_option linter.unusedVariables false
namespace Go.Proofs.YtbnganlfelgogaaGreat
open Go.RowKit
def TruePost (w : World) (e : Ending) (w' : World) : Prop := e = .returned (.bool true) ∧ Below w.heap.size w w'
theorem SoV.sz {W : World} {l : List TSort} {v : Value} (h : SoV W l v) : SzOk l := by
 obtain ⟨A, b, off, c, -, -, -, -, -, h6⟩ := h
 exact h6
theorem eq55 (a b : Int) (w : World) : (Op.equalIn 10000 55 (.agg #[.int .i64 a, .int .i64 b]) (.agg #[.int .i64 a, .int .i64 b])).run Tryz.prog w = .ok true w := by
 have u3 := Tryz.underlying3
 have a3 := Tryz.isAgg3
 have z3 := Tryz.sizeOf3
 rw [show (10000 : Nat) = 9999 + 1 from rfl, Op.equalIn]
 simp only [Sem.run_bind, run_underlying Tryz.underlying55, Result.andThen_ok]
 go_simp
attribute [local go_sem] eq55
set_option maxRecDepth 100000 in
set_option maxHeartbeats 8000000 in
theorem checks_any (f : Fnt) (v : Value) (r : Rls) (ws : List PWord) (vw : Value) (w : World) (hv : SoV w f.sorts v) (hn : f.name.size ≤ 9223372036854775807) (hw : WoV w ws vw) :
 Calls Tryz.prog 4 #[.agg (fcs f v), .agg (rcs r), vw] w (TruePost w) := by
 have HU0 := Lib.hid (UB.start (r := r) hv hw)
 have HSZ := Lib.hid hv.sz
 obtain ⟨A, c, rfl⟩ := hv.shape
 obtain ⟨Aw, cw, rfl, -⟩ := hw.shape
 have HP : Hid (∀ W, Below w.heap.size w W → TruePost w (.returned (.bool true)) W) := (show ∀ W, _ from fun W hb => ⟨rfl, hb⟩)
 clear hv hw
 go_enter Tryz.func4, Tryz.ntmps4
 go_upto_region 1 with fail
 generalize ((w.alloc (.cells (fcs f (.slice A f.sorts.length c)) 24)).alloc (.cells (rcs r) 26)) = W0 at *
 go_wp2_with fail
 refine (awake4_any _).mono ?_
 rintro e w1 ⟨rfl, hb1⟩
 have HU1 := Lib.hid (HU0.out.step hb1)
 clear hb1 HU0
 have f0 := HU1.out.T.F.cell 0
 have f1 := HU1.out.T.F.cell 1
 have f2 := HU1.out.T.F.cell 2
 have fl := HU1.out.T.F.lt
 have HSL := Lib.hid (small_any f _ ws _ w1 HU1.out.T.S hn HU1.out.V)
 go_wp2_with fail
 refine HSL.out.mono ?_
 rintro e w2 ⟨b, rfl, hb, hb2⟩
 have HU2 := Lib.hid (HU1.out.step hb2)
 clear hb2 HU1 HSL f0 f1 f2 fl
 cases b with
 | false =>
  clear hb
  go_wp2_with fail
  go_ret
  exact HP.out _ HU2.out.T.B
 | true =>
 have HSM := Lib.hid (hb rfl)
 clear hb
 have f0 := HU2.out.T.F.cell 0
 have f1 := HU2.out.T.F.cell 1
 have f2 := HU2.out.T.F.cell 2
 have fl := HU2.out.T.F.lt
 go_wp2_with fail
 refine (copyFount_any f _ w2 HU2.out.T.S (by have := HSM.out.1; omega)).mono ?_
 rintro e wa1 ⟨vf1, rfl, hso, hba⟩
 have HSO1 := Lib.hid (hso.sov HSZ.out)
 have HA1 := Lib.hid (HU2.out.step hba)
 obtain ⟨Af1, cf1, rfl⟩ := HSO1.out.shape
 clear hso hba f0 f1 f2 fl
 have HCW1 := Lib.hid (copyWords_any ws _ wa1 HA1.out.V (by have := HSM.out.2.1; omega) (fun i hi => by have := HSM.out.2.2 i hi; omega))
 go_wp2_with fail
 refine HCW1.out.mono ?_
 rintro e wb1 ⟨vc1, hd1, rfl, hs, hbb⟩
 have HWV1 := Lib.hid hs.wov
 obtain ⟨Ac1, cc1, rfl, -⟩ := HWV1.out.shape
 have HSV1 := Lib.hid (HSO1.out.below hbb)
 have HB1 := Lib.hid (HA1.out.step hbb)
 clear hs hbb HCW1 HSO1 HA1
 have HC1 := Lib.hid (checkWords_any f _ ws _ wb1 HSV1.out hn HWV1.out)
 go_wp2_with fail
 refine HC1.out.mono ?_
 rintro e w3 ⟨rfl, hb3⟩
 have HU3 := Lib.hid (HB1.out.step hb3)
 clear hb3 HB1 HSV1 HWV1 HC1 HU2
 have f0 := HU3.out.T.F.cell 0
 have f1 := HU3.out.T.F.cell 1
 have f2 := HU3.out.T.F.cell 2
 have fl := HU3.out.T.F.lt
 go_wp2_with fail
 refine (copyFount_any f _ w3 HU3.out.T.S (by have := HSM.out.1; omega)).mono ?_
 rintro e wa2 ⟨vf2, rfl, hso, hba⟩
 have HSO2 := Lib.hid (hso.sov HSZ.out)
 have HA2 := Lib.hid (HU3.out.step hba)
 obtain ⟨Af2, cf2, rfl⟩ := HSO2.out.shape
 clear hso hba f0 f1 f2 fl
 have HCW2 := Lib.hid (copyWords_any ws _ wa2 HA2.out.V (by have := HSM.out.2.1; omega) (fun i hi => by have := HSM.out.2.2 i hi; omega))
 go_wp2_with fail
 refine HCW2.out.mono ?_
 rintro e wb2 ⟨vc2, hd2, rfl, hs, hbb⟩
 have HWV2 := Lib.hid hs.wov
 obtain ⟨Ac2, cc2, rfl, -⟩ := HWV2.out.shape
 have HSV2 := Lib.hid (HSO2.out.below hbb)
 have HB2 := Lib.hid (HA2.out.step hbb)
 clear hs hbb HCW2 HSO2 HA2
 have HC2 := Lib.hid (places_any f _ ws _ wb2 HSV2.out hn HWV2.out)
 go_wp2_with fail
 refine HC2.out.mono ?_
 rintro e w4 ⟨hb4, hpo⟩
 have HU4 := Lib.hid (HB2.out.step hb4)
 clear hb4 HB2 HSV2 HWV2 HC2 HU3
 have HRW := Lib.hid (refWords_any f _ ws _ w4 HU4.out.T.S hn HU4.out.V)
 have HWO : Hid ((wsErr f ws).2 = 0 → WsOk f.sorts.length ws ∧ ws.length ≤ 200 ∧ (places ws).length ≤ 300) := (show _ → _ from fun h => ⟨(wsErr_ok h).2.1, (wsErr_ok h).2.2.2.1, (wsErr_ok h).2.2.2.2⟩)
 obtain ⟨we, hwe⟩ : ∃ x, wsErr f ws = x := ⟨_, rfl⟩
 rw [hwe] at HRW HWO hpo ⊢
 obtain ⟨e1, e2⟩ := we
 have HRW2 : Hid (∀ e W, ErPost (e1, e2) w4 e W → e = .returned (.tuple #[.int .i64 e1, .int .i64 e2]) ∧ Below w4.heap.size w4 W) := (show ∀ e W, _ from fun e W h => h)
 clear hwe
 rcases hpo with ⟨h0, rfl⟩ | ⟨h0, vp, rfl, hpl⟩
 · have hbn := bne_t h0
   clear h0 HWO
   have f0 := HU4.out.T.F.cell 0
   have f1 := HU4.out.T.F.cell 1
   have f2 := HU4.out.T.F.cell 2
   have fl := HU4.out.T.F.lt
   go_wp2_with fail
   refine HRW.out.mono ?_
   intro e w5 h5
   obtain ⟨rfl, hb5⟩ := HRW2.out _ _ h5
   have HU5 := Lib.hid (HU4.out.step hb5)
   clear hb5 h5 HU4 HRW HRW2 f0 f1 f2 fl
   have HKS : Hid (∀ W, Below w5.heap.size w5 W → (W.cell? ⟨w.heap.size, 0, none⟩ = some (.string f.name) ∧ W.cell? ⟨w.heap.size, 1, none⟩ = some (.int .i64 f.body) ∧ W.cell? ⟨w.heap.size, 2, none⟩ = some (.slice A f.sorts.length c) ∧ W.cell? ⟨w.heap.size + 1, 0, none⟩ = some (.int .i64 r.measure) ∧ W.cell? ⟨w.heap.size + 1, 1, none⟩ = some (.int .i64 r.indent) ∧ W.cell? ⟨w.heap.size + 1, 2, none⟩ = some (.int .i64 r.least) ∧ W.cell? ⟨w.heap.size + 1, 3, none⟩ = some (.int .i64 r.most) ∧ W.cell? ⟨w.heap.size + 1, 4, none⟩ = some (.int .i64 r.gap) ∧ W.cell? ⟨w.heap.size + 1, 5, none⟩ = some (.int .i64 r.hyphen) ∧ W.cell? ⟨w.heap.size + 1, 6, none⟩ = some (.int .i64 r.single) ∧ W.cell? ⟨w.heap.size + 1, 7, none⟩ = some (.int .i64 r.double))) := (show ∀ W, _ from fun W hW => by
    have h1 := (HU5.out.step hW).T.F
    have h2 := (HU5.out.step hW).T.R
    exact ⟨h1.cell 0, h1.cell 1, h1.cell 2, h2.cell 0, h2.cell 1, h2.cell 2, h2.cell 3, h2.cell 4, h2.cell 5, h2.cell 6, h2.cell 7⟩)
   have HCF : Hid (∀ W, Below w5.heap.size w5 W → Calls Tryz.prog 25 #[.agg (fcs f (.slice A f.sorts.length c))] W (CfPost f W)) := (show ∀ W, _ from fun W hW => copyFount_any f _ W (HU5.out.step hW).T.S (by have := HSM.out.1; omega))
   have HCR : Hid (∀ W v', SoV W f.sorts v' → Calls Tryz.prog 28 #[.agg (fcs f v'), .agg (rcs r)] W (fun e W' => e = .returned (.int .i64 (ruErr f r)) ∧ Below W.heap.size W W')) := (show ∀ W v', _ from fun W v' h => checkRules_any f v' r W h hn)
   have HRR : Hid (∀ W, Below w5.heap.size w5 W → Calls Tryz.prog 29 #[.agg (fcs f (.slice A f.sorts.length c)), .agg (rcs r)] W (fun e W' => e = .returned (.int .i64 (ruErr f r)) ∧ Below W.heap.size W W')) := (show ∀ W, _ from fun W hW => refRules_any f _ r W (HU5.out.step hW).T.S hn)
   generalize ruErr f r = re at *
   have hbd : Below w5.heap.size w5 w5.drew := (Below.refl _ _).drew
   have hS0 := HKS.out _ hbd
   go_upto_region 8 with fail
   go_cut [65] (fun s65 wx => s65 = .bool false ∧ Hid (Below w5.heap.size w5 wx))
   case first =>
    go_region_held3 (fun W => (W.cell? ⟨w.heap.size, 0, none⟩ = some (.string f.name) ∧ W.cell? ⟨w.heap.size, 1, none⟩ = some (.int .i64 f.body) ∧ W.cell? ⟨w.heap.size, 2, none⟩ = some (.slice A f.sorts.length c) ∧ W.cell? ⟨w.heap.size + 1, 0, none⟩ = some (.int .i64 r.measure) ∧ W.cell? ⟨w.heap.size + 1, 1, none⟩ = some (.int .i64 r.indent) ∧ W.cell? ⟨w.heap.size + 1, 2, none⟩ = some (.int .i64 r.least) ∧ W.cell? ⟨w.heap.size + 1, 3, none⟩ = some (.int .i64 r.most) ∧ W.cell? ⟨w.heap.size + 1, 4, none⟩ = some (.int .i64 r.gap) ∧ W.cell? ⟨w.heap.size + 1, 5, none⟩ = some (.int .i64 r.hyphen) ∧ W.cell? ⟨w.heap.size + 1, 6, none⟩ = some (.int .i64 r.single) ∧ W.cell? ⟨w.heap.size + 1, 7, none⟩ = some (.int .i64 r.double)))
    (first | exact hS0 | exact HKS.out _ hbC | exact HKS.out _ hbB | exact HKS.out _ hbA | go_keep)
    ((first
      | (go_at_call 25; (with_reducible refine (HCF.out _ (by first | exact hbC | exact hbd)).mono ?_); rintro e wA ⟨vA, rfl, hsoA, hbA'⟩
         have hbA : Below w5.heap.size w5 wA := (by first | exact hbC.trans (hbA'.mono (by exact hbC.size)) | exact hbd.trans (hbA'.mono (by exact hbd.size)))
         have HSA := Lib.hid (hsoA.sov HSZ.out)
         obtain ⟨AA, cA, rfl⟩ := HSA.out.shape)
      | (go_at_call 28; (with_reducible refine (HCR.out _ _ (by first | exact HSA.out | exact HSA.out.below hbC')).mono ?_); rintro e wB ⟨rfl, hbB'⟩
         have hbB : Below w5.heap.size w5 wB := (by first | exact hbC.trans (hbB'.mono (by exact hbC.size)) | exact hbA.trans (hbB'.mono (by exact hbA.size))))
      | (go_at_call 29; (with_reducible refine (HRR.out _ (by first | exact hbB | exact hbA | exact hbd)).mono ?_); rintro e wC ⟨rfl, hbC'⟩
         have hbC : Below w5.heap.size w5 wC := (by first | exact hbB.trans (hbC'.mono (by exact hbB.size)) | exact hbA.trans (hbC'.mono (by exact hbA.size)) | exact hbd.trans (hbC'.mono (by exact hbd.size))))))
    all_goals (go_wp2_with fail; go_meet; exact ⟨rfl, by first | exact hbC | exact hbB⟩)
   case rest =>
    obtain ⟨rfl, HBC⟩ := hcut
    have HU6 := Lib.hid (HU5.out.step HBC.out)
    clear HU5 HBC HKS HCF HCR HRR hbd hS0
    go_wp2_with fail
    go_ret
    exact HP.out _ HU6.out.T.B
 · subst h0
   have hok := HWO.out rfl
   have HOK := Lib.hid hok.1
   have hn2 := hok.2.1
   have hn3 := hok.2.2
   obtain ⟨Ap, cp, rfl, -, -⟩ := hpl.shape
   have HPL := Lib.hid hpl
   clear hpl hok HWO
   have f0 := HU4.out.T.F.cell 0
   have f1 := HU4.out.T.F.cell 1
   have f2 := HU4.out.T.F.cell 2
   have fl := HU4.out.T.F.lt
   go_wp2_with fail
   refine HRW.out.mono ?_
   intro e w5 h5
   obtain ⟨rfl, hb5⟩ := HRW2.out _ _ h5
   have HPL5 := Lib.hid (HPL.out.below hb5)
   have HU5 := Lib.hid (HU4.out.step hb5)
   clear hb5 h5 HU4 HRW HRW2 HPL f0 f1 f2 fl
   have HKS : Hid (∀ W, Below w5.heap.size w5 W → (W.cell? ⟨w.heap.size, 0, none⟩ = some (.string f.name) ∧ W.cell? ⟨w.heap.size, 1, none⟩ = some (.int .i64 f.body) ∧ W.cell? ⟨w.heap.size, 2, none⟩ = some (.slice A f.sorts.length c) ∧ W.cell? ⟨w.heap.size + 1, 0, none⟩ = some (.int .i64 r.measure) ∧ W.cell? ⟨w.heap.size + 1, 1, none⟩ = some (.int .i64 r.indent) ∧ W.cell? ⟨w.heap.size + 1, 2, none⟩ = some (.int .i64 r.least) ∧ W.cell? ⟨w.heap.size + 1, 3, none⟩ = some (.int .i64 r.most) ∧ W.cell? ⟨w.heap.size + 1, 4, none⟩ = some (.int .i64 r.gap) ∧ W.cell? ⟨w.heap.size + 1, 5, none⟩ = some (.int .i64 r.hyphen) ∧ W.cell? ⟨w.heap.size + 1, 6, none⟩ = some (.int .i64 r.single) ∧ W.cell? ⟨w.heap.size + 1, 7, none⟩ = some (.int .i64 r.double))) := (show ∀ W, _ from fun W hW => by
    have h1 := (HU5.out.step hW).T.F
    have h2 := (HU5.out.step hW).T.R
    exact ⟨h1.cell 0, h1.cell 1, h1.cell 2, h2.cell 0, h2.cell 1, h2.cell 2, h2.cell 3, h2.cell 4, h2.cell 5, h2.cell 6, h2.cell 7⟩)
   have HCF : Hid (∀ W, Below w5.heap.size w5 W → Calls Tryz.prog 25 #[.agg (fcs f (.slice A f.sorts.length c))] W (CfPost f W)) := (show ∀ W, _ from fun W hW => copyFount_any f _ W (HU5.out.step hW).T.S (by have := HSM.out.1; omega))
   have HCR : Hid (∀ W v', SoV W f.sorts v' → Calls Tryz.prog 28 #[.agg (fcs f v'), .agg (rcs r)] W (fun e W' => e = .returned (.int .i64 (ruErr f r)) ∧ Below W.heap.size W W')) := (show ∀ W v', _ from fun W v' h => checkRules_any f v' r W h hn)
   have HRR : Hid (∀ W, Below w5.heap.size w5 W → Calls Tryz.prog 29 #[.agg (fcs f (.slice A f.sorts.length c)), .agg (rcs r)] W (fun e W' => e = .returned (.int .i64 (ruErr f r)) ∧ Below W.heap.size W W')) := (show ∀ W, _ from fun W hW => refRules_any f _ r W (HU5.out.step hW).T.S hn)
   generalize ruErr f r = re at *
   have hbd : Below w5.heap.size w5 w5.drew := (Below.refl _ _).drew
   have hS0 := HKS.out _ hbd
   go_upto_region 8 with fail
   go_cut [65] (fun s65 wx => s65 = .bool false ∧ Hid (Below w5.heap.size w5 wx))
   case first =>
    go_region_held3 (fun W => (W.cell? ⟨w.heap.size, 0, none⟩ = some (.string f.name) ∧ W.cell? ⟨w.heap.size, 1, none⟩ = some (.int .i64 f.body) ∧ W.cell? ⟨w.heap.size, 2, none⟩ = some (.slice A f.sorts.length c) ∧ W.cell? ⟨w.heap.size + 1, 0, none⟩ = some (.int .i64 r.measure) ∧ W.cell? ⟨w.heap.size + 1, 1, none⟩ = some (.int .i64 r.indent) ∧ W.cell? ⟨w.heap.size + 1, 2, none⟩ = some (.int .i64 r.least) ∧ W.cell? ⟨w.heap.size + 1, 3, none⟩ = some (.int .i64 r.most) ∧ W.cell? ⟨w.heap.size + 1, 4, none⟩ = some (.int .i64 r.gap) ∧ W.cell? ⟨w.heap.size + 1, 5, none⟩ = some (.int .i64 r.hyphen) ∧ W.cell? ⟨w.heap.size + 1, 6, none⟩ = some (.int .i64 r.single) ∧ W.cell? ⟨w.heap.size + 1, 7, none⟩ = some (.int .i64 r.double)))
    (first | exact hS0 | exact HKS.out _ hbC | exact HKS.out _ hbB | exact HKS.out _ hbA | go_keep)
    ((first
      | (go_at_call 25; (with_reducible refine (HCF.out _ (by first | exact hbC | exact hbd)).mono ?_); rintro e wA ⟨vA, rfl, hsoA, hbA'⟩
         have hbA : Below w5.heap.size w5 wA := (by first | exact hbC.trans (hbA'.mono (by exact hbC.size)) | exact hbd.trans (hbA'.mono (by exact hbd.size)))
         have HSA := Lib.hid (hsoA.sov HSZ.out)
         obtain ⟨AA, cA, rfl⟩ := HSA.out.shape)
      | (go_at_call 28; (with_reducible refine (HCR.out _ _ (by first | exact HSA.out | exact HSA.out.below hbC')).mono ?_); rintro e wB ⟨rfl, hbB'⟩
         have hbB : Below w5.heap.size w5 wB := (by first | exact hbC.trans (hbB'.mono (by exact hbC.size)) | exact hbA.trans (hbB'.mono (by exact hbA.size))))
      | (go_at_call 29; (with_reducible refine (HRR.out _ (by first | exact hbB | exact hbA | exact hbd)).mono ?_); rintro e wC ⟨rfl, hbC'⟩
         have hbC : Below w5.heap.size w5 wC := (by first | exact hbB.trans (hbC'.mono (by exact hbB.size)) | exact hbA.trans (hbC'.mono (by exact hbA.size)) | exact hbd.trans (hbC'.mono (by exact hbd.size))))))
    all_goals (go_wp2_with fail; go_meet; exact ⟨rfl, by first | exact hbC | exact hbB⟩)
   case rest =>
    obtain ⟨rfl, HBC⟩ := hcut
    have HU6 := Lib.hid (HU5.out.step HBC.out)
    have HPL6 := Lib.hid (HPL5.out.below HBC.out)
    clear HPL5 HU5 HBC HKS HCF HCR HRR hbd hS0
    have HRP := Lib.hid (refPlaces_any f.sorts.length ws _ wc HU6.out.V HOK.out hn2)
    go_wp2_with fail
    refine HRP.out.mono ?_
    rintro e w7 ⟨vq, rfl, hq7, hb7, -⟩
    obtain ⟨Aq, cq, rfl, -, -⟩ := hq7.shape
    have HU7 := Lib.hid (HU6.out.step hb7)
    have HP7 := Lib.hid (HPL6.out.below hb7)
    have HQ7 := Lib.hid hq7
    clear hq7 hb7 HU6 HPL6 HRP HOK
    have HPC : Hid (∀ k, k < (places ws).length → ∃ b off b' off', Ap = some ⟨b, off, none⟩ ∧ Aq = some ⟨b', off', none⟩ ∧ b < w7.heap.size ∧ b' < w7.heap.size ∧ w7.cell? ⟨b, off + k * 2, none⟩ = some (.int .i64 ((gpl (places ws) k).1 : Int)) ∧ w7.cell? ⟨b, off + k * 2 + 1, none⟩ = some (.int .i64 ((gpl (places ws) k).2 : Int)) ∧ w7.cell? ⟨b', off' + k * 2, none⟩ = some (.int .i64 ((gpl (places ws) k).1 : Int)) ∧ w7.cell? ⟨b', off' + k * 2 + 1, none⟩ = some (.int .i64 ((gpl (places ws) k).2 : Int))) := (show ∀ k, _ from fun k hk => by
     obtain ⟨b, off, h1, h2, h3, h4⟩ := HP7.out.at hk
     obtain ⟨b', off', h5, h6, h7, h8⟩ := HQ7.out.at hk
     exact ⟨b, off, b', off', h1, h5, h2, h6, h3, h4, h7, h8⟩)
    clear HP7 HQ7
    generalize hN : (places ws).length = N at *
    clear hN
    go_wp2_with fail
    go_loopg [14] N (fun gg s14 wr => ∃ k : Nat, k ≤ N ∧ N - k ≤ gg ∧ s14 = .int .i64 (k : Int) ∧ Hid (Below w7.heap.size w7 wr))
    case atStart => exact ⟨0, by omega, by omega, rfl, Below.refl _ _⟩
    case round =>
     obtain ⟨k, hk, hg, rfl, HB⟩ := hrel
     by_cases hlt : k < N
     · have hltz : (k : Int) < (N : Int) := by omega
       obtain ⟨b, off, b', off', rfl, rfl, h1, h2, h3, h4, h5, h6⟩ := HPC.out k hlt
       have z3 := (HB.out.cell (p := ⟨b, off + k * 2, none⟩) h1).trans h3
       have z4 := (HB.out.cell (p := ⟨b, off + k * 2 + 1, none⟩) h1).trans h4
       have z5 := (HB.out.cell (p := ⟨b', off' + k * 2, none⟩) h2).trans h5
       have z6 := (HB.out.cell (p := ⟨b', off' + k * 2 + 1, none⟩) h2).trans h6
       have z1 : b < wr.heap.size := Nat.lt_of_lt_of_le h1 HB.out.size
       have z2 : b' < wr.heap.size := Nat.lt_of_lt_of_le h2 HB.out.size
       clear h1 h2 h3 h4 h5 h6
       generalize ((gpl (places ws) k).1 : Int) = x1 at *
       generalize ((gpl (places ws) k).2 : Int) = x2 at *
       go_wp2_with fail
       go_quiet (fail)
       have HBN := Lib.hid (HB.out.trans ((below_drewN wr nq).mono HB.out.size))
       go_wp2_with fail
       go_roundg (N - (k + 1))
       case measure => omega
       case rel => exact ⟨k + 1, by omega, by omega, by go_num, HBN.out⟩
     · have hltz : ¬ (k : Int) < (N : Int) := by omega
       have HBX := Lib.hid (HU7.out.step HB.out).T.B
       go_wp2_with fail
       go_ret
       exact HP.out _ HBX.out
end Go.Proofs.YtbnganlfelgogaaGreat
