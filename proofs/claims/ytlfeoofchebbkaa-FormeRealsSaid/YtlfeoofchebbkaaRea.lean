/- FormeReals: CheckReal, LongestAcross and LongestDown return what the document specifies. -/
import Derived.Test.YtlfeoofchebbkaaLw
namespace Go.Proofs.Ytlfeoofchebbkaa
set_option linter.unusedSimpArgs false
set_option linter.unusedVariables false
open Go.RowKit
set_option maxRecDepth 100000 in
set_option maxHeartbeats 8000000 in
theorem reals_any (f : Forme) (r : Real) (A A1 A2 A3 : Option Addr) (b off b1 o1 b2 o2 b3 o3 c c1 c2 c3 : Nat) (w : World) (h : FR w w.heap.size f r A A1 A2 A3 b off b1 o1 b2 o2 b3 o3) (hc : f.ps.length ≤ c) (hc1 : r.ws.length ≤ c1) (hc2 : r.hs.length ≤ c2) (hc3 : r.ts.length ≤ c3) (hm : c ≤ maxLen) (hm1 : c1 ≤ maxLen) (hm2 : c2 ≤ maxLen) (hm3 : c3 ≤ maxLen) :
    Calls Try.prog 4 #[.agg #[.int .i64 f.W, .int .i64 f.H, .slice A f.ps.length c], .agg #[.slice A1 r.ws.length c1, .slice A2 r.hs.length c2, .slice A3 r.ts.length c3]] w fun e w' => e = .returned (.bool true) ∧ Below w.heap.size w w' := by
  obtain ⟨B0, F0, T0, Z0⟩ := boxes w f (.slice A f.ps.length c) (.slice A1 r.ws.length c1) (.slice A2 r.hs.length c2) (.slice A3 r.ts.length c3)
  have hHL : LW w _ f r A A1 A2 A3 b off c b1 o1 c1 b2 o2 c2 b3 o3 c3 := ⟨B0, F0, T0, h.below B0, by omega⟩
  unfold maxLen at hm hm1 hm2 hm3
  go_enter Try.func4, Try.ntmps4
  go_wp2_with fail
  generalize (w.alloc (.cells #[.int .i64 f.W, .int .i64 f.H, .slice A f.ps.length c] 37)).alloc (.cells #[.slice A1 r.ws.length c1, .slice A2 r.hs.length c2, .slice A3 r.ts.length c3] 39) = W0 at *
  have HL0 := Lib.hid hHL
  clear hHL B0 F0 T0 Z0 h
  refine (awake_any _).mono ?_
  rintro e W1 ⟨rfl, e1⟩
  have HL := Lib.hid (HL0.out.step e1)
  clear HL0 e1
  obtain ⟨a0, a1, a2, d0, d1, d2⟩ := HL.out.cells
  go_wp2_with fail
  refine (light_any f A b off c W1 HL.out.fr.la HL.out.fr.ps (by omega)).mono ?_
  rintro e W2 ⟨rfl, e1⟩
  have HL2 := Lib.hid (HL.out.step e1)
  clear HL e1 a0 a1 a2 d0 d1 d2
  obtain ⟨a0, a1, a2, d0, d1, d2⟩ := HL2.out.cells
  have HLT := Lib.hid (fun h => lightB_t (f := f) h)
  generalize lightB f = lb at *
  cases lb with
  | false =>
    go_wp2_with fail
    go_ret
    exact ⟨rfl, HL2.out.B⟩
  | true =>
    obtain ⟨hnm, hlen⟩ := HLT.out rfl
    have HNM := Lib.hid hnm
    clear hnm HLT
    go_wp2_with fail
    refine (few_any r A1 A2 A3 c1 c2 c3 W2).mono ?_
    rintro e W3 ⟨rfl, e1⟩
    have HL := Lib.hid (HL2.out.step e1)
    clear HL2 e1 a0 a1 a2 d0 d1 d2
    obtain ⟨a0, a1, a2, d0, d1, d2⟩ := HL.out.cells
    have HLT := Lib.hid (fun h => fewB_t (r := r) h)
    generalize fewB r = lb at *
    cases lb with
    | false =>
      go_wp2_with fail
      go_ret
      exact ⟨rfl, HL.out.B⟩
    | true =>
      obtain ⟨hl1, hl2, hl3⟩ := HLT.out rfl
      clear HLT
      have H27 := Lib.hid (checkReal_at f r HNM.out (by omega))
      go_wp2_with fail

      have HCF := Lib.hid (copyF_at f A b off c W3.heap.size W3 HL.out.fr.la HL.out.fr.ps (by omega))
      have HCR := Lib.hid (copyR_at r A1 A2 A3 b1 o1 b2 o2 b3 o3 c1 c2 c3 W3.heap.size W3 HL.out.fr.rr (by omega) (by omega) (by omega))
      have HK : Hid (∀ W, Below W3.heap.size W3 W → (W.cell? ⟨w.heap.size, 0, none⟩ = some (.int .i64 f.W) ∧ W.cell? ⟨w.heap.size, 1, none⟩ = some (.int .i64 f.H) ∧ W.cell? ⟨w.heap.size, 2, none⟩ = some (.slice A f.ps.length c) ∧ W.cell? ⟨w.heap.size + 1, 0, none⟩ = some (.slice A1 r.ws.length c1) ∧ W.cell? ⟨w.heap.size + 1, 1, none⟩ = some (.slice A2 r.hs.length c2) ∧ W.cell? ⟨w.heap.size + 1, 2, none⟩ = some (.slice A3 r.ts.length c3))) := fun W hW => (HL.out.step hW).cells
      have h0 : Below W3.heap.size W3 W3.drew := (Below.refl _ _).drew
      have H0 := Lib.hid h0
      have hS0 := HK.out W3.drew h0
      clear h0 a0 a1 a2 d0 d1 d2
      go_region_held3 (fun W => (W.cell? ⟨w.heap.size, 0, none⟩ = some (.int .i64 f.W) ∧ W.cell? ⟨w.heap.size, 1, none⟩ = some (.int .i64 f.H) ∧ W.cell? ⟨w.heap.size, 2, none⟩ = some (.slice A f.ps.length c) ∧ W.cell? ⟨w.heap.size + 1, 0, none⟩ = some (.slice A1 r.ws.length c1) ∧ W.cell? ⟨w.heap.size + 1, 1, none⟩ = some (.slice A2 r.hs.length c2) ∧ W.cell? ⟨w.heap.size + 1, 2, none⟩ = some (.slice A3 r.ts.length c3)))
        (first
          | exact hS0
          | exact HK.out _ hb6
          | exact HK.out _ hb5
          | exact HK.out _ hb4
          | go_keep)
        (first
          | (go_at_call 28; (with_reducible refine (HCF.out _ H0.out (Nat.le_refl _)).mono ?_); rintro e w4 ⟨vf, rfl, hf4, hb4'⟩; have hb4 : Below W3.heap.size W3 w4 := H0.out.trans hb4')
          | (go_at_call 29; (with_reducible refine (HCR.out _ hb4 hb4.size).mono ?_); rintro e w5 ⟨vr, rfl, hr5, hb5'⟩; have hb5 : Below W3.heap.size W3 w5 := hb4.trans (hb5'.mono hb4.size))
          | (go_at_call 27; (with_reducible refine (H27.out w5 vf vr (hf4.below hb5') hr5).mono ?_); rintro e W4 ⟨rfl, hb6'⟩; have hb6 : Below W3.heap.size W3 W4 := hb5.trans (hb6'.mono hb5.size)))
      have HLn := Lib.hid (HL.out.step hb6)
      have HX6 := Lib.hid hb6
      clear HL HCF HCR HK H0 hS0 hb4 hb5 hb4' hb5' hb6 hb6' hf4 hr5
      have HL := Lib.hid HLn.out
      clear HLn
      obtain ⟨a0, a1, a2, d0, d1, d2⟩ := HL.out.cells

      by_cases hs : (shapedF f r).2 = 0
      · have hok := shaped_zero hs
        have H30 : Hid (AtCopies 30 f r (LongV (across f r.ws))) := fun W vf vr hf hr => (longA_at f r HNM.out (by omega) W vf vr hf hr).mono fun _ _ h => LgPost.yes (by rw [hs] at h; exact h)
        have H31 : Hid (AtCopies 31 f r (LongV (down f r.hs))) := fun W vf vr hf hr => (longD_at f r HNM.out (by omega) W vf vr hf hr).mono fun _ _ h => LgPost.yes (by rw [hs] at h; exact h)
        have HS0 := Lib.hid hs
        have HOK := Lib.hid hok
        clear hok hs
        have HRC : Hid (∀ W, LW w W f r A A1 A2 A3 b off c b1 o1 c1 b2 o2 c2 b3 o3 c3 → Calls Try.prog 32 #[.agg #[.int .i64 f.W, .int .i64 f.H, .slice A f.ps.length c], .agg #[.slice A1 r.ws.length c1, .slice A2 r.hs.length c2, .slice A3 r.ts.length c3]] W fun e w' => e = .returned (.tuple #[.int .i64 (checkR f r).1, .int .i64 (checkR f r).2]) ∧ Below W.heap.size W w') := (show ∀ W, _ from fun W hW =>
          refCheckReal_any f r A A1 A2 A3 b off b1 o1 b2 o2 b3 o3 c c1 c2 c3 W hW.fr HNM.out hc (by omega) hc1 hc2 hc3)
        have HCA : Hid (∀ W, LW w W f r A A1 A2 A3 b off c b1 o1 c1 b2 o2 c2 b3 o3 c3 → Calls Try.prog 33 #[.agg #[.int .i64 f.W, .int .i64 f.H, .slice A f.ps.length c], .agg #[.slice A1 r.ws.length c1, .slice A2 r.hs.length c2, .slice A3 r.ts.length c3]] W fun e w' => e = .returned (.tuple #[.int .i64 (shapedF f r).1, .int .i64 0]) ∧ Below W.heap.size W w') := (show ∀ W, _ from fun W hW => by
          have := checkAlone_any f r A A1 A2 A3 b off c b1 o1 c1 b2 o2 c2 b3 o3 c3 W hW.fr.la hW.fr.ps HNM.out hc (by omega) hW.fr.rr hc1 hc2 hc3
          rw [HS0.out] at this
          exact this)
        have HLA : Hid (∀ W, LW w W f r A A1 A2 A3 b off c b1 o1 c1 b2 o2 c2 b3 o3 c3 → Calls Try.prog 34 #[.agg #[.int .i64 f.W, .int .i64 f.H, .slice A f.ps.length c], .slice A1 r.ws.length c1] W (LongRV (across f r.ws) W)) := (show ∀ W, _ from fun W hW => by
          have := refLongest_any f r.ws A A1 b off c b1 o1 c1 W hW.fr.la hW.fr.ps HOK.out.w HOK.out.uw (by omega) hW.fr.rr.l1 hW.fr.rr.z1
          rw [HOK.out.ws.len]
          exact this.mono fun _ _ h => h.v)
        have HLD : Hid (∀ W, LW w W f r A A1 A2 A3 b off c b1 o1 c1 b2 o2 c2 b3 o3 c3 → Calls Try.prog 35 #[.agg #[.int .i64 f.W, .int .i64 f.H, .slice A f.ps.length c], .agg #[.slice A1 r.ws.length c1, .slice A2 r.hs.length c2, .slice A3 r.ts.length c3]] W (LongRV (down f r.hs) W)) := (show ∀ W, _ from fun W hW =>
          (refLongestDown_any f r A A1 A2 A3 b off b1 o1 b2 o2 b3 o3 c c1 c2 c3 W hW.fr HOK.out).mono fun _ _ h => h.v)
        have HUA : Hid (∀ l l', (across f r.ws).IsChain (across f r.ws).maxT (-1) l → (across f r.ws).IsChain (across f r.ws).maxT (-1) l' → l = l') := fun _ _ h h' => h.uniq h'
        have HUD : Hid (∀ l l', (down f r.hs).IsChain (down f r.hs).maxT (-1) l → (down f r.hs).IsChain (down f r.hs).maxT (-1) l' → l = l') := fun _ _ h h' => h.uniq h'
        generalize across f r.ws = DA at *
        generalize down f r.hs = DD at *
        generalize checkR f r = cr at *
        generalize (shapedF f r).1 = sp1 at *
        go_wp2_with fail
        have HCF := Lib.hid (copyF_at f A b off c W4.heap.size W4 HL.out.fr.la HL.out.fr.ps (by omega))
        have HCR := Lib.hid (copyR_at r A1 A2 A3 b1 o1 b2 o2 b3 o3 c1 c2 c3 W4.heap.size W4 HL.out.fr.rr (by omega) (by omega) (by omega))
        have HK : Hid (∀ W, Below W4.heap.size W4 W → (W.cell? ⟨w.heap.size, 0, none⟩ = some (.int .i64 f.W) ∧ W.cell? ⟨w.heap.size, 1, none⟩ = some (.int .i64 f.H) ∧ W.cell? ⟨w.heap.size, 2, none⟩ = some (.slice A f.ps.length c) ∧ W.cell? ⟨w.heap.size + 1, 0, none⟩ = some (.slice A1 r.ws.length c1) ∧ W.cell? ⟨w.heap.size + 1, 1, none⟩ = some (.slice A2 r.hs.length c2) ∧ W.cell? ⟨w.heap.size + 1, 2, none⟩ = some (.slice A3 r.ts.length c3))) := fun W hW => (HL.out.step hW).cells
        have h0 : Below W4.heap.size W4 W4.drew := (Below.refl _ _).drew
        have H0 := Lib.hid h0
        have hS0 := HK.out W4.drew h0
        clear h0 a0 a1 a2 d0 d1 d2
        go_region_held3 (fun W => (W.cell? ⟨w.heap.size, 0, none⟩ = some (.int .i64 f.W) ∧ W.cell? ⟨w.heap.size, 1, none⟩ = some (.int .i64 f.H) ∧ W.cell? ⟨w.heap.size, 2, none⟩ = some (.slice A f.ps.length c) ∧ W.cell? ⟨w.heap.size + 1, 0, none⟩ = some (.slice A1 r.ws.length c1) ∧ W.cell? ⟨w.heap.size + 1, 1, none⟩ = some (.slice A2 r.hs.length c2) ∧ W.cell? ⟨w.heap.size + 1, 2, none⟩ = some (.slice A3 r.ts.length c3)))
          (first
            | exact hS0
            | exact HK.out _ hb6
            | exact HK.out _ hb5
            | exact HK.out _ hb4
            | go_keep)
          (first
            | (go_at_call 28; (with_reducible refine (HCF.out _ H0.out (Nat.le_refl _)).mono ?_); rintro e w4 ⟨vf, rfl, hf4, hb4'⟩; have hb4 : Below W4.heap.size W4 w4 := H0.out.trans hb4')
            | (go_at_call 29; (with_reducible refine (HCR.out _ hb4 hb4.size).mono ?_); rintro e w5 ⟨vr, rfl, hr5, hb5'⟩; have hb5 : Below W4.heap.size W4 w5 := hb4.trans (hb5'.mono hb4.size))
            | (go_at_call 30; (with_reducible refine (H30.out w5 vf vr (hf4.below hb5') hr5).mono ?_); rintro e W5 ⟨la, va, rfl, hca, hva, hb6'⟩; have hb6 : Below W4.heap.size W4 W5 := hb5.trans (hb6'.mono hb5.size)))
        have HLn := Lib.hid (HL.out.step hb6)
        have HX6 := Lib.hid hb6
        have HVA := Lib.hid hva
        have HCA1 := Lib.hid hca
        clear hva hca
        clear HL HCF HCR HK H0 hS0 hb4 hb5 hb4' hb5' hb6 hb6' hf4 hr5
        have HL := Lib.hid HLn.out
        clear HLn
        obtain ⟨a0, a1, a2, d0, d1, d2⟩ := HL.out.cells

        go_wp2_with fail

        have HCF := Lib.hid (copyF_at f A b off c W5.heap.size W5 HL.out.fr.la HL.out.fr.ps (by omega))
        have HCR := Lib.hid (copyR_at r A1 A2 A3 b1 o1 b2 o2 b3 o3 c1 c2 c3 W5.heap.size W5 HL.out.fr.rr (by omega) (by omega) (by omega))
        have HK : Hid (∀ W, Below W5.heap.size W5 W → (W.cell? ⟨w.heap.size, 0, none⟩ = some (.int .i64 f.W) ∧ W.cell? ⟨w.heap.size, 1, none⟩ = some (.int .i64 f.H) ∧ W.cell? ⟨w.heap.size, 2, none⟩ = some (.slice A f.ps.length c) ∧ W.cell? ⟨w.heap.size + 1, 0, none⟩ = some (.slice A1 r.ws.length c1) ∧ W.cell? ⟨w.heap.size + 1, 1, none⟩ = some (.slice A2 r.hs.length c2) ∧ W.cell? ⟨w.heap.size + 1, 2, none⟩ = some (.slice A3 r.ts.length c3))) := fun W hW => (HL.out.step hW).cells
        have h0 : Below W5.heap.size W5 W5.drew := (Below.refl _ _).drew
        have H0 := Lib.hid h0
        have hS0 := HK.out W5.drew h0
        clear h0 a0 a1 a2 d0 d1 d2
        go_region_held3 (fun W => (W.cell? ⟨w.heap.size, 0, none⟩ = some (.int .i64 f.W) ∧ W.cell? ⟨w.heap.size, 1, none⟩ = some (.int .i64 f.H) ∧ W.cell? ⟨w.heap.size, 2, none⟩ = some (.slice A f.ps.length c) ∧ W.cell? ⟨w.heap.size + 1, 0, none⟩ = some (.slice A1 r.ws.length c1) ∧ W.cell? ⟨w.heap.size + 1, 1, none⟩ = some (.slice A2 r.hs.length c2) ∧ W.cell? ⟨w.heap.size + 1, 2, none⟩ = some (.slice A3 r.ts.length c3)))
          (first
            | exact hS0
            | exact HK.out _ hb6
            | exact HK.out _ hb5
            | exact HK.out _ hb4
            | go_keep)
          (first
            | (go_at_call 28; (with_reducible refine (HCF.out _ H0.out (Nat.le_refl _)).mono ?_); rintro e w4 ⟨vf, rfl, hf4, hb4'⟩; have hb4 : Below W5.heap.size W5 w4 := H0.out.trans hb4')
            | (go_at_call 29; (with_reducible refine (HCR.out _ hb4 hb4.size).mono ?_); rintro e w5 ⟨vr, rfl, hr5, hb5'⟩; have hb5 : Below W5.heap.size W5 w5 := hb4.trans (hb5'.mono hb4.size))
            | (go_at_call 31; (with_reducible refine (H31.out w5 vf vr (hf4.below hb5') hr5).mono ?_); rintro e W6 ⟨ld, vd, rfl, hcd, hvd, hb6'⟩; have hb6 : Below W5.heap.size W5 W6 := hb5.trans (hb6'.mono hb5.size)))
        have HLn := Lib.hid (HL.out.step hb6)
        have HX6 := Lib.hid hb6
        have HVA6 := Lib.hid (HVA.out.below HX6.out)
        have HVD := Lib.hid hvd
        have HCD1 := Lib.hid hcd
        clear hvd hcd HVA
        clear HL HCF HCR HK H0 hS0 hb4 hb5 hb4' hb5' hb6 hb6' hf4 hr5
        have HL := Lib.hid HLn.out
        clear HLn
        obtain ⟨a0, a1, a2, d0, d1, d2⟩ := HL.out.cells

        go_wp2_with fail
        refine (HRC.out W6 HL.out).mono ?_
        rintro e W7 ⟨rfl, e1⟩
        have HL7 := Lib.hid (HL.out.step e1)
        have HVA7 := Lib.hid (HVA6.out.below e1)
        have HVD7 := Lib.hid (HVD.out.below e1)
        clear HL e1 HVA6 HVD a0 a1 a2 d0 d1 d2
        obtain ⟨a0, a1, a2, d0, d1, d2⟩ := HL7.out.cells
        go_wp2_with fail
        refine (HCA.out W7 HL7.out).mono ?_
        rintro e W8 ⟨rfl, e1⟩
        have HL8 := Lib.hid (HL7.out.step e1)
        have HVA8 := Lib.hid (HVA7.out.below e1)
        have HVD8 := Lib.hid (HVD7.out.below e1)
        clear HL7 e1 HVA7 HVD7 a0 a1 a2 d0 d1 d2
        obtain ⟨a0, a1, a2, d0, d1, d2⟩ := HL8.out.cells
        go_wp2_with fail
        refine (HLA.out W8 HL8.out).mono ?_
        rintro e W9 ⟨la', va', rfl, hca', hva', e1⟩
        have HL9 := Lib.hid (HL8.out.step e1)
        have HVA9 := Lib.hid (HVA8.out.below e1)
        have HVD9 := Lib.hid (HVD8.out.below e1)
        obtain rfl := HUA.out la la' HCA1.out hca'
        have HVR9 := Lib.hid hva'
        clear HL8 e1 HVA8 HVD8 hva' hca' a0 a1 a2 d0 d1 d2
        obtain ⟨a0, a1, a2, d0, d1, d2⟩ := HL9.out.cells
        go_wp2_with fail
        refine (HLD.out W9 HL9.out).mono ?_
        rintro e W10 ⟨ld', vd', rfl, hcd', hvd', e1⟩
        have HL10 := Lib.hid (HL9.out.step e1)
        have HVA10 := Lib.hid (HVA9.out.below e1)
        have HVD10 := Lib.hid (HVD9.out.below e1)
        have HVR10 := Lib.hid (HVR9.out.below e1)
        obtain rfl := HUD.out ld ld' HCD1.out hcd'
        have HVS10 := Lib.hid hvd'
        clear HL9 e1 HVA9 HVD9 HVR9 hvd' hcd' a0 a1 a2 d0 d1 d2
        go_wp2_with fail
        refine (intsV_any (zl la) (zl la) va va' W10 HVA10.out HVR10.out).mono ?_
        rintro e W11 ⟨rfl, e1⟩
        have HL11 := Lib.hid (HL10.out.step e1)
        have HVD11 := Lib.hid (HVD10.out.below e1)
        have HVS11 := Lib.hid (HVS10.out.below e1)
        clear HL10 e1 HVA10 HVD10 HVR10 HVS10
        rw [decide_eq_true (rfl : zl la = zl la)]
        go_wp2_with fail
        refine (intsV_any (zl ld) (zl ld) vd vd' W11 HVD11.out HVS11.out).mono ?_
        rintro e W12 ⟨rfl, e1⟩
        have HB12 := Lib.hid ((HL11.out.step e1).B)
        clear HL11 e1 HVD11 HVS11
        rw [decide_eq_true (rfl : zl ld = zl ld)]
        go_wp2_with fail
        go_ret
        exact ⟨rfl, HB12.out⟩
      · have H30 : Hid (AtCopies 30 f r (LongN (shapedF f r).2)) := fun W vf vr hf hr => (longA_at f r HNM.out (by omega) W vf vr hf hr).mono fun _ _ h => LgPost.no hs h
        have H31 : Hid (AtCopies 31 f r (LongN (shapedF f r).2)) := fun W vf vr hf hr => (longD_at f r HNM.out (by omega) W vf vr hf hr).mono fun _ _ h => LgPost.no hs h
        have hcr : checkR f r = shapedF f r := by unfold checkR; rw [if_pos hs]
        rw [hcr]
        have HCR' := Lib.hid hcr
        have hs' := bne_t hs
        clear hcr hs
        have HRC : Hid (∀ W, LW w W f r A A1 A2 A3 b off c b1 o1 c1 b2 o2 c2 b3 o3 c3 → Calls Try.prog 32 #[.agg #[.int .i64 f.W, .int .i64 f.H, .slice A f.ps.length c], .agg #[.slice A1 r.ws.length c1, .slice A2 r.hs.length c2, .slice A3 r.ts.length c3]] W fun e w' => e = .returned (.tuple #[.int .i64 (shapedF f r).1, .int .i64 (shapedF f r).2]) ∧ Below W.heap.size W w') := (show ∀ W, _ from fun W hW => by
          have := refCheckReal_any f r A A1 A2 A3 b off b1 o1 b2 o2 b3 o3 c c1 c2 c3 W hW.fr HNM.out hc (by omega) hc1 hc2 hc3
          rw [HCR'.out] at this
          exact this)
        have HCA : Hid (∀ W, LW w W f r A A1 A2 A3 b off c b1 o1 c1 b2 o2 c2 b3 o3 c3 → Calls Try.prog 33 #[.agg #[.int .i64 f.W, .int .i64 f.H, .slice A f.ps.length c], .agg #[.slice A1 r.ws.length c1, .slice A2 r.hs.length c2, .slice A3 r.ts.length c3]] W fun e w' => e = .returned (.tuple #[.int .i64 (shapedF f r).1, .int .i64 (shapedF f r).2]) ∧ Below W.heap.size W w') := (show ∀ W, _ from fun W hW =>
          checkAlone_any f r A A1 A2 A3 b off c b1 o1 c1 b2 o2 c2 b3 o3 c3 W hW.fr.la hW.fr.ps HNM.out hc (by omega) hW.fr.rr hc1 hc2 hc3)
        generalize shapedF f r = sp at *
        go_wp2_with fail
        have HCF := Lib.hid (copyF_at f A b off c W4.heap.size W4 HL.out.fr.la HL.out.fr.ps (by omega))
        have HCR := Lib.hid (copyR_at r A1 A2 A3 b1 o1 b2 o2 b3 o3 c1 c2 c3 W4.heap.size W4 HL.out.fr.rr (by omega) (by omega) (by omega))
        have HK : Hid (∀ W, Below W4.heap.size W4 W → (W.cell? ⟨w.heap.size, 0, none⟩ = some (.int .i64 f.W) ∧ W.cell? ⟨w.heap.size, 1, none⟩ = some (.int .i64 f.H) ∧ W.cell? ⟨w.heap.size, 2, none⟩ = some (.slice A f.ps.length c) ∧ W.cell? ⟨w.heap.size + 1, 0, none⟩ = some (.slice A1 r.ws.length c1) ∧ W.cell? ⟨w.heap.size + 1, 1, none⟩ = some (.slice A2 r.hs.length c2) ∧ W.cell? ⟨w.heap.size + 1, 2, none⟩ = some (.slice A3 r.ts.length c3))) := fun W hW => (HL.out.step hW).cells
        have h0 : Below W4.heap.size W4 W4.drew := (Below.refl _ _).drew
        have H0 := Lib.hid h0
        have hS0 := HK.out W4.drew h0
        clear h0 a0 a1 a2 d0 d1 d2
        go_region_held3 (fun W => (W.cell? ⟨w.heap.size, 0, none⟩ = some (.int .i64 f.W) ∧ W.cell? ⟨w.heap.size, 1, none⟩ = some (.int .i64 f.H) ∧ W.cell? ⟨w.heap.size, 2, none⟩ = some (.slice A f.ps.length c) ∧ W.cell? ⟨w.heap.size + 1, 0, none⟩ = some (.slice A1 r.ws.length c1) ∧ W.cell? ⟨w.heap.size + 1, 1, none⟩ = some (.slice A2 r.hs.length c2) ∧ W.cell? ⟨w.heap.size + 1, 2, none⟩ = some (.slice A3 r.ts.length c3)))
          (first
            | exact hS0
            | exact HK.out _ hb6
            | exact HK.out _ hb5
            | exact HK.out _ hb4
            | go_keep)
          (first
            | (go_at_call 28; (with_reducible refine (HCF.out _ H0.out (Nat.le_refl _)).mono ?_); rintro e w4 ⟨vf, rfl, hf4, hb4'⟩; have hb4 : Below W4.heap.size W4 w4 := H0.out.trans hb4')
            | (go_at_call 29; (with_reducible refine (HCR.out _ hb4 hb4.size).mono ?_); rintro e w5 ⟨vr, rfl, hr5, hb5'⟩; have hb5 : Below W4.heap.size W4 w5 := hb4.trans (hb5'.mono hb4.size))
            | (go_at_call 30; (with_reducible refine (H30.out w5 vf vr (hf4.below hb5') hr5).mono ?_); rintro e W5 ⟨rfl, hb6'⟩; have hb6 : Below W4.heap.size W4 W5 := hb5.trans (hb6'.mono hb5.size)))
        have HLn := Lib.hid (HL.out.step hb6)
        have HX6 := Lib.hid hb6
        clear HL HCF HCR HK H0 hS0 hb4 hb5 hb4' hb5' hb6 hb6' hf4 hr5
        have HL := Lib.hid HLn.out
        clear HLn
        obtain ⟨a0, a1, a2, d0, d1, d2⟩ := HL.out.cells

        go_wp2_with fail

        have HCF := Lib.hid (copyF_at f A b off c W5.heap.size W5 HL.out.fr.la HL.out.fr.ps (by omega))
        have HCR := Lib.hid (copyR_at r A1 A2 A3 b1 o1 b2 o2 b3 o3 c1 c2 c3 W5.heap.size W5 HL.out.fr.rr (by omega) (by omega) (by omega))
        have HK : Hid (∀ W, Below W5.heap.size W5 W → (W.cell? ⟨w.heap.size, 0, none⟩ = some (.int .i64 f.W) ∧ W.cell? ⟨w.heap.size, 1, none⟩ = some (.int .i64 f.H) ∧ W.cell? ⟨w.heap.size, 2, none⟩ = some (.slice A f.ps.length c) ∧ W.cell? ⟨w.heap.size + 1, 0, none⟩ = some (.slice A1 r.ws.length c1) ∧ W.cell? ⟨w.heap.size + 1, 1, none⟩ = some (.slice A2 r.hs.length c2) ∧ W.cell? ⟨w.heap.size + 1, 2, none⟩ = some (.slice A3 r.ts.length c3))) := fun W hW => (HL.out.step hW).cells
        have h0 : Below W5.heap.size W5 W5.drew := (Below.refl _ _).drew
        have H0 := Lib.hid h0
        have hS0 := HK.out W5.drew h0
        clear h0 a0 a1 a2 d0 d1 d2
        go_region_held3 (fun W => (W.cell? ⟨w.heap.size, 0, none⟩ = some (.int .i64 f.W) ∧ W.cell? ⟨w.heap.size, 1, none⟩ = some (.int .i64 f.H) ∧ W.cell? ⟨w.heap.size, 2, none⟩ = some (.slice A f.ps.length c) ∧ W.cell? ⟨w.heap.size + 1, 0, none⟩ = some (.slice A1 r.ws.length c1) ∧ W.cell? ⟨w.heap.size + 1, 1, none⟩ = some (.slice A2 r.hs.length c2) ∧ W.cell? ⟨w.heap.size + 1, 2, none⟩ = some (.slice A3 r.ts.length c3)))
          (first
            | exact hS0
            | exact HK.out _ hb6
            | exact HK.out _ hb5
            | exact HK.out _ hb4
            | go_keep)
          (first
            | (go_at_call 28; (with_reducible refine (HCF.out _ H0.out (Nat.le_refl _)).mono ?_); rintro e w4 ⟨vf, rfl, hf4, hb4'⟩; have hb4 : Below W5.heap.size W5 w4 := H0.out.trans hb4')
            | (go_at_call 29; (with_reducible refine (HCR.out _ hb4 hb4.size).mono ?_); rintro e w5 ⟨vr, rfl, hr5, hb5'⟩; have hb5 : Below W5.heap.size W5 w5 := hb4.trans (hb5'.mono hb4.size))
            | (go_at_call 31; (with_reducible refine (H31.out w5 vf vr (hf4.below hb5') hr5).mono ?_); rintro e W6 ⟨rfl, hb6'⟩; have hb6 : Below W5.heap.size W5 W6 := hb5.trans (hb6'.mono hb5.size)))
        have HLn := Lib.hid (HL.out.step hb6)
        have HX6 := Lib.hid hb6
        clear HL HCF HCR HK H0 hS0 hb4 hb5 hb4' hb5' hb6 hb6' hf4 hr5
        have HL := Lib.hid HLn.out
        clear HLn
        obtain ⟨a0, a1, a2, d0, d1, d2⟩ := HL.out.cells

        go_wp2_with fail
        refine (HRC.out W6 HL.out).mono ?_
        rintro e W7 ⟨rfl, e1⟩
        have HL7 := Lib.hid (HL.out.step e1)
        clear HL e1 a0 a1 a2 d0 d1 d2
        obtain ⟨a0, a1, a2, d0, d1, d2⟩ := HL7.out.cells

        go_wp2_with fail
        refine (HCA.out W7 HL7.out).mono ?_
        rintro e W8 ⟨rfl, e1⟩
        have HL8 := Lib.hid (HL7.out.step e1)
        clear HL7 e1 a0 a1 a2 d0 d1 d2
        go_wp2_with fail
        go_ret
        exact ⟨rfl, HL8.out.B⟩
end Go.Proofs.Ytlfeoofchebbkaa
