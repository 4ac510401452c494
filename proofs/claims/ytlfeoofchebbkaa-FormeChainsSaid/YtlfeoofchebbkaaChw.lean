/- FormeChains: CheckChain returns the length of a chain, or the errors, for any pieces; no chain is longer than the longest one, which it confirms. -/
import Derived.Test.YtlfeoofchebbkaaRch
import Derived.Test.YtlfeoofchebbkaaChq
namespace Go.Proofs.Ytlfeoofchebbkaa
set_option linter.unusedSimpArgs false
set_option linter.unusedVariables false
open Go.RowKit
theorem checkC_zero {f : Forme} {r : Real} (hs : (shapedF f r).2 = 0) (zs : List Int) (dn : Bool) : checkC f r zs dn = chainC (dirOf f r dn) f.ps.length zs := by unfold checkC; rw [if_neg (by simp [hs])]
theorem checkC_not {f : Forme} {r : Real} (hs : (shapedF f r).2 ≠ 0) (zs : List Int) (dn : Bool) : checkC f r zs dn = (0, (shapedF f r).2) := by unfold checkC; rw [if_pos hs]
theorem chainAt_good {f : Forme} {r : Real} (hs : (shapedF f r).2 = 0) (hnm : NameOk f.ps) (hm : f.ps.length ≤ 100) (dn : Bool) {l : List Nat} (h : (dirOf f r dn).IsChain (dirOf f r dn).maxT (-1) l) :
    ∀ (W : World) (vf vr v : Value), FormeAt W f vf → RealAt W r vr → IntsV W (zl l) v → Calls Try.prog 50 #[vf, vr, .agg #[v, .bool dn]] W fun e w' => e = .returned (.tuple #[.int .i64 (dirOf f r dn).maxT, .int .i64 0]) ∧ Below W.heap.size W w' := by
  intro W vf vr v hf hr hv
  obtain ⟨wf, fu, hn⟩ := dirOf_wf (shaped_zero hs) dn
  have hp := (Dir.chain_whole wf fu h).2.1
  have hl := path_short wf hp
  have hc := chain_good' wf fu h
  have := checkChain_at f r (zl l) dn hnm (by omega) (by rw [zl_len]; omega) W vf vr v hf hr hv
  rw [checkC_zero hs, ← hn, hc] at this
  exact this
set_option maxRecDepth 100000 in
set_option maxHeartbeats 8000000 in
theorem chains_any (f : Forme) (r : Real) (zs : List Int) (dn : Bool) (A A1 A2 A3 Ac : Option Addr) (b off b1 o1 b2 o2 b3 o3 bc oc c c1 c2 c3 cc : Nat) (w : World) (h : FR w w.heap.size f r A A1 A2 A3 b off b1 o1 b2 o2 b3 o3) (hc : f.ps.length ≤ c) (hc1 : r.ws.length ≤ c1) (hc2 : r.hs.length ≤ c2) (hc3 : r.ts.length ≤ c3) (hm : c ≤ maxLen) (hm1 : c1 ≤ maxLen) (hm2 : c2 ≤ maxLen) (hm3 : c3 ≤ maxLen) (hA : Lies Ac zs.length w.heap.size bc oc) (hz : ZsAt w bc oc zs) (hm4 : cc ≤ maxLen) :
    Calls Try.prog 9 #[.agg #[.int .i64 f.W, .int .i64 f.H, .slice A f.ps.length c], .agg #[.slice A1 r.ws.length c1, .slice A2 r.hs.length c2, .slice A3 r.ts.length c3], .agg #[.slice Ac zs.length cc, .bool dn]] w fun e w' => e = .returned (.bool true) ∧ Below w.heap.size w w' := by
  obtain ⟨B0, F0, T0, P0, Z0⟩ := boxesT w #[.int .i64 f.W, .int .i64 f.H, .slice A f.ps.length c] #[.slice A1 r.ws.length c1, .slice A2 r.hs.length c2, .slice A3 r.ts.length c3] #[.slice Ac zs.length cc, .bool dn] 37 39 72
  have hHL : LX w _ f r zs dn A A1 A2 A3 Ac b off c b1 o1 c1 b2 o2 c2 b3 o3 c3 bc oc cc := { B := B0, F := ⟨F0.cell 0, F0.cell 1, F0.cell 2⟩, T := ⟨T0.cell 0, T0.cell 1, T0.cell 2⟩, R := h.below B0, z := by omega, P := P0, lc := hA, zc := fun j hj => (B0.cell (p := ⟨bc, _, none⟩) (hA (by omega)).2).trans (hz j hj), s := B0.size }
  unfold maxLen at hm hm1 hm2 hm3 hm4
  go_enter Try.func9, Try.ntmps9
  go_wp2_with fail
  generalize ((w.alloc (.cells #[.int .i64 f.W, .int .i64 f.H, .slice A f.ps.length c] 37)).alloc (.cells #[.slice A1 r.ws.length c1, .slice A2 r.hs.length c2, .slice A3 r.ts.length c3] 39)).alloc (.cells #[.slice Ac zs.length cc, .bool dn] 72) = W0 at *
  have HL0 := Lib.hid hHL
  clear hHL B0 F0 T0 P0 Z0 h hA hz
  refine (awake_any _).mono ?_
  rintro e W1 ⟨rfl, e1⟩
  have HL := Lib.hid (HL0.out.step e1)
  clear HL0 e1
  obtain ⟨a0, a1, a2, d0, d1, d2, p0, p1⟩ := HL.out.cells
  go_wp2_with fail
  refine (light_any f A b off c W1 HL.out.fr.la HL.out.fr.ps (by omega)).mono ?_
  rintro e W2 ⟨rfl, e1⟩
  have HL2 := Lib.hid (HL.out.step e1)
  clear HL e1 a0 a1 a2 d0 d1 d2 p0 p1
  obtain ⟨a0, a1, a2, d0, d1, d2, p0, p1⟩ := HL2.out.cells
  have HLT := Lib.hid (fun h => lightB_t (f := f) h)
  generalize lightB f = lb at *
  cases lb with
  | false =>
    go_wp2_with fail
    go_ret
    exact ⟨rfl, HL2.out.B⟩
  | true =>
    obtain ⟨hnm, hlen⟩ := HLT.out rfl
    have HNM := Lib.hid hnm
    clear hnm HLT
    go_wp2_with fail
    refine (few_any r A1 A2 A3 c1 c2 c3 W2).mono ?_
    rintro e W3 ⟨rfl, e1⟩
    have HL := Lib.hid (HL2.out.step e1)
    clear HL2 e1 a0 a1 a2 d0 d1 d2 p0 p1
    obtain ⟨a0, a1, a2, d0, d1, d2, p0, p1⟩ := HL.out.cells
    have HLT := Lib.hid (fun h => fewB_t (r := r) h)
    generalize fewB r = lb at *
    cases lb with
    | false =>
      go_wp2_with fail
      go_ret
      exact ⟨rfl, HL.out.B⟩
    | true =>
      obtain ⟨hl1, hl2, hl3⟩ := HLT.out rfl
      clear HLT
      by_cases h15 : (15 : Int) < (zs.length : Int)
      · go_wp2_with fail
        go_ret
        exact ⟨rfl, HL.out.B⟩
      · have hzl : zs.length ≤ 15 := by omega
        by_cases hs : (shapedF f r).2 = 0
        · have hok := shaped_zero hs
          have H30 : Hid (AtCopies 30 f r (LongV (across f r.ws))) := fun W vf vr hf hr => (longA_at f r HNM.out (by omega) W vf vr hf hr).mono fun _ _ h => LgPost.yes (by rw [hs] at h; exact h)
          have H31 : Hid (AtCopies 31 f r (LongV (down f r.hs))) := fun W vf vr hf hr => (longD_at f r HNM.out (by omega) W vf vr hf hr).mono fun _ _ h => LgPost.yes (by rw [hs] at h; exact h)
          have H50 : Hid (∀ (W : World) (vf vr v : Value), FormeAt W f vf → RealAt W r vr → IntsV W zs v → Calls Try.prog 50 #[vf, vr, .agg #[v, .bool dn]] W fun e w' => e = .returned (.tuple #[.int .i64 (chainC (dirOf f r dn) f.ps.length zs).1, .int .i64 (chainC (dirOf f r dn) f.ps.length zs).2]) ∧ Below W.heap.size W w') := (show ∀ (W : World), _ from fun W vf vr v hf hr hv => by
            have := checkChain_at f r zs dn HNM.out (by omega) (by omega) W vf vr v hf hr hv
            rwa [checkC_zero hs] at this)
          have HA51 : Hid (dn = false → ∀ l, (across f r.ws).IsChain (across f r.ws).maxT (-1) l → (∀ (W : World) (vf vr v : Value), FormeAt W f vf → RealAt W r vr → IntsV W (zl l) v → Calls Try.prog 50 #[vf, vr, .agg #[v, .bool false]] W fun e w' => e = .returned (.tuple #[.int .i64 (across f r.ws).maxT, .int .i64 0]) ∧ Below W.heap.size W w')) := (show dn = false → _ from fun _ l hl => chainAt_good hs HNM.out (by omega) false hl)
          have HD51 : Hid (dn = true → ∀ l, (down f r.hs).IsChain (down f r.hs).maxT (-1) l → (∀ (W : World) (vf vr v : Value), FormeAt W f vf → RealAt W r vr → IntsV W (zl l) v → Calls Try.prog 50 #[vf, vr, .agg #[v, .bool true]] W fun e w' => e = .returned (.tuple #[.int .i64 (down f r.hs).maxT, .int .i64 0]) ∧ Below W.heap.size W w')) := (show dn = true → _ from fun _ l hl => chainAt_good hs HNM.out (by omega) true hl)
          have HMA : Hid (dn = false → (chainC (dirOf f r dn) f.ps.length zs).2 = 0 → (chainC (dirOf f r dn) f.ps.length zs).1 ≤ (across f r.ws).maxT) := (show dn = false → _ from fun e h => by
            subst e
            obtain ⟨wf, fu, hn⟩ := dirOf_wf hok false
            rw [← hn] at h ⊢
            exact chain_most wf h)
          have HMD : Hid (dn = true → (chainC (dirOf f r dn) f.ps.length zs).2 = 0 → (chainC (dirOf f r dn) f.ps.length zs).1 ≤ (down f r.hs).maxT) := (show dn = true → _ from fun e h => by
            subst e
            obtain ⟨wf, fu, hn⟩ := dirOf_wf hok true
            rw [← hn] at h ⊢
            exact chain_most wf h)
          have HS0 := Lib.hid hs
          have HRC : Hid (∀ W, LX w W f r zs dn A A1 A2 A3 Ac b off c b1 o1 c1 b2 o2 c2 b3 o3 c3 bc oc cc → Calls Try.prog 51 #[.agg #[.int .i64 f.W, .int .i64 f.H, .slice A f.ps.length c], .agg #[.slice A1 r.ws.length c1, .slice A2 r.hs.length c2, .slice A3 r.ts.length c3], .agg #[.slice Ac zs.length cc, .bool dn]] W fun e w' => e = .returned (.tuple #[.int .i64 (chainC (dirOf f r dn) f.ps.length zs).1, .int .i64 (chainC (dirOf f r dn) f.ps.length zs).2]) ∧ Below W.heap.size W w') := (show ∀ W, _ from fun W hW => by
            exact refChain_any f r zs dn A A1 A2 A3 Ac b off b1 o1 b2 o2 b3 o3 bc oc c c1 c2 c3 cc W hW.fr hok (hW.lc.mono hW.s) hW.zc (by omega))
          have HCA : Hid (∀ W, LX w W f r zs dn A A1 A2 A3 Ac b off c b1 o1 c1 b2 o2 c2 b3 o3 c3 bc oc cc → Calls Try.prog 33 #[.agg #[.int .i64 f.W, .int .i64 f.H, .slice A f.ps.length c], .agg #[.slice A1 r.ws.length c1, .slice A2 r.hs.length c2, .slice A3 r.ts.length c3]] W fun e w' => e = .returned (.tuple #[.int .i64 (shapedF f r).1, .int .i64 0]) ∧ Below W.heap.size W w') := (show ∀ W, _ from fun W hW => by
            have := checkAlone_any f r A A1 A2 A3 b off c b1 o1 c1 b2 o2 c2 b3 o3 c3 W hW.fr.la hW.fr.ps HNM.out hc (by omega) hW.fr.rr hc1 hc2 hc3
            rw [HS0.out] at this
            exact this)
          clear hok hs HS0
          generalize (chainC (dirOf f r dn) f.ps.length zs) = cv at *
          generalize across f r.ws = DA at *
          generalize down f r.hs = DD at *
          generalize (shapedF f r).1 = sp1 at *
          go_wp2_with fail
          have HCF := Lib.hid (copyF_at f A b off c W3.heap.size W3 HL.out.fr.la HL.out.fr.ps (by omega))
          have HCR := Lib.hid (copyR_at r A1 A2 A3 b1 o1 b2 o2 b3 o3 c1 c2 c3 W3.heap.size W3 HL.out.fr.rr (by omega) (by omega) (by omega))
          have HCI := Lib.hid (copyI_at zs Ac bc oc cc W3.heap.size W3 (HL.out.lc.mono HL.out.s) HL.out.zc (by omega))
          have HK : Hid (∀ W, Below W3.heap.size W3 W → (W.cell? ⟨w.heap.size, 0, none⟩ = some (.int .i64 f.W) ∧ W.cell? ⟨w.heap.size, 1, none⟩ = some (.int .i64 f.H) ∧ W.cell? ⟨w.heap.size, 2, none⟩ = some (.slice A f.ps.length c) ∧ W.cell? ⟨w.heap.size + 1, 0, none⟩ = some (.slice A1 r.ws.length c1) ∧ W.cell? ⟨w.heap.size + 1, 1, none⟩ = some (.slice A2 r.hs.length c2) ∧ W.cell? ⟨w.heap.size + 1, 2, none⟩ = some (.slice A3 r.ts.length c3) ∧ W.cell? ⟨w.heap.size + 1 + 1, 0, none⟩ = some (.slice Ac zs.length cc) ∧ W.cell? ⟨w.heap.size + 1 + 1, 1, none⟩ = some (.bool dn))) := fun W hW => (HL.out.step hW).cells
          have h0 : Below W3.heap.size W3 W3.drew := (Below.refl _ _).drew
          have H0 := Lib.hid h0
          have hS0 := HK.out W3.drew h0
          clear h0 a0 a1 a2 d0 d1 d2 p0 p1
          go_region_held3 (fun W => (W.cell? ⟨w.heap.size, 0, none⟩ = some (.int .i64 f.W) ∧ W.cell? ⟨w.heap.size, 1, none⟩ = some (.int .i64 f.H) ∧ W.cell? ⟨w.heap.size, 2, none⟩ = some (.slice A f.ps.length c) ∧ W.cell? ⟨w.heap.size + 1, 0, none⟩ = some (.slice A1 r.ws.length c1) ∧ W.cell? ⟨w.heap.size + 1, 1, none⟩ = some (.slice A2 r.hs.length c2) ∧ W.cell? ⟨w.heap.size + 1, 2, none⟩ = some (.slice A3 r.ts.length c3) ∧ W.cell? ⟨w.heap.size + 1 + 1, 0, none⟩ = some (.slice Ac zs.length cc) ∧ W.cell? ⟨w.heap.size + 1 + 1, 1, none⟩ = some (.bool dn)))
            (first
              | exact hS0
              | exact HK.out _ hb7
              | exact HK.out _ hb6
              | exact HK.out _ hb5
              | exact HK.out _ hb4
              | go_keep)
            (first
              | (go_at_call 28; (with_reducible refine (HCF.out _ H0.out (Nat.le_refl _)).mono ?_); rintro e w4 ⟨vf, rfl, hf4, hb4'⟩; have hb4 : Below W3.heap.size W3 w4 := H0.out.trans hb4')
              | (go_at_call 29; (with_reducible refine (HCR.out _ hb4 hb4.size).mono ?_); rintro e w5 ⟨vr, rfl, hr5, hb5'⟩; have hb5 : Below W3.heap.size W3 w5 := hb4.trans (hb5'.mono hb4.size))
              | (go_at_call 22; (with_reducible refine (HCI.out _ hb5 hb5.size).mono ?_); rintro e w6 ⟨vc, rfl, ⟨Ac', bc', cc', rfl, hc61, hc62, hc63, hc64⟩, hb6'⟩; have hc6 : IntsV w6 zs (.slice Ac' zs.length cc') := ⟨_, _, _, rfl, hc61, hc62, hc63, hc64⟩; have hb6 : Below W3.heap.size W3 w6 := hb5.trans (hb6'.mono hb5.size))
              | (go_at_call 50; (with_reducible refine (H50.out w6 vf vr _ ((hf4.below hb5').below hb6') (hr5.below hb6') hc6).mono ?_); rintro e W4 ⟨rfl, hb7'⟩; have hb7 : Below W3.heap.size W3 W4 := hb6.trans (hb7'.mono hb6.size)))
          have HLn := Lib.hid (HL.out.step hb7)
          clear HL HCF HCR HK H0 hS0 hb4 hb5 hb4' hb5' hb7 hb7' hf4 hr5 HCI hb6 hb6' hc6 hc61 hc62 hc63 hc64
          have HL := Lib.hid HLn.out
          clear HLn
          obtain ⟨a0, a1, a2, d0, d1, d2, p0, p1⟩ := HL.out.cells
          go_wp2_with fail
          refine (HCA.out W4 HL.out).mono ?_
          rintro e W5 ⟨rfl, e1⟩
          have HL5 := Lib.hid (HL.out.step e1)
          clear HL e1 a0 a1 a2 d0 d1 d2 p0 p1
          obtain ⟨a0, a1, a2, d0, d1, d2, p0, p1⟩ := HL5.out.cells
          go_wp2_with fail
          refine (HRC.out W5 HL5.out).mono ?_
          rintro e W6 ⟨rfl, e1⟩
          have HL := Lib.hid (HL5.out.step e1)
          clear HL5 e1 a0 a1 a2 d0 d1 d2 p0 p1
          obtain ⟨a0, a1, a2, d0, d1, d2, p0, p1⟩ := HL.out.cells
          go_wp2_with fail

          have HCF := Lib.hid (copyF_at f A b off c W6.heap.size W6 HL.out.fr.la HL.out.fr.ps (by omega))
          have HCR := Lib.hid (copyR_at r A1 A2 A3 b1 o1 b2 o2 b3 o3 c1 c2 c3 W6.heap.size W6 HL.out.fr.rr (by omega) (by omega) (by omega))
          have HK : Hid (∀ W, Below W6.heap.size W6 W → (W.cell? ⟨w.heap.size, 0, none⟩ = some (.int .i64 f.W) ∧ W.cell? ⟨w.heap.size, 1, none⟩ = some (.int .i64 f.H) ∧ W.cell? ⟨w.heap.size, 2, none⟩ = some (.slice A f.ps.length c) ∧ W.cell? ⟨w.heap.size + 1, 0, none⟩ = some (.slice A1 r.ws.length c1) ∧ W.cell? ⟨w.heap.size + 1, 1, none⟩ = some (.slice A2 r.hs.length c2) ∧ W.cell? ⟨w.heap.size + 1, 2, none⟩ = some (.slice A3 r.ts.length c3) ∧ W.cell? ⟨w.heap.size + 1 + 1, 0, none⟩ = some (.slice Ac zs.length cc) ∧ W.cell? ⟨w.heap.size + 1 + 1, 1, none⟩ = some (.bool dn))) := fun W hW => (HL.out.step hW).cells
          have h0 : Below W6.heap.size W6 W6.drew := (Below.refl _ _).drew
          have H0 := Lib.hid h0
          have hS0 := HK.out W6.drew h0
          clear h0 a0 a1 a2 d0 d1 d2 p0 p1
          go_region_held3 (fun W => (W.cell? ⟨w.heap.size, 0, none⟩ = some (.int .i64 f.W) ∧ W.cell? ⟨w.heap.size, 1, none⟩ = some (.int .i64 f.H) ∧ W.cell? ⟨w.heap.size, 2, none⟩ = some (.slice A f.ps.length c) ∧ W.cell? ⟨w.heap.size + 1, 0, none⟩ = some (.slice A1 r.ws.length c1) ∧ W.cell? ⟨w.heap.size + 1, 1, none⟩ = some (.slice A2 r.hs.length c2) ∧ W.cell? ⟨w.heap.size + 1, 2, none⟩ = some (.slice A3 r.ts.length c3) ∧ W.cell? ⟨w.heap.size + 1 + 1, 0, none⟩ = some (.slice Ac zs.length cc) ∧ W.cell? ⟨w.heap.size + 1 + 1, 1, none⟩ = some (.bool dn)))
            (first
              | exact hS0
              | exact HK.out _ hb6
              | exact HK.out _ hb5
              | exact HK.out _ hb4
              | go_keep)
            (first
              | (go_at_call 28; (with_reducible refine (HCF.out _ H0.out (Nat.le_refl _)).mono ?_); rintro e w4 ⟨vf, rfl, hf4, hb4'⟩; have hb4 : Below W6.heap.size W6 w4 := H0.out.trans hb4')
              | (go_at_call 29; (with_reducible refine (HCR.out _ hb4 hb4.size).mono ?_); rintro e w5 ⟨vr, rfl, hr5, hb5'⟩; have hb5 : Below W6.heap.size W6 w5 := hb4.trans (hb5'.mono hb4.size))
              | (go_at_call 30; (with_reducible refine (H30.out w5 vf vr (hf4.below hb5') hr5).mono ?_); rintro e W7 ⟨la, va, rfl, hca, hva, hb6'⟩; have hb6 : Below W6.heap.size W6 W7 := hb5.trans (hb6'.mono hb5.size)))
          have HLn := Lib.hid (HL.out.step hb6)
          have HX6 := Lib.hid hb6
          have HVA := Lib.hid hva
          have HCA1 := Lib.hid hca
          clear hva hca
          clear HL HCF HCR HK H0 hS0 hb4 hb5 hb4' hb5' hb6 hb6' hf4 hr5
          have HL := Lib.hid HLn.out
          clear HLn
          obtain ⟨Av, bv, kv, rfl, v1, v2, v3, v4⟩ := HVA.out
          have HVAn : Hid (IntsV W7 (zl la) (.slice Av (zl la).length kv)) := ⟨_, _, _, rfl, v1, v2, v3, v4⟩
          clear HVA v1 v2 v3 v4
          have HVA := Lib.hid HVAn.out
          clear HVAn
          obtain ⟨a0, a1, a2, d0, d1, d2, p0, p1⟩ := HL.out.cells
          cases dn with
          | false =>
            as_aux_lemma =>
            go_wp2_with fail
            have HX := Lib.hid (HA51.out (by trivial) la HCA1.out)

            have HCF := Lib.hid (copyF_at f A b off c W7.heap.size W7 HL.out.fr.la HL.out.fr.ps (by omega))
            have HCR := Lib.hid (copyR_at r A1 A2 A3 b1 o1 b2 o2 b3 o3 c1 c2 c3 W7.heap.size W7 HL.out.fr.rr (by omega) (by omega) (by omega))
            have HK : Hid (∀ W, Below W7.heap.size W7 W → (W.cell? ⟨w.heap.size, 0, none⟩ = some (.int .i64 f.W) ∧ W.cell? ⟨w.heap.size, 1, none⟩ = some (.int .i64 f.H) ∧ W.cell? ⟨w.heap.size, 2, none⟩ = some (.slice A f.ps.length c) ∧ W.cell? ⟨w.heap.size + 1, 0, none⟩ = some (.slice A1 r.ws.length c1) ∧ W.cell? ⟨w.heap.size + 1, 1, none⟩ = some (.slice A2 r.hs.length c2) ∧ W.cell? ⟨w.heap.size + 1, 2, none⟩ = some (.slice A3 r.ts.length c3) ∧ W.cell? ⟨w.heap.size + 1 + 1, 0, none⟩ = some (.slice Ac zs.length cc) ∧ W.cell? ⟨w.heap.size + 1 + 1, 1, none⟩ = some (.bool false))) := fun W hW => (HL.out.step hW).cells
            have h0 : Below W7.heap.size W7 W7.drew := (Below.refl _ _).drew
            have H0 := Lib.hid h0
            have hS0 := HK.out W7.drew h0
            clear h0 a0 a1 a2 d0 d1 d2 p0 p1
            go_region_held3 (fun W => (W.cell? ⟨w.heap.size, 0, none⟩ = some (.int .i64 f.W) ∧ W.cell? ⟨w.heap.size, 1, none⟩ = some (.int .i64 f.H) ∧ W.cell? ⟨w.heap.size, 2, none⟩ = some (.slice A f.ps.length c) ∧ W.cell? ⟨w.heap.size + 1, 0, none⟩ = some (.slice A1 r.ws.length c1) ∧ W.cell? ⟨w.heap.size + 1, 1, none⟩ = some (.slice A2 r.hs.length c2) ∧ W.cell? ⟨w.heap.size + 1, 2, none⟩ = some (.slice A3 r.ts.length c3) ∧ W.cell? ⟨w.heap.size + 1 + 1, 0, none⟩ = some (.slice Ac zs.length cc) ∧ W.cell? ⟨w.heap.size + 1 + 1, 1, none⟩ = some (.bool false)))
              (first
                | exact hS0
                | exact HK.out _ hb7
                | exact HK.out _ hb6
                | exact HK.out _ hb5
                | exact HK.out _ hb4
                | go_keep)
              (first
                | (go_at_call 28; (with_reducible refine (HCF.out _ H0.out (Nat.le_refl _)).mono ?_); rintro e w4 ⟨vf, rfl, hf4, hb4'⟩; have hb4 : Below W7.heap.size W7 w4 := H0.out.trans hb4')
                | (go_at_call 29; (with_reducible refine (HCR.out _ hb4 hb4.size).mono ?_); rintro e w5 ⟨vr, rfl, hr5, hb5'⟩; have hb5 : Below W7.heap.size W7 w5 := hb4.trans (hb5'.mono hb4.size))
                | (go_at_call 50; (with_reducible refine (HX.out w5 vf vr _ (hf4.below hb5') hr5 (HVA.out.below hb5)).mono ?_); rintro e W8 ⟨rfl, hb7'⟩; have hb7 : Below W7.heap.size W7 W8 := hb5.trans (hb7'.mono hb5.size)))
            have HLn := Lib.hid (HL.out.step hb7)
            clear HL HCF HCR HK H0 hS0 hb4 hb5 hb4' hb5' hb7 hb7' hf4 hr5
            have HL := Lib.hid HLn.out
            clear HLn
            obtain ⟨a0, a1, a2, d0, d1, d2, p0, p1⟩ := HL.out.cells
            by_cases hd : cv.2 = 0
            · have hle : cv.1 ≤ DA.maxT := HMA.out (by trivial) hd
              have hd0 : (cv.2 != 0) = false := bne_f hd
              generalize cv.1 = n1 at *
              generalize cv.2 = d2 at *
              generalize DA.maxT = mt at *
              clear HMA HMD HA51 HD51 H30 H31 HRC HCA H50
              go_wp2_with fail
              go_ret
              exact ⟨ret_bool (by first | rfl | exact decide_eq_true hle), HL.out.B⟩
            · have hd0 : (cv.2 != 0) = true := bne_t hd
              generalize cv.1 = n1 at *
              generalize cv.2 = d2 at *
              generalize DA.maxT = mt at *
              clear HMA HMD HA51 HD51 H30 H31 HRC HCA H50
              go_wp2_with fail
              go_ret
              exact ⟨rfl, HL.out.B⟩
          | true =>
            as_aux_lemma =>
            go_wp2_with fail

            have HCF := Lib.hid (copyF_at f A b off c W7.heap.size W7 HL.out.fr.la HL.out.fr.ps (by omega))
            have HCR := Lib.hid (copyR_at r A1 A2 A3 b1 o1 b2 o2 b3 o3 c1 c2 c3 W7.heap.size W7 HL.out.fr.rr (by omega) (by omega) (by omega))
            have HK : Hid (∀ W, Below W7.heap.size W7 W → (W.cell? ⟨w.heap.size, 0, none⟩ = some (.int .i64 f.W) ∧ W.cell? ⟨w.heap.size, 1, none⟩ = some (.int .i64 f.H) ∧ W.cell? ⟨w.heap.size, 2, none⟩ = some (.slice A f.ps.length c) ∧ W.cell? ⟨w.heap.size + 1, 0, none⟩ = some (.slice A1 r.ws.length c1) ∧ W.cell? ⟨w.heap.size + 1, 1, none⟩ = some (.slice A2 r.hs.length c2) ∧ W.cell? ⟨w.heap.size + 1, 2, none⟩ = some (.slice A3 r.ts.length c3) ∧ W.cell? ⟨w.heap.size + 1 + 1, 0, none⟩ = some (.slice Ac zs.length cc) ∧ W.cell? ⟨w.heap.size + 1 + 1, 1, none⟩ = some (.bool true))) := fun W hW => (HL.out.step hW).cells
            have h0 : Below W7.heap.size W7 W7.drew := (Below.refl _ _).drew
            have H0 := Lib.hid h0
            have hS0 := HK.out W7.drew h0
            clear h0 a0 a1 a2 d0 d1 d2 p0 p1
            go_region_held3 (fun W => (W.cell? ⟨w.heap.size, 0, none⟩ = some (.int .i64 f.W) ∧ W.cell? ⟨w.heap.size, 1, none⟩ = some (.int .i64 f.H) ∧ W.cell? ⟨w.heap.size, 2, none⟩ = some (.slice A f.ps.length c) ∧ W.cell? ⟨w.heap.size + 1, 0, none⟩ = some (.slice A1 r.ws.length c1) ∧ W.cell? ⟨w.heap.size + 1, 1, none⟩ = some (.slice A2 r.hs.length c2) ∧ W.cell? ⟨w.heap.size + 1, 2, none⟩ = some (.slice A3 r.ts.length c3) ∧ W.cell? ⟨w.heap.size + 1 + 1, 0, none⟩ = some (.slice Ac zs.length cc) ∧ W.cell? ⟨w.heap.size + 1 + 1, 1, none⟩ = some (.bool true)))
              (first
                | exact hS0
                | exact HK.out _ hb6
                | exact HK.out _ hb5
                | exact HK.out _ hb4
                | go_keep)
              (first
                | (go_at_call 28; (with_reducible refine (HCF.out _ H0.out (Nat.le_refl _)).mono ?_); rintro e w4 ⟨vf, rfl, hf4, hb4'⟩; have hb4 : Below W7.heap.size W7 w4 := H0.out.trans hb4')
                | (go_at_call 29; (with_reducible refine (HCR.out _ hb4 hb4.size).mono ?_); rintro e w5 ⟨vr, rfl, hr5, hb5'⟩; have hb5 : Below W7.heap.size W7 w5 := hb4.trans (hb5'.mono hb4.size))
                | (go_at_call 31; (with_reducible refine (H31.out w5 vf vr (hf4.below hb5') hr5).mono ?_); rintro e W8 ⟨ld, vd, rfl, hcd, hvd, hb6'⟩; have hb6 : Below W7.heap.size W7 W8 := hb5.trans (hb6'.mono hb5.size)))
            have HLn := Lib.hid (HL.out.step hb6)
            have HX6 := Lib.hid hb6
            have HVD := Lib.hid hvd
            have HCD1 := Lib.hid hcd
            clear hvd hcd
            clear HL HCF HCR HK H0 hS0 hb4 hb5 hb4' hb5' hb6 hb6' hf4 hr5
            have HL := Lib.hid HLn.out
            clear HLn
            obtain ⟨Ad, bd, kd, rfl, v1, v2, v3, v4⟩ := HVD.out
            have HVDn : Hid (IntsV W8 (zl ld) (.slice Ad (zl ld).length kd)) := ⟨_, _, _, rfl, v1, v2, v3, v4⟩
            clear HVD v1 v2 v3 v4
            have HVD := Lib.hid HVDn.out
            clear HVDn
            obtain ⟨a0, a1, a2, d0, d1, d2, p0, p1⟩ := HL.out.cells
            go_wp2_with fail
            have HX := Lib.hid (HD51.out (by trivial) ld HCD1.out)

            have HCF := Lib.hid (copyF_at f A b off c W8.heap.size W8 HL.out.fr.la HL.out.fr.ps (by omega))
            have HCR := Lib.hid (copyR_at r A1 A2 A3 b1 o1 b2 o2 b3 o3 c1 c2 c3 W8.heap.size W8 HL.out.fr.rr (by omega) (by omega) (by omega))
            have HK : Hid (∀ W, Below W8.heap.size W8 W → (W.cell? ⟨w.heap.size, 0, none⟩ = some (.int .i64 f.W) ∧ W.cell? ⟨w.heap.size, 1, none⟩ = some (.int .i64 f.H) ∧ W.cell? ⟨w.heap.size, 2, none⟩ = some (.slice A f.ps.length c) ∧ W.cell? ⟨w.heap.size + 1, 0, none⟩ = some (.slice A1 r.ws.length c1) ∧ W.cell? ⟨w.heap.size + 1, 1, none⟩ = some (.slice A2 r.hs.length c2) ∧ W.cell? ⟨w.heap.size + 1, 2, none⟩ = some (.slice A3 r.ts.length c3) ∧ W.cell? ⟨w.heap.size + 1 + 1, 0, none⟩ = some (.slice Ac zs.length cc) ∧ W.cell? ⟨w.heap.size + 1 + 1, 1, none⟩ = some (.bool true))) := fun W hW => (HL.out.step hW).cells
            have h0 : Below W8.heap.size W8 W8.drew := (Below.refl _ _).drew
            have H0 := Lib.hid h0
            have hS0 := HK.out W8.drew h0
            clear h0 a0 a1 a2 d0 d1 d2 p0 p1
            go_region_held3 (fun W => (W.cell? ⟨w.heap.size, 0, none⟩ = some (.int .i64 f.W) ∧ W.cell? ⟨w.heap.size, 1, none⟩ = some (.int .i64 f.H) ∧ W.cell? ⟨w.heap.size, 2, none⟩ = some (.slice A f.ps.length c) ∧ W.cell? ⟨w.heap.size + 1, 0, none⟩ = some (.slice A1 r.ws.length c1) ∧ W.cell? ⟨w.heap.size + 1, 1, none⟩ = some (.slice A2 r.hs.length c2) ∧ W.cell? ⟨w.heap.size + 1, 2, none⟩ = some (.slice A3 r.ts.length c3) ∧ W.cell? ⟨w.heap.size + 1 + 1, 0, none⟩ = some (.slice Ac zs.length cc) ∧ W.cell? ⟨w.heap.size + 1 + 1, 1, none⟩ = some (.bool true)))
              (first
                | exact hS0
                | exact HK.out _ hb7
                | exact HK.out _ hb6
                | exact HK.out _ hb5
                | exact HK.out _ hb4
                | go_keep)
              (first
                | (go_at_call 28; (with_reducible refine (HCF.out _ H0.out (Nat.le_refl _)).mono ?_); rintro e w4 ⟨vf, rfl, hf4, hb4'⟩; have hb4 : Below W8.heap.size W8 w4 := H0.out.trans hb4')
                | (go_at_call 29; (with_reducible refine (HCR.out _ hb4 hb4.size).mono ?_); rintro e w5 ⟨vr, rfl, hr5, hb5'⟩; have hb5 : Below W8.heap.size W8 w5 := hb4.trans (hb5'.mono hb4.size))
                | (go_at_call 50; (with_reducible refine (HX.out w5 vf vr _ (hf4.below hb5') hr5 (HVD.out.below hb5)).mono ?_); rintro e W9 ⟨rfl, hb7'⟩; have hb7 : Below W8.heap.size W8 W9 := hb5.trans (hb7'.mono hb5.size)))
            have HLn := Lib.hid (HL.out.step hb7)
            clear HL HCF HCR HK H0 hS0 hb4 hb5 hb4' hb5' hb7 hb7' hf4 hr5
            have HL := Lib.hid HLn.out
            clear HLn
            obtain ⟨a0, a1, a2, d0, d1, d2, p0, p1⟩ := HL.out.cells
            by_cases hd : cv.2 = 0
            · have hle : cv.1 ≤ DD.maxT := HMD.out (by trivial) hd
              have hd0 : (cv.2 != 0) = false := bne_f hd
              generalize cv.1 = n1 at *
              generalize cv.2 = d2 at *
              generalize DD.maxT = mt at *
              clear HMA HMD HA51 HD51 H30 H31 HRC HCA H50
              go_wp2_with fail
              go_ret
              exact ⟨ret_bool (by first | rfl | exact decide_eq_true hle), HL.out.B⟩
            · have hd0 : (cv.2 != 0) = true := bne_t hd
              generalize cv.1 = n1 at *
              generalize cv.2 = d2 at *
              generalize DD.maxT = mt at *
              clear HMA HMD HA51 HD51 H30 H31 HRC HCA H50
              go_wp2_with fail
              go_ret
              exact ⟨rfl, HL.out.B⟩
        · have H50 : Hid (∀ (W : World) (vf vr v : Value), FormeAt W f vf → RealAt W r vr → IntsV W zs v → Calls Try.prog 50 #[vf, vr, .agg #[v, .bool dn]] W fun e w' => e = .returned (.tuple #[.int .i64 0, .int .i64 (shapedF f r).2]) ∧ Below W.heap.size W w') := (show ∀ (W : World), _ from fun W vf vr v hf hr hv => by
            have := checkChain_at f r zs dn HNM.out (by omega) (by omega) W vf vr v hf hr hv
            rwa [checkC_not hs] at this)
          have HCA : Hid (∀ W, LX w W f r zs dn A A1 A2 A3 Ac b off c b1 o1 c1 b2 o2 c2 b3 o3 c3 bc oc cc → Calls Try.prog 33 #[.agg #[.int .i64 f.W, .int .i64 f.H, .slice A f.ps.length c], .agg #[.slice A1 r.ws.length c1, .slice A2 r.hs.length c2, .slice A3 r.ts.length c3]] W fun e w' => e = .returned (.tuple #[.int .i64 (shapedF f r).1, .int .i64 (shapedF f r).2]) ∧ Below W.heap.size W w') := (show ∀ W, _ from fun W hW => checkAlone_any f r A A1 A2 A3 b off c b1 o1 c1 b2 o2 c2 b3 o3 c3 W hW.fr.la hW.fr.ps HNM.out hc (by omega) hW.fr.rr hc1 hc2 hc3)
          have hs' := bne_t hs
          clear hs
          generalize shapedF f r = sp at *
          go_wp2_with fail
          have HCF := Lib.hid (copyF_at f A b off c W3.heap.size W3 HL.out.fr.la HL.out.fr.ps (by omega))
          have HCR := Lib.hid (copyR_at r A1 A2 A3 b1 o1 b2 o2 b3 o3 c1 c2 c3 W3.heap.size W3 HL.out.fr.rr (by omega) (by omega) (by omega))
          have HCI := Lib.hid (copyI_at zs Ac bc oc cc W3.heap.size W3 (HL.out.lc.mono HL.out.s) HL.out.zc (by omega))
          have HK : Hid (∀ W, Below W3.heap.size W3 W → (W.cell? ⟨w.heap.size, 0, none⟩ = some (.int .i64 f.W) ∧ W.cell? ⟨w.heap.size, 1, none⟩ = some (.int .i64 f.H) ∧ W.cell? ⟨w.heap.size, 2, none⟩ = some (.slice A f.ps.length c) ∧ W.cell? ⟨w.heap.size + 1, 0, none⟩ = some (.slice A1 r.ws.length c1) ∧ W.cell? ⟨w.heap.size + 1, 1, none⟩ = some (.slice A2 r.hs.length c2) ∧ W.cell? ⟨w.heap.size + 1, 2, none⟩ = some (.slice A3 r.ts.length c3) ∧ W.cell? ⟨w.heap.size + 1 + 1, 0, none⟩ = some (.slice Ac zs.length cc) ∧ W.cell? ⟨w.heap.size + 1 + 1, 1, none⟩ = some (.bool dn))) := fun W hW => (HL.out.step hW).cells
          have h0 : Below W3.heap.size W3 W3.drew := (Below.refl _ _).drew
          have H0 := Lib.hid h0
          have hS0 := HK.out W3.drew h0
          clear h0 a0 a1 a2 d0 d1 d2 p0 p1
          go_region_held3 (fun W => (W.cell? ⟨w.heap.size, 0, none⟩ = some (.int .i64 f.W) ∧ W.cell? ⟨w.heap.size, 1, none⟩ = some (.int .i64 f.H) ∧ W.cell? ⟨w.heap.size, 2, none⟩ = some (.slice A f.ps.length c) ∧ W.cell? ⟨w.heap.size + 1, 0, none⟩ = some (.slice A1 r.ws.length c1) ∧ W.cell? ⟨w.heap.size + 1, 1, none⟩ = some (.slice A2 r.hs.length c2) ∧ W.cell? ⟨w.heap.size + 1, 2, none⟩ = some (.slice A3 r.ts.length c3) ∧ W.cell? ⟨w.heap.size + 1 + 1, 0, none⟩ = some (.slice Ac zs.length cc) ∧ W.cell? ⟨w.heap.size + 1 + 1, 1, none⟩ = some (.bool dn)))
            (first
              | exact hS0
              | exact HK.out _ hb7
              | exact HK.out _ hb6
              | exact HK.out _ hb5
              | exact HK.out _ hb4
              | go_keep)
            (first
              | (go_at_call 28; (with_reducible refine (HCF.out _ H0.out (Nat.le_refl _)).mono ?_); rintro e w4 ⟨vf, rfl, hf4, hb4'⟩; have hb4 : Below W3.heap.size W3 w4 := H0.out.trans hb4')
              | (go_at_call 29; (with_reducible refine (HCR.out _ hb4 hb4.size).mono ?_); rintro e w5 ⟨vr, rfl, hr5, hb5'⟩; have hb5 : Below W3.heap.size W3 w5 := hb4.trans (hb5'.mono hb4.size))
              | (go_at_call 22; (with_reducible refine (HCI.out _ hb5 hb5.size).mono ?_); rintro e w6 ⟨vc, rfl, ⟨Ac', bc', cc', rfl, hc61, hc62, hc63, hc64⟩, hb6'⟩; have hc6 : IntsV w6 zs (.slice Ac' zs.length cc') := ⟨_, _, _, rfl, hc61, hc62, hc63, hc64⟩; have hb6 : Below W3.heap.size W3 w6 := hb5.trans (hb6'.mono hb5.size))
              | (go_at_call 50; (with_reducible refine (H50.out w6 vf vr _ ((hf4.below hb5').below hb6') (hr5.below hb6') hc6).mono ?_); rintro e W4 ⟨rfl, hb7'⟩; have hb7 : Below W3.heap.size W3 W4 := hb6.trans (hb7'.mono hb6.size)))
          have HLn := Lib.hid (HL.out.step hb7)
          clear HL HCF HCR HK H0 hS0 hb4 hb5 hb4' hb5' hb7 hb7' hf4 hr5 HCI hb6 hb6' hc6 hc61 hc62 hc63 hc64
          have HL := Lib.hid HLn.out
          clear HLn
          obtain ⟨a0, a1, a2, d0, d1, d2, p0, p1⟩ := HL.out.cells
          go_wp2_with fail
          refine (HCA.out W4 HL.out).mono ?_
          rintro e W5 ⟨rfl, e1⟩
          have HL5 := Lib.hid (HL.out.step e1)
          clear HL e1 a0 a1 a2 d0 d1 d2 p0 p1
          go_wp2_with fail
          go_ret
          exact ⟨rfl, HL5.out.B⟩
end Go.Proofs.Ytlfeoofchebbkaa
