/- ref.LongestDown, ref.CheckReal. -/
import Derived.Test.YtlfeoofchebbkaaLgr
namespace Go.Proofs.Ytlfeoofchebbkaa
set_option linter.unusedSimpArgs false
set_option linter.unusedVariables false
open Go.RowKit
/-- The calls of swapped and of what is called with it, wherever memory stands. -/
theorem swap_call (f : Forme) (A : Option Addr) (b off c : Nat) (B : Nat) (W0 : World) (hA : Lies A f.ps.length B b off) (hps : PsAt W0 b off f.ps) (hf : f.Right) : ∀ W, Below B W0 W → B ≤ W.heap.size →
    Calls Try.prog 89 #[.agg #[.int .i64 f.W, .int .i64 f.H, .slice A f.ps.length c]] W fun e w' => ∃ A' b' c', e = .returned (.agg #[.int .i64 f.H, .int .i64 f.W, .slice A' f.ps.length c']) ∧ Lies A' f.ps.length w'.heap.size b' 0 ∧ PsAt w' b' 0 f.swapK.ps ∧ Below W.heap.size W w' := fun W hW hB => by
  have hml : f.swapK.ps.length = f.ps.length := by simp [Forme.swapK]
  refine (swapped_any f A b off c W (hA.mono hB) (fun j hj => (hps j hj).below hW (hA (by omega)).2) (fun i hi => by rw [gp_get hi]; exact hf.kind _ (List.getElem_mem hi)) (by have := hf.few; omega)).mono ?_
  rintro e w' ⟨v, rfl, ⟨A', b', c', rfl, k1, l1, p1, -⟩, b1⟩
  rw [hml] at l1 ⊢
  exact ⟨A', b', c', rfl, l1, p1, b1⟩
theorem down_long (f : Forme) (hs : List Int) (A2 : Option Addr) (b2 o2 c2 B : Nat) (W0 : World) (hf : f.Whole) (hz : Usable f hs) (hn : f.ps.length ≤ 1000) (hA2 : Lies A2 hs.length B b2 o2) (hz2 : ZsAt W0 b2 o2 hs) : ∀ W A' b' c', Below B W0 W → B ≤ W.heap.size → Lies A' f.ps.length W.heap.size b' 0 → PsAt W b' 0 f.swapK.ps →
    Calls Try.prog 34 #[.agg #[.int .i64 f.H, .int .i64 f.W, .slice A' f.ps.length c'], .slice A2 f.ps.length c2] W (LongPostR W (down f hs)) := fun W A' b' c' hW hB hl hp => by
  have hml : f.swapK.ps.length = f.ps.length := by simp [Forme.swapK]
  have h := refLongest_any f.swapK hs A' A2 b' 0 c' b2 o2 c2 W (by rw [hml]; exact hl) hp hf.swapK hz.swapK (by rw [hml]; exact hn) (hA2.mono hB) (ZsAt.mono' hA2 hz2 hW)
  rw [swapK_across, hml] at h
  exact h
theorem down_thru (f : Forme) (hs : List Int) (A2 : Option Addr) (b2 o2 c2 B : Nat) (W0 : World) (hf : f.Laid) (hz : Usable f hs) (hn : f.ps.length ≤ 1000) (hA2 : Lies A2 hs.length B b2 o2) (hz2 : ZsAt W0 b2 o2 hs) : ∀ W A' b' c', Below B W0 W → B ≤ W.heap.size → Lies A' f.ps.length W.heap.size b' 0 → PsAt W b' 0 f.swapK.ps →
    Calls Try.prog 94 #[.agg #[.int .i64 f.H, .int .i64 f.W, .slice A' f.ps.length c'], .slice A2 f.ps.length c2] W (ThruPost W (down f hs)) := fun W A' b' c' hW hB hl hp => by
  have hml : f.swapK.ps.length = f.ps.length := by simp [Forme.swapK]
  have h := thru_any f.swapK hs A' A2 b' 0 c' b2 o2 c2 W (by rw [hml]; exact hl) hp hf.swapK hz.swapK (by rw [hml]; exact hn) (hA2.mono hB) (ZsAt.mono' hA2 hz2 hW)
  rw [swapK_across, hml] at h
  exact h
set_option maxRecDepth 100000 in
set_option maxHeartbeats 2000000 in
theorem refLongestDown_any (f : Forme) (r : Real) (A A1 A2 A3 : Option Addr) (b off b1 o1 b2 o2 b3 o3 c c1 c2 c3 : Nat) (w : World) (h : FR w w.heap.size f r A A1 A2 A3 b off b1 o1 b2 o2 b3 o3) (hok : Okay f r) :
    Calls Try.prog 35 #[.agg #[.int .i64 f.W, .int .i64 f.H, .slice A f.ps.length c], .agg #[.slice A1 r.ws.length c1, .slice A2 r.hs.length c2, .slice A3 r.ts.length c3]] w (LongPostR w (down f r.hs)) := by
  have hfew := hok.right.few
  obtain ⟨B0, F0, T0, Z0⟩ := boxes w f (.slice A f.ps.length c) (.slice A1 r.ws.length c1) (.slice A2 r.hs.length c2) (.slice A3 r.ts.length c3)
  have hFR := (h.below B0).mono B0.size
  go_enter Try.func35, Try.ntmps35
  go_wp2_with fail
  generalize (w.alloc (.cells #[.int .i64 f.W, .int .i64 f.H, .slice A f.ps.length c] 37)).alloc (.cells #[.slice A1 r.ws.length c1, .slice A2 r.hs.length c2, .slice A3 r.ts.length c3] 39) = W0 at *
  have HSW := Lib.hid (swap_call f A b off c W0.heap.size W0 hFR.la hFR.ps hok.right)
  have HLG := Lib.hid (down_long f r.hs A2 b2 o2 c2 W0.heap.size W0 hok.w hok.uh (by omega) hFR.rr.l2 hFR.rr.z2)
  have hl2 : r.hs.length = f.ps.length := hok.hs.len
  rw [hl2]
  rw [hl2] at T0
  clear hl2 hFR h hok
  have HB0 := Lib.hid B0
  have hK : ∀ W, Below W0.heap.size W0 W → (W.cell? ⟨w.heap.size, 0, none⟩ = some (.int .i64 f.W) ∧ W.cell? ⟨w.heap.size, 1, none⟩ = some (.int .i64 f.H) ∧ W.cell? ⟨w.heap.size, 2, none⟩ = some (.slice A f.ps.length c) ∧ W.cell? ⟨w.heap.size + 1, 1, none⟩ = some (.slice A2 f.ps.length c2)) := fun W hW => by
    obtain ⟨x0, x1, x2⟩ := F0.below hW (by omega)
    obtain ⟨y0, y1, y2⟩ := T0.below hW (by omega)
    exact ⟨x0, x1, x2, y1⟩
  have HK := Lib.hid hK
  have h0 : Below W0.heap.size W0 W0.drew := (Below.refl _ _).drew
  have H0 := Lib.hid h0
  have hS0 := HK.out W0.drew h0
  clear hK h0 B0 F0 T0
  go_region_held3 (fun W => (W.cell? ⟨w.heap.size, 0, none⟩ = some (.int .i64 f.W) ∧ W.cell? ⟨w.heap.size, 1, none⟩ = some (.int .i64 f.H) ∧ W.cell? ⟨w.heap.size, 2, none⟩ = some (.slice A f.ps.length c) ∧ W.cell? ⟨w.heap.size + 1, 1, none⟩ = some (.slice A2 f.ps.length c2)))
    (first
      | exact hS0
      | exact HK.out _ hb5
      | exact HK.out _ hb4
      | go_keep)
    (first
      | (go_at_call 89; (with_reducible refine (HSW.out _ H0.out (Nat.le_refl _)).mono ?_); rintro e w4 ⟨A', b', c', rfl, hl4, hp4, hb4'⟩; have hb4 : Below W0.heap.size W0 w4 := H0.out.trans hb4')
      | (go_at_call 34; (with_reducible refine (HLG.out _ _ _ _ hb4 hb4.size hl4 hp4).mono ?_); rintro e w5 ⟨l, v, rfl, hch, hown, hb5'⟩; have hb5 : Below W0.heap.size W0 w5 := hb4.trans (hb5'.mono hb4.size)))
  have HF : Hid (LongPostR w (down f r.hs) (.returned (.tuple #[.int .i64 (down f r.hs).maxT, v])) w5) := ⟨l, v, rfl, hch, own_mono hown (Nat.le_trans HB0.out.size hb4.size), HB0.out.trans (hb5.mono HB0.out.size)⟩
  clear hown hch hb4 hb5 hb4' hb5' hS0 hl4 hp4 HSW HLG HK
  go_wp2_with fail
  go_ret2
  exact HF.out
set_option maxRecDepth 100000 in
set_option maxHeartbeats 4000000 in
theorem refCheckReal_any (f : Forme) (r : Real) (A A1 A2 A3 : Option Addr) (b off b1 o1 b2 o2 b3 o3 c c1 c2 c3 : Nat) (w : World) (h : FR w w.heap.size f r A A1 A2 A3 b off b1 o1 b2 o2 b3 o3) (hnm : NameOk f.ps) (hc : f.ps.length ≤ c) (hm : f.ps.length ≤ 9223372036854775807)
    (hc1 : r.ws.length ≤ c1) (hc2 : r.hs.length ≤ c2) (hc3 : r.ts.length ≤ c3) :
    Calls Try.prog 32 #[.agg #[.int .i64 f.W, .int .i64 f.H, .slice A f.ps.length c], .agg #[.slice A1 r.ws.length c1, .slice A2 r.hs.length c2, .slice A3 r.ts.length c3]] w
      fun e w' => e = .returned (.tuple #[.int .i64 (checkR f r).1, .int .i64 (checkR f r).2]) ∧ Below w.heap.size w w' := by
  have H := Lib.hid h
  clear h
  obtain ⟨B0, F0, T0, Z0⟩ := boxes w f (.slice A f.ps.length c) (.slice A1 r.ws.length c1) (.slice A2 r.hs.length c2) (.slice A3 r.ts.length c3)
  obtain ⟨f0, f1, f2⟩ := F0
  obtain ⟨t0, t1, t2⟩ := T0
  have hFF : FAt _ _ f (.slice A f.ps.length c) := ⟨f0, f1, f2⟩
  have hTT : TAt _ _ (.slice A1 r.ws.length c1) (.slice A2 r.hs.length c2) (.slice A3 r.ts.length c3) := ⟨t0, t1, t2⟩
  have F0 := Lib.hid hFF
  have T0 := Lib.hid hTT
  clear hFF hTT
  go_enter Try.func32, Try.ntmps32
  go_wp2_with fail
  generalize (w.alloc (.cells #[.int .i64 f.W, .int .i64 f.H, .slice A f.ps.length c] 37)).alloc (.cells #[.slice A1 r.ws.length c1, .slice A2 r.hs.length c2, .slice A3 r.ts.length c3] 39) = W0 at *
  have hFR := (H.out.below B0).mono B0.size
  refine (checkAlone_any f r A A1 A2 A3 b off c b1 o1 c1 b2 o2 c2 b3 o3 c3 W0 hFR.la hFR.ps hnm hc hm hFR.rr hc1 hc2 hc3).mono ?_
  rintro e w1 ⟨rfl, e1⟩
  have HB1 := Lib.hid (B0.trans (e1.mono B0.size))
  have HF1 := Lib.hid (F0.out.below e1 (by omega))
  have HT1 := Lib.hid (T0.out.below e1 (by omega))
  have hz1 : w.heap.size + 1 < w1.heap.size := by have := e1.size; omega
  clear B0 F0 T0 Z0 hFR e1 f0 f1 f2 t0 t1 t2
  by_cases hE : (shapedF f r).2 = 0
  · have hok := shaped_zero hE
    have HC : Hid (checkR f r = if (across f r.ws).maxT ≤ 60 * f.W ∧ (down f r.hs).maxT ≤ 60 * f.H then (0, 0) else (0, 26)) := by
      show _ = _; unfold checkR; rw [if_neg (by omega)]
    have h1 := bne_f hE
    clear hE
    generalize shapedF f r = sp at *
    have HOK := Lib.hid hok
    clear hok
    obtain ⟨a0, a1, a2⟩ := HF1.out
    obtain ⟨d0, d1, d2⟩ := HT1.out
    have hfew := HOK.out.right.few
    have hl1 : r.ws.length = f.ps.length := HOK.out.ws.len
    have hl2 : r.hs.length = f.ps.length := HOK.out.hs.len
    have hF1 := (H.out.below HB1.out).mono HB1.out.size
    have hlg := refLongest_any f r.ws A A1 b off c b1 o1 c1 w1 hF1.la hF1.ps HOK.out.w HOK.out.uw (by omega) hF1.rr.l1 hF1.rr.z1
    rw [hl1] at d0
    have HLG1 := Lib.hid hlg
    have HL1 := Lib.hid hl1
    have HL2 := Lib.hid hl2
    have w1' := HOK.out.right.w1
    have w2' := HOK.out.right.w2
    have w3' := HOK.out.right.h1
    have w4' := HOK.out.right.h2
    clear hlg hl1 hl2 hF1
    go_wp2_with fail
    refine HLG1.out.mono ?_
    rintro e w2 ⟨l, v, rfl, hch, hown, e2⟩
    have HB2 := Lib.hid (HB1.out.trans (e2.mono HB1.out.size))
    have HF2 := Lib.hid (HF1.out.below e2 (by omega))
    have HT2 := Lib.hid (HT1.out.below e2 (by omega))
    have hz2 : w.heap.size + 1 < w2.heap.size := by have := e2.size; omega
    clear HLG1 hch hown e2 HF1 HT1 HB1 a0 a1 a2 d0 d1 d2 h1
    have hFR2 := (H.out.below HB2.out).mono HB2.out.size
    have HSW := Lib.hid (swap_call f A b off c w2.heap.size w2 hFR2.la hFR2.ps HOK.out.right)
    have HLG := Lib.hid (down_long f r.hs A2 b2 o2 c2 w2.heap.size w2 HOK.out.w HOK.out.uh (by omega) hFR2.rr.l2 hFR2.rr.z2)
    have HK : Hid (∀ W, Below w2.heap.size w2 W → (W.cell? ⟨w.heap.size, 0, none⟩ = some (.int .i64 f.W) ∧ W.cell? ⟨w.heap.size, 1, none⟩ = some (.int .i64 f.H) ∧ W.cell? ⟨w.heap.size, 2, none⟩ = some (.slice A f.ps.length c) ∧ W.cell? ⟨w.heap.size + 1, 1, none⟩ = some (.slice A2 f.ps.length c2))) := (show ∀ W, _ from fun W hW => by
      obtain ⟨x0, x1, x2⟩ := HF2.out.below hW (by omega)
      obtain ⟨y0, y1, y2⟩ := HT2.out.below hW (by omega)
      rw [HL2.out] at y1
      exact ⟨x0, x1, x2, y1⟩)
    have h0 : Below w2.heap.size w2 w2.drew := (Below.refl _ _).drew
    have H0 := Lib.hid h0
    have hS0 := HK.out w2.drew h0
    clear h0 hFR2 H
    go_wp2_with fail
    go_region_held3 (fun W => (W.cell? ⟨w.heap.size, 0, none⟩ = some (.int .i64 f.W) ∧ W.cell? ⟨w.heap.size, 1, none⟩ = some (.int .i64 f.H) ∧ W.cell? ⟨w.heap.size, 2, none⟩ = some (.slice A f.ps.length c) ∧ W.cell? ⟨w.heap.size + 1, 1, none⟩ = some (.slice A2 f.ps.length c2)))
      (first
        | exact hS0
        | exact HK.out _ hb5
        | exact HK.out _ hb4
        | go_keep)
      (first
        | (go_at_call 89; (with_reducible refine (HSW.out _ H0.out (Nat.le_refl _)).mono ?_); rintro e w4 ⟨A', b', c', rfl, hl4, hp4, hb4'⟩; have hb4 : Below w2.heap.size w2 w4 := H0.out.trans hb4')
        | (go_at_call 34; (with_reducible refine (HLG.out _ _ _ _ hb4 hb4.size hl4 hp4).mono ?_); rintro e w5 ⟨l2, v2, rfl, hch, hown, hb5'⟩; have hb5 : Below w2.heap.size w2 w5 := hb4.trans (hb5'.mono hb4.size)))
    have HB5 := Lib.hid (HB2.out.trans (hb5.mono HB2.out.size))
    obtain ⟨x0, x1, x2, -⟩ := HK.out w5 hb5
    clear hown hch hb4 hb5 hb4' hb5' hS0 hl4 hp4 HSW HLG HK
    have e1 : IntKind.i64.wrap (60 * f.W) = 60 * f.W := IntWalk.i64_in _ (by omega)
    have e2 : IntKind.i64.wrap (60 * f.H) = 60 * f.H := IntWalk.i64_in _ (by omega)
    generalize (across f r.ws).maxT = ma at *
    generalize (down f r.hs).maxT = md at *
    by_cases q1 : ma ≤ 60 * f.W
    · have q1z : ¬ 60 * f.W < ma := by omega
      by_cases q2 : md ≤ 60 * f.H
      · have q2z : ¬ 60 * f.H < md := by omega
        have HC' : Hid (checkR f r = (0, 0)) := by show _ = _; rw [HC.out, if_pos ⟨q1, q2⟩]
        clear HC
        go_wp2_with fail
        go_ret2
        rw [HC'.out]
        exact ⟨rfl, HB5.out⟩
      · have q2z : 60 * f.H < md := by omega
        have HC' : Hid (checkR f r = (0, 26)) := by show _ = _; rw [HC.out, if_neg (fun hh => q2 hh.2)]
        clear HC
        go_wp2_with fail
        go_ret2
        rw [HC'.out]
        exact ⟨rfl, HB5.out⟩
    · have q1z : 60 * f.W < ma := by omega
      have HC' : Hid (checkR f r = (0, 26)) := by show _ = _; rw [HC.out, if_neg (fun hh => q1 hh.1)]
      clear HC
      go_wp2_with fail
      go_ret2
      rw [HC'.out]
      exact ⟨rfl, HB5.out⟩
  · have HC : Hid (checkR f r = shapedF f r) := by show _ = _; unfold checkR; rw [if_pos hE]
    have h1 := bne_t hE
    clear hE
    generalize shapedF f r = sp at *
    obtain ⟨a0, a1, a2⟩ := HF1.out
    obtain ⟨d0, d1, d2⟩ := HT1.out
    go_wp2_with fail
    go_ret2
    rw [HC.out]
    exact ⟨rfl, HB1.out⟩
end Go.Proofs.Ytlfeoofchebbkaa
