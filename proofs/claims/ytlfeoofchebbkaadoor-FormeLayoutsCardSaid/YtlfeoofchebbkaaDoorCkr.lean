/- CheckReal, LongestAcross, LongestDown. -/
import Derived.Test.YtlfeoofchebbkaaDoorOky
namespace Go.Proofs.YtlfeoofchebbkaaDoor
set_option linter.unusedSimpArgs false
set_option linter.unusedVariables false
open Go.RowKit
def checkR (f : Forme) (r : Real) : Int × Int :=
  if (shapedF f r).2 ≠ 0 then shapedF f r
  else if (across f r.ws).maxT ≤ 60 * f.W ∧ (down f r.hs).maxT ≤ 60 * f.H then (0, 0) else (0, 26)
theorem Okay.w {f : Forme} {r : Real} (h : Okay f r) : f.Whole := ⟨h.right.toLaid, h.full⟩
theorem sz_le {zs : List Int} {M : Int} (h : ∀ z ∈ zs, z ≤ M) (h0 : 0 ≤ M) (i : Nat) : zs.getD i 0 ≤ M := by
  rw [List.getD_eq_getElem?_getD]
  cases hg : zs[i]? with
  | none => exact h0
  | some v => exact h v (List.mem_of_getElem? hg)
theorem across_T {f : Forme} {zs : List Int} (hf : f.Laid) (hz : Usable f zs) : ∀ i, i < (across f zs).n → (across f zs).T i ≤ 1000000000000 :=
  Dir.T_small (across_wf hf hz.z) (fun i _ => sz_le hz.b (by omega) i) (by have := hf.w1; show 0 ≤ f.W; omega) hf.w2
theorem down_T {f : Forme} {zs : List Int} (hf : f.Laid) (hz : Usable f zs) : ∀ i, i < (down f zs).n → (down f zs).T i ≤ 1000000000000 :=
  Dir.T_small (down_wf hf hz.z) (fun i _ => sz_le hz.b (by omega) i) (by have := hf.h1; show 0 ≤ f.H; omega) hf.h2
theorem Okay.uw {f : Forme} {r : Real} (h : Okay f r) : Usable f r.ws := ⟨h.ws, fun z hz => by have := h.wb z hz; omega⟩
theorem Okay.uh {f : Forme} {r : Real} (h : Okay f r) : Usable f r.hs := ⟨h.hs, fun z hz => by have := h.hb z hz; omega⟩
theorem across_n {f : Forme} {zs : List Int} (hz : Sized f zs) : (across f zs).n = f.ps.length := hz.len
theorem down_n {f : Forme} {zs : List Int} (hz : Sized f zs) : (down f zs).n = f.ps.length := hz.len
/-- The two boxes of a forme and its sizes, new. -/
theorem boxes (w : World) (f : Forme) (v u1 u2 u3 : Value) :
    Below w.heap.size w ((w.alloc (.cells #[.int .i64 f.W, .int .i64 f.H, v] 28)).alloc (.cells #[u1, u2, u3] 43)) ∧
    FAt ((w.alloc (.cells #[.int .i64 f.W, .int .i64 f.H, v] 28)).alloc (.cells #[u1, u2, u3] 43)) w.heap.size f v ∧
    TAt ((w.alloc (.cells #[.int .i64 f.W, .int .i64 f.H, v] 28)).alloc (.cells #[u1, u2, u3] 43)) (w.heap.size + 1) u1 u2 u3 ∧
    ((w.alloc (.cells #[.int .i64 f.W, .int .i64 f.H, v] 28)).alloc (.cells #[u1, u2, u3] 43)).heap.size = w.heap.size + 2 := by
  refine ⟨(below_new _ _).trans ((below_new _ _).mono (by simp)), (FAt_new w 28 f v).below (below_new _ _) (by simp), ?_, by simp⟩
  have := TAt_new (w.alloc (.cells #[.int .i64 f.W, .int .i64 f.H, v] 28)) 43 u1 u2 u3
  rwa [World.size_alloc] at this
set_option maxRecDepth 100000 in
set_option maxHeartbeats 2000000 in
theorem checkReal_any (f : Forme) (r : Real) (A A1 A2 A3 : Option Addr) (b off b1 o1 b2 o2 b3 o3 c c1 c2 c3 : Nat) (w : World) (h : FR w w.heap.size f r A A1 A2 A3 b off b1 o1 b2 o2 b3 o3) (hnm : NameOk f.ps) (hc : f.ps.length ≤ c) (hm : f.ps.length ≤ 9223372036854775807)
    (hc1 : r.ws.length ≤ c1) (hc2 : r.hs.length ≤ c2) (hc3 : r.ts.length ≤ c3) :
    Calls Tryd.prog 27 #[.agg #[.int .i64 f.W, .int .i64 f.H, .slice A f.ps.length c], .agg #[.slice A1 r.ws.length c1, .slice A2 r.hs.length c2, .slice A3 r.ts.length c3]] w
      fun e w' => e = .returned (.tuple #[.int .i64 (checkR f r).1, .int .i64 (checkR f r).2]) ∧ Below w.heap.size w w' := by
  have H := Lib.hid h
  clear h
  go_enter Tryd.func27, Tryd.ntmps27
  go_wp2_with fail
  obtain ⟨B0, F0, T0, Z0⟩ := boxes w f (.slice A f.ps.length c) (.slice A1 r.ws.length c1) (.slice A2 r.hs.length c2) (.slice A3 r.ts.length c3)
  generalize (w.alloc (.cells #[.int .i64 f.W, .int .i64 f.H, .slice A f.ps.length c] 28)).alloc (.cells #[.slice A1 r.ws.length c1, .slice A2 r.hs.length c2, .slice A3 r.ts.length c3] 43) = W0 at *
  have hFR := (H.out.below B0).mono B0.size
  refine (shaped_any f r A A1 A2 A3 b off c b1 o1 c1 b2 o2 c2 b3 o3 c3 W0 hFR.la hFR.ps hnm hc hm hFR.rr hc1 hc2 hc3).mono ?_
  rintro e w1 ⟨rfl, e1⟩
  have HB1 := Lib.hid (B0.trans (e1.mono B0.size))
  have HF1 := Lib.hid (F0.below e1 (by omega))
  have HT1 := Lib.hid (T0.below e1 (by omega))
  have hz1 : w.heap.size + 1 < w1.heap.size := by have := e1.size; omega
  clear B0 F0 T0 Z0 hFR e1
  by_cases hE : (shapedF f r).2 = 0
  · have hok := shaped_zero hE
    have HC : Hid (checkR f r = if (across f r.ws).maxT ≤ 60 * f.W ∧ (down f r.hs).maxT ≤ 60 * f.H then (0, 0) else (0, 26)) := by
      show _ = _; unfold checkR; rw [if_neg (by omega)]
    have h1 := bne_f hE
    clear hE
    generalize shapedF f r = sp at *
    have HOK := Lib.hid hok
    clear hok
    obtain ⟨a0, a1, a2⟩ := HF1.out
    obtain ⟨d0, d1, d2⟩ := HT1.out
    go_wp2_with fail
    have hF1 := (H.out.below HB1.out).mono HB1.out.size
    refine (across_dir f r A A1 A2 A3 b off b1 o1 b2 o2 b3 o3 c c1 c2 c3 w1 hF1 HOK.out.right HOK.out.ws.len).mono ?_
    rintro e w2 ⟨dg, Aa, Ab, Az, ca, cb, cz, ba, oa, bb, ob, bz, oz, rfl, hD, e2⟩
    have HB2 := Lib.hid (HB1.out.trans (e2.mono HB1.out.size))
    have HF2 := Lib.hid (HF1.out.below e2 (by omega))
    have HT2 := Lib.hid (HT1.out.below e2 (by omega))
    have hz2 : w.heap.size + 1 < w2.heap.size := by have := e2.size; omega
    have HD := Lib.hid hD
    clear hF1 HB1 HF1 HT1 hz1 a0 a1 a2 d0 d1 d2 hD e2 h1
    have hn1 := across_n HOK.out.ws
    have hfew := HOK.out.right.few
    have hfu := across_full HOK.out.w HOK.out.ws
    have hp := hfu.some
    have hsd : (across f r.ws).side = f.W := rfl
    have w1' := HOK.out.right.w1
    have w2' := HOK.out.right.w2
    have w3' := HOK.out.right.h1
    have w4' := HOK.out.right.h2
    go_wp2_with fail
    refine (fits_any (across f r.ws) (across_wf HOK.out.right.toLaid HOK.out.ws) (by omega) hp (across_T HOK.out.right.toLaid HOK.out.uw) w2.heap.size dg Aa Ab Az ca cb cz ba oa bb ob bz oz w2 HD.out (Nat.le_refl _) (by omega) (by omega)).mono ?_
    rintro e w3 ⟨rfl, e3⟩
    have HB3 := Lib.hid (HB2.out.trans (e3.mono HB2.out.size))
    obtain ⟨a0, a1, a2⟩ := HF2.out.below e3 (by omega)
    obtain ⟨d0, d1, d2⟩ := HT2.out.below e3 (by omega)
    clear HD HB2 HF2 HT2 hz2 e3 hn1 hfu hp
    rw [hsd]
    clear hsd
    generalize hq1 : decide ((across f r.ws).maxT ≤ 60 * f.W) = q1
    have HQ1 := Lib.hid hq1
    clear hq1
    cases q1 with
    | false =>
      go_wp2_with fail
      go_ret2
      rw [HC.out, if_neg (fun hh => of_decide_eq_false HQ1.out hh.1)]
      exact ⟨rfl, HB3.out⟩
    | true =>
      go_wp2_with fail
      have hF1 := (H.out.below HB3.out).mono HB3.out.size
      refine (down_dir f r A A1 A2 A3 b off b1 o1 b2 o2 b3 o3 c c1 c2 c3 w3 hF1 HOK.out.right HOK.out.hs.len).mono ?_
      rintro e w4 ⟨dg2, Aa, Ab, Az, ca, cb, cz, ba, oa, bb, ob, bz, oz, rfl, hD, e2⟩
      have HB4 := Lib.hid (HB3.out.trans (e2.mono HB3.out.size))
      have HD := Lib.hid hD
      clear hF1 HB3 a0 a1 a2 d0 d1 d2 hD e2
      have hn1 := down_n HOK.out.hs
      have hfu := down_full HOK.out.w HOK.out.hs
      have hp := hfu.some
      have hsd : (down f r.hs).side = f.H := rfl
      go_wp2_with fail
      refine (fits_any (down f r.hs) (down_wf HOK.out.right.toLaid HOK.out.hs) (by omega) hp (down_T HOK.out.right.toLaid HOK.out.uh) w4.heap.size dg2 Aa Ab Az ca cb cz ba oa bb ob bz oz w4 HD.out (Nat.le_refl _) (by omega) (by omega)).mono ?_
      rintro e w5 ⟨rfl, e3⟩
      have HB5 := Lib.hid (HB4.out.trans (e3.mono HB4.out.size))
      clear HD HB4 e3 hn1 hfu hp
      rw [hsd]
      clear hsd
      generalize hq2 : decide ((down f r.hs).maxT ≤ 60 * f.H) = q2
      have HQ2 := Lib.hid hq2
      clear hq2
      cases q2 with
      | false =>
        go_wp2_with fail
        go_ret2
        rw [HC.out, if_neg (fun hh => of_decide_eq_false HQ2.out hh.2)]
        exact ⟨rfl, HB5.out⟩
      | true =>
        go_wp2_with fail
        go_ret2
        rw [HC.out, if_pos ⟨of_decide_eq_true HQ1.out, of_decide_eq_true HQ2.out⟩]
        exact ⟨rfl, HB5.out⟩
  · have HC : Hid (checkR f r = shapedF f r) := by show _ = _; unfold checkR; rw [if_pos hE]
    have h1 := bne_t hE
    clear hE
    generalize shapedF f r = sp at *
    go_wp2_with fail
    go_ret2
    rw [HC.out]
    exact ⟨rfl, HB1.out⟩
end Go.Proofs.YtlfeoofchebbkaaDoor
