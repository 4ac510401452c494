/- LongestAcross, LongestDown. -/
import Derived.Test.YtlfeoofchebbkaaDoorCkr
namespace Go.Proofs.YtlfeoofchebbkaaDoor
set_option linter.unusedSimpArgs false
set_option linter.unusedVariables false
open Go.RowKit
theorem own_mono {w : World} {base base' : Nat} {e : TypeId} {size n : Nat} {v : Value} {xs : List Value} (h : w.ownsRow base e size v n xs) (hb : base' ≤ base) : w.ownsRow base' e size v n xs := by
  refine ⟨h.1, ?_⟩
  rcases h.2 with h2 | ⟨g, cap, cur, hv, hg, r⟩
  · exact .inl h2
  · exact .inr ⟨g, cap, cur, hv, Nat.le_trans hb hg, r⟩
def LgPost (w : World) (D : Dir) (sp : Int) (e : Ending) (w' : World) : Prop :=
  (sp ≠ 0 ∧ e = .returned (.tuple #[.int .i64 0, .slice none 0 0, .int .i64 sp]) ∧ Below w.heap.size w w') ∨
  (sp = 0 ∧ ∃ (l : List Nat) (v : Value), e = .returned (.tuple #[.int .i64 D.maxT, v, .int .i64 0]) ∧ D.IsChain D.maxT (-1) l ∧ w'.ownsRow w.heap.size 3 1 v l.length (nums l) ∧ Below w.heap.size w w')

set_option maxRecDepth 100000 in
set_option maxHeartbeats 2000000 in
theorem longestAcross_any (f : Forme) (r : Real) (A A1 A2 A3 : Option Addr) (b off b1 o1 b2 o2 b3 o3 c c1 c2 c3 : Nat) (w : World) (h : FR w w.heap.size f r A A1 A2 A3 b off b1 o1 b2 o2 b3 o3) (hnm : NameOk f.ps) (hc : f.ps.length ≤ c) (hm : f.ps.length ≤ 9223372036854775807)
    (hc1 : r.ws.length ≤ c1) (hc2 : r.hs.length ≤ c2) (hc3 : r.ts.length ≤ c3) :
    Calls Tryd.prog 13 #[.agg #[.int .i64 f.W, .int .i64 f.H, .slice A f.ps.length c], .agg #[.slice A1 r.ws.length c1, .slice A2 r.hs.length c2, .slice A3 r.ts.length c3]] w
      (LgPost w (across f r.ws) (shapedF f r).2) := by
  have H := Lib.hid h
  clear h
  go_enter Tryd.func13, Tryd.ntmps13
  go_wp2_with fail
  obtain ⟨B0, F0, T0, Z0⟩ := boxes w f (.slice A f.ps.length c) (.slice A1 r.ws.length c1) (.slice A2 r.hs.length c2) (.slice A3 r.ts.length c3)
  generalize (w.alloc (.cells #[.int .i64 f.W, .int .i64 f.H, .slice A f.ps.length c] 28)).alloc (.cells #[.slice A1 r.ws.length c1, .slice A2 r.hs.length c2, .slice A3 r.ts.length c3] 43) = W0 at *
  have hFR := (H.out.below B0).mono B0.size
  refine (shaped_any f r A A1 A2 A3 b off c b1 o1 c1 b2 o2 c2 b3 o3 c3 W0 hFR.la hFR.ps hnm hc hm hFR.rr hc1 hc2 hc3).mono ?_
  rintro e w1 ⟨rfl, e1⟩
  have HB1 := Lib.hid (B0.trans (e1.mono B0.size))
  have HF1 := Lib.hid (F0.below e1 (by omega))
  have HT1 := Lib.hid (T0.below e1 (by omega))
  have hz1 : w.heap.size + 1 < w1.heap.size := by have := e1.size; omega
  clear B0 F0 T0 Z0 hFR e1
  by_cases hE : (shapedF f r).2 = 0
  · have HOK := Lib.hid (shaped_zero hE)
    have h1 := bne_f hE
    have HE := Lib.hid hE
    clear hE
    generalize hsp : shapedF f r = sp at *
    have HSP := Lib.hid hsp
    clear hsp
    obtain ⟨a0, a1, a2⟩ := HF1.out
    obtain ⟨d0, d1, d2⟩ := HT1.out
    go_wp2_with fail
    have hF1 := (H.out.below HB1.out).mono HB1.out.size
    refine (across_dir f r A A1 A2 A3 b off b1 o1 b2 o2 b3 o3 c c1 c2 c3 w1 hF1 HOK.out.right HOK.out.ws.len).mono ?_
    rintro e w2 ⟨dg, Aa, Ab, Az, ca, cb, cz, ba, oa, bb, ob, bz, oz, rfl, hD, e2⟩
    have HB2 := Lib.hid (HB1.out.trans (e2.mono HB1.out.size))
    have HD := Lib.hid hD
    clear hF1 HB1 HF1 HT1 hz1 a0 a1 a2 d0 d1 d2 hD e2 h1
    have hn1 : (across f r.ws).n = f.ps.length := HOK.out.ws.len
    have hfew := HOK.out.right.few
    go_wp2_with fail
    refine (longest_any (across f r.ws) (across_wf HOK.out.right.toLaid HOK.out.ws) (across_full HOK.out.w HOK.out.ws) (by omega) (across_T HOK.out.right.toLaid HOK.out.uw) w2.heap.size dg Aa Ab Az ca cb cz ba oa bb ob bz oz w2 HD.out (Nat.le_refl _)).mono ?_
    rintro e w3 ⟨l, v, rfl, hch, how, e3⟩
    have HB3 := Lib.hid (HB2.out.trans (e3.mono HB2.out.size))
    have HCH := Lib.hid hch
    have HOW := Lib.hid (own_mono how HB2.out.size)
    clear HD HB2 hch how e3 hn1 hfew
    go_wp2_with fail
    go_ret3
    exact .inr ⟨HE.out, l, v, rfl, HCH.out, HOW.out, HB3.out⟩
  · have h1 := bne_t hE
    have HE := Lib.hid hE
    clear hE
    generalize shapedF f r = sp at *
    go_wp2_with fail
    go_ret3
    exact .inl ⟨HE.out, rfl, HB1.out⟩

end Go.Proofs.YtlfeoofchebbkaaDoor
