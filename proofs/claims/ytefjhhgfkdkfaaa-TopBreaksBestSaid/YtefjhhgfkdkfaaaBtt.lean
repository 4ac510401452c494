/- Best: breaks with the least demerits, and labels. -/
import Derived.Test.YtefjhhgfkdkfaaaBst
import Derived.Test.YtefjhhgfkdkfaaaCkb
namespace Go.Proofs.Ytefjhhgfkdkfaaa
set_option linter.unusedSimpArgs false
set_option linter.unusedVariables false
open Go.RowKit
theorem results_tmp4 {fn : Func} {t u v x : Tmp} (h : fn.results = #[.tmp t, .tmp u, .tmp v, .tmp x]) (tmps : Array Value) (P : Program) (w : World) :
    (results fn tmps).run P w = .ok (.tuple #[tmps.getD t undef, tmps.getD u undef, tmps.getD v undef, tmps.getD x undef]) w := by
  simp [results, h]
/-- What Best answers. -/
def BtPost (f : Fnt) (r : Rls) (ws : List PWord) (w : World) (e : Ending) (w' : World) : Prop :=
  Below w.heap.size w w' ∧ ((paErr f r ws ≠ 0 ∧ e = .returned (.tuple #[.slice none 0 0, .slice none 0 0, .int .i64 0, .int .i64 (paErr f r ws)])) ∨
    (paErr f r ws = 0 ∧ dist (tab f r ws) ((places ws).length - 1) = ML ∧ ∃ vl, e = .returned (.tuple #[.slice none 0 0, vl, .int .i64 0, .int .i64 12]) ∧ IV w' (lbs (tab f r ws) (places ws).length (places ws).length) vl) ∨
    (paErr f r ws = 0 ∧ dist (tab f r ws) ((places ws).length - 1) < ML ∧ ∃ b vb vl, e = .returned (.tuple #[vb, vl, .int .i64 (dist (tab f r ws) ((places ws).length - 1) : Int), .int .i64 0]) ∧ IV w' (ints b) vb ∧ IV w' (lbs (tab f r ws) (places ws).length (places ws).length) vl ∧
      Path (tab f r ws) 0 b ((places ws).length - 1) (dist (tab f r ws) ((places ws).length - 1))))
set_option maxRecDepth 100000 in
set_option maxHeartbeats 4000000 in
theorem bestO_any (f : Fnt) (v : Value) (r : Rls) (ws : List PWord) (vw : Value) (w : World) (hv : SoV w f.sorts v) (hn : f.name.size ≤ 9223372036854775807) (hw : WoV w ws vw) :
    Calls Try.prog 8 #[.agg (fcs f v), .agg (rcs r), vw] w (BtPost f r ws w) := by
  have HT := Lib.hid (UB.start (r := r) hv hw)
  have HOP := Lib.hid (fun W (h1 : SoV W f.sorts v) (h2 : WoV W ws vw) => open_any f v r ws vw W h1 hn h2)
  have HPO : Hid (paErr f r ws = 0 → POk f r ws) := paErr_ok
  have HBE := Lib.hid (fun pb vp W (h1 : PA W pb f v r ws vw vp) (h2 : POk f r ws) => best_any f v r ws vw vp pb W h1 h2)
  have HLA := Lib.hid (fun pb vp W (h1 : PA W pb f v r ws vw vp) (h2 : (places ws).length ≤ 300) => last_any f v r ws vw vp pb W h1 h2)
  have H0 : Hid (∀ W, paErr f r ws ≠ 0 → Below w.heap.size w W → BtPost f r ws w (.returned (.tuple #[.slice none 0 0, .slice none 0 0, .int .i64 0, .int .i64 (paErr f r ws)])) W) := (show ∀ W, _ from fun W h hb => ⟨hb, .inl ⟨h, rfl⟩⟩)
  have H1 : Hid (∀ W vl, paErr f r ws = 0 → dist (tab f r ws) ((places ws).length - 1) = ML → IV W (lbs (tab f r ws) (places ws).length (places ws).length) vl → Below w.heap.size w W → BtPost f r ws w (.returned (.tuple #[.slice none 0 0, vl, .int .i64 0, .int .i64 12])) W) := (show ∀ W vl, _ from fun W vl h h1 h2 hb => ⟨hb, .inr (.inl ⟨h, h1, vl, rfl, h2⟩)⟩)
  have H2 : Hid (∀ W b vb vl, paErr f r ws = 0 → dist (tab f r ws) ((places ws).length - 1) < ML → IV W (ints b) vb → IV W (lbs (tab f r ws) (places ws).length (places ws).length) vl → Path (tab f r ws) 0 b ((places ws).length - 1) (dist (tab f r ws) ((places ws).length - 1)) → Below w.heap.size w W →
      BtPost f r ws w (.returned (.tuple #[vb, vl, .int .i64 (dist (tab f r ws) ((places ws).length - 1) : Int), .int .i64 0])) W) := (show ∀ W b vb vl, _ from fun W b vb vl h h1 h2 h3 h4 hb => ⟨hb, .inr (.inr ⟨h, h1, b, vb, vl, rfl, h2, h3, h4⟩)⟩)
  obtain ⟨Av, cv, rfl⟩ := hv.shape
  obtain ⟨Aw, cw, rfl, -⟩ := hw.shape
  clear hv hw hn
  have g0 := HT.out.T.F.cell 0
  have g1 := HT.out.T.F.cell 1
  have g2 := HT.out.T.F.cell 2
  have q0 := HT.out.T.R.cell 0
  have q1 := HT.out.T.R.cell 1
  have q2 := HT.out.T.R.cell 2
  have q3 := HT.out.T.R.cell 3
  have q4 := HT.out.T.R.cell 4
  have q5 := HT.out.T.R.cell 5
  have q6 := HT.out.T.R.cell 6
  have q7 := HT.out.T.R.cell 7
  go_enter Try.func8, Try.ntmps8
  go_wp2_with fail
  generalize (w.alloc (.cells (fcs f (.slice Av f.sorts.length cv)) 24)).alloc (.cells (rcs r) 26) = W0 at *
  refine (HOP.out _ HT.out.T.S HT.out.V).mono ?_
  rintro e W1 ⟨hb1, ⟨hpe, rfl⟩ | ⟨hpe, pb, vp, rfl, hpb, hpa⟩⟩
  · have hpb := bne_t hpe
    have HPE := Lib.hid hpe
    have HB1 := Lib.hid (HT.out.T.B.trans (hb1.mono HT.out.T.B.size))
    clear hpe hb1
    go_wp2_with fail
    refine bodyPost_ret (results_tmp4 rfl _ _ _) rfl ?_
    exact H0.out _ HPE.out HB1.out
  have HB1 := Lib.hid (HT.out.T.B.trans (hb1.mono HT.out.T.B.size))
  have HOK := Lib.hid (HPO.out hpe)
  have HPE := Lib.hid hpe
  have HBC := Lib.hid (HBE.out pb vp W1 hpa HOK.out)
  have HPA := Lib.hid hpa
  have hm := HOK.out.m
  have hpos := places_pos ws
  clear hpe hb1 hpa HOP HBE g0 g1 g2 q0 q1 q2 q3 q4 q5 q6 q7
  generalize hN : (places ws).length = N at *
  have HN := Lib.hid hN
  clear hN
  go_wp2_with fail
  refine HBC.out.mono ?_
  rintro e W2 ⟨bs, vb, vl, rfl, hvb, hvl, hb2, hor⟩
  have HB2 := Lib.hid (HB1.out.trans (hb2.mono HB1.out.size))
  have HLC := Lib.hid (HLA.out pb vp W2 (HPA.out.step hb2) hm)
  obtain ⟨A, b0, o0, c0, rfl, hA, hz, -, -⟩ := hvl.open
  have hll := lbs_len (tab f r ws) N N
  obtain ⟨rfl, hbl⟩ := hA (by omega)
  have hzq := hz (N - 1) (by omega)
  rw [lbs_get _ _ _ _ (by omega)] at hzq
  have hfd : (fwd (tab f r ws) N (N - 1)).1 = dist (tab f r ws) (N - 1) := by
    have := tab_ok (ws := ws) HOK.out.ru (by rw [HN.out]; exact hm)
    rw [HN.out] at this
    exact fwd_dist this (by omega)
  rw [hfd] at hzq
  have HVL := Lib.hid hvl
  have HVB := Lib.hid hvb
  rw [hll] at HVL
  rw [hll]
  clear hb2 hz hA hfd hvl hvb HBC HLA
  obtain ⟨q, hq⟩ : ∃ q, N - 1 = q := ⟨_, rfl⟩
  have hqz : (q : Int) < (N : Int) := by omega
  have hML : ((ML : Nat) : Int) = 1000000000000000 := rfl
  rw [hq] at hzq HLC hor H1 H2
  rcases hor with ⟨hlt, b, hb, hp⟩ | ⟨heq, hb⟩
  · subst hb
    have hne : ((((dist (tab f r ws) q : Nat) : Int)) == 1000000000000000) = false := by rw [← hML]; exact beq_false_of_ne (by omega)
    have HF := Lib.hid (H2.out W2 b _ _ HPE.out hlt HVB.out HVL.out hp HB2.out)
    clear hlt hp HVB HVL H0 H1 H2 hq hML
    generalize dist (tab f r ws) q = dl at *
    go_wp2_with (first
      | (go_at_call 38; (with_reducible refine HLC.out.mono ?_); rintro e w' ⟨rfl, hw'⟩; have hw'' := hw'.symm; subst hw''))
    refine bodyPost_ret (results_tmp4 rfl _ _ _) rfl ?_
    exact HF.out
  · subst hb
    have HF := Lib.hid (H1.out W2 _ HPE.out heq HVL.out HB2.out)
    rw [heq, hML] at hzq
    clear HVB HVL H0 H1 H2 hq hML heq
    go_wp2_with (first
      | (go_at_call 38; (with_reducible refine HLC.out.mono ?_); rintro e w' ⟨rfl, hw'⟩; have hw'' := hw'.symm; subst hw''))
    refine bodyPost_ret (results_tmp4 rfl _ _ _) rfl ?_
    exact HF.out
end Go.Proofs.Ytefjhhgfkdkfaaa
