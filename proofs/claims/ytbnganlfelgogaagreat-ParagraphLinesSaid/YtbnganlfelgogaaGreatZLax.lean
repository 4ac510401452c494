/- lineAt: the line between two places; DemeritsOf. -/
import Derived.Test.YtbnganlfelgogaaGreatZBrl
set_option linter.unusedSimpArgs false
set_option linter.unusedVariables false
namespace Go.Proofs.YtbnganlfelgogaaGreat
open Go.RowKit
def laE (f : Fnt) (r : Rls) (ws : List PWord) (a b : Int) : Int :=
 if paErr f r ws ≠ 0 then paErr f r ws else if win a 0 (((places ws).length - 1 : Nat) : Int) = false ∨ win b 0 (((places ws).length - 1 : Nat) : Int) = false then 6 else if b ≤ a then 9 else 0
def LaPost (f : Fnt) (v : Value) (r : Rls) (ws : List PWord) (vw : Value) (a b : Int) (w : World) (e : Ending) (w' : World) : Prop :=
 Below w.heap.size w w' ∧ ((laE f r ws a b ≠ 0 ∧ e = .returned (.tuple #[.pointer none, .agg #[.int .i64 0, .int .i64 0, .slice none 0 0, .int .i64 0, .bool false], .int .i64 (laE f r ws a b)])) ∨
  (laE f r ws a b = 0 ∧ POk f r ws ∧ 0 ≤ a ∧ a < b ∧ b < (places ws).length ∧ ∃ pb vp vps, e = .returned (.tuple #[.pointer (some ⟨pb, 0, none⟩), .agg (lcs a b vps (lineF f r ws a.toNat b.toNat).room (lineF f r ws a.toNat b.toNat).ends), .int .i64 0]) ∧
   PA w' pb f v r ws vw vp ∧ LV w' (lineF f r ws a.toNat b.toNat).ps vps))
theorem lat_res {W : World} {bR : Nat} {cs : Array Value} (hg : Blk W bR 155 cs) (hs : cs.size = 5) (tmps : Array Value) (hp : tmps.getD 9 undef = .pointer (some ⟨bR, 0, none⟩)) :
 (results Tryz.f114 tmps).run Tryz.prog W = .ok (.tuple #[tmps.getD 8 undef, .agg cs, tmps.getD 10 undef]) W := by
 have h : Tryz.f114.results = #[.tmp 8, .cell 9 155, .tmp 10] := rfl
 have hi : (Tryz.prog.info? 155).map (·.size) = some cs.size := by
  obtain ⟨i, h1, h2, h3, h4⟩ := info_parts info92
  rw [h1, hs]
  exact congrArg some h3
 have hp' : tmps[9]?.getD undef = .pointer (some ⟨bR, 0, none⟩) := by simpa using hp
 simp only [results, h]
 simp [Sem.run_bind, Result.andThen, hp', asAddr, run_loadVar_row W bR 155 155 cs (0, 0) _ hg Tryz.underlying155 rfl hi]
theorem Blk.five {W : World} {g : Nat} {t : TypeId} {c0 c1 c2 c3 c4 : Value} (h : Blk W g t #[c0, c1, c2, c3, c4]) (d0 d1 d2 d3 d4 : Value) :
 Blk (((((W.setCell ⟨g, 0, none⟩ d0).setCell ⟨g, 1, none⟩ d1).setCell ⟨g, 2, none⟩ d2).setCell ⟨g, 3, none⟩ d3).setCell ⟨g, 4, none⟩ d4) g t #[d0, d1, d2, d3, d4] := by
 have := ((((h.set_ 0 d0).set_ 1 d1).set_ 2 d2).set_ 3 d3).set_ 4 d4
 simpa using this
theorem below_five {B : Nat} {W0 W : World} {g : Nat} (h : Below B W0 W) (hg : B ≤ g) (d0 d1 d2 d3 d4 : Value) :
 Below B W0 (((((W.setCell ⟨g, 0, none⟩ d0).setCell ⟨g, 1, none⟩ d1).setCell ⟨g, 2, none⟩ d2).setCell ⟨g, 3, none⟩ d3).setCell ⟨g, 4, none⟩ d4) :=
 ((((h.setCell (p := ⟨g, 0, none⟩) hg d0).setCell (p := ⟨g, 1, none⟩) hg d1).setCell (p := ⟨g, 2, none⟩) hg d2).setCell (p := ⟨g, 3, none⟩) hg d3).setCell (p := ⟨g, 4, none⟩) hg d4
theorem RV.kept {W W' : World} {v : Value} {n sz g : Nat} {h : Nat → Value} (hr : RV W v n sz h) (hg : W.grownBy W' (some g)) (hne : ∀ k, v.ownBlock = some k → k ≠ g) : RV W' v n sz h := by
 obtain ⟨A, b, off, c, rfl, h1, h2, h3⟩ := hr
 refine ⟨A, b, off, c, rfl, h1.mono hg.size, fun j hj => ?_, h3⟩
 rcases Nat.eq_zero_or_pos n with e | e
 · subst e; omega
 · obtain ⟨rfl, hb⟩ := h1 e
   exact (World.cell?_of_block (a := ⟨b, off + j, none⟩) (hg.block b hb (fun e => hne b rfl (by injection e)))).trans (h2 j hj)
theorem grown_five (W : World) (g : Nat) (d0 d1 d2 d3 d4 : Value) : W.grownBy (((((W.setCell ⟨g, 0, none⟩ d0).setCell ⟨g, 1, none⟩ d1).setCell ⟨g, 2, none⟩ d2).setCell ⟨g, 3, none⟩ d3).setCell ⟨g, 4, none⟩ d4) (some g) :=
 grown_trans (grown_trans (grown_trans (grown_trans (grown_setCell _ _ _ _) (grown_setCell _ _ _ _)) (grown_setCell _ _ _ _)) (grown_setCell _ _ _ _)) (grown_setCell _ _ _ _)
set_option maxRecDepth 100000 in
set_option maxHeartbeats 4000000 in
theorem lineAt_any (f : Fnt) (v : Value) (r : Rls) (ws : List PWord) (vw : Value) (a b : Int) (w : World) (hv : SoV w f.sorts v) (hn : f.name.size ≤ 9223372036854775807) (hw : WoV w ws vw) :
 Calls Tryz.prog 114 #[.agg (fcs f v), .agg (rcs r), vw, .agg #[.int .i64 a, .int .i64 b]] w (LaPost f v r ws vw a b w) := by
 have HT := Lib.hid (UB.start (r := r) hv hw)
 have HOP := Lib.hid (fun W (h1 : SoV W f.sorts v) (h2 : WoV W ws vw) => open_any f v r ws vw W h1 hn h2)
 have HPO : Hid (paErr f r ws = 0 → POk f r ws) := paErr_ok
 have HLA := Lib.hid (fun pb vp W (h1 : PA W pb f v r ws vw vp) (h2 : (places ws).length ≤ 300) => last_any f v r ws vw vp pb W h1 h2)
 have HLN := Lib.hid (fun pb vp W i j (h1 : PA W pb f v r ws vw vp) (h2 : POk f r ws) h3 h4 => line_any f v r ws vw vp pb i j W h1 h2 h3 h4)
 have H0 : Hid (∀ W x, laE f r ws a b = x → x ≠ 0 → Below w.heap.size w W → LaPost f v r ws vw a b w (.returned (.tuple #[.pointer none, .agg #[.int .i64 0, .int .i64 0, .slice none 0 0, .int .i64 0, .bool false], .int .i64 x])) W) := (show ∀ W x, _ from fun W x h h0 hb => ⟨hb, .inl ⟨by rw [h]; exact h0, by rw [h]⟩⟩)
 have HE : Hid (laE f r ws a b = if paErr f r ws ≠ 0 then paErr f r ws else if win a 0 (((places ws).length - 1 : Nat) : Int) = false ∨ win b 0 (((places ws).length - 1 : Nat) : Int) = false then 6 else if b ≤ a then 9 else 0) := rfl
 have HSV := Lib.hid hv
 have HWV := Lib.hid hw
 obtain ⟨Av, cv, rfl⟩ := hv.shape
 obtain ⟨Aw, cw, rfl, -⟩ := hw.shape
 clear hv hw hn
 have g0 := HT.out.T.F.cell 0
 have g1 := HT.out.T.F.cell 1
 have g2 := HT.out.T.F.cell 2
 have q0 := HT.out.T.R.cell 0
 have q1 := HT.out.T.R.cell 1
 have q2 := HT.out.T.R.cell 2
 have q3 := HT.out.T.R.cell 3
 have q4 := HT.out.T.R.cell 4
 have q5 := HT.out.T.R.cell 5
 have q6 := HT.out.T.R.cell 6
 have q7 := HT.out.T.R.cell 7
 have gl := HT.out.T.R.lt
 go_enter Tryz.func114, Tryz.ntmps114
 go_wp2_with fail
 have hW0 : ∃ W0, W0 = (((w.alloc (.cells (fcs f (.slice Av f.sorts.length cv)) 24)).alloc (.cells (rcs r) 26)).alloc (.cells #[.int .i64 a, .int .i64 b] 70)).alloc (.cells #[.int .i64 0, .int .i64 0, .slice none 0 0, .int .i64 0, .bool false] 155) := ⟨_, rfl⟩
 obtain ⟨W0, hW0⟩ := hW0
 have hsz : ((w.alloc (.cells (fcs f (.slice Av f.sorts.length cv)) 24)).alloc (.cells (rcs r) 26)).heap.size = w.heap.size + 1 + 1 := by simp
 have hbb := (below_new ((w.alloc (.cells (fcs f (.slice Av f.sorts.length cv)) 24)).alloc (.cells (rcs r) 26)) (.cells #[.int .i64 a, .int .i64 b] 70)).trans ((below_new (((w.alloc (.cells (fcs f (.slice Av f.sorts.length cv)) 24)).alloc (.cells (rcs r) 26)).alloc (.cells #[.int .i64 a, .int .i64 b] 70)) (.cells #[.int .i64 0, .int .i64 0, .slice none 0 0, .int .i64 0, .bool false] 155)).mono (by simp))
 have HT0 := Lib.hid (HT.out.step hbb)
 have hA0 := (Blk.new ((w.alloc (.cells (fcs f (.slice Av f.sorts.length cv)) 24)).alloc (.cells (rcs r) 26)) 70 #[.int .i64 a, .int .i64 b]).below (below_new _ (.cells #[.int .i64 0, .int .i64 0, .slice none 0 0, .int .i64 0, .bool false] 155)) (by simp)
 have hR0 := Blk.new (((w.alloc (.cells (fcs f (.slice Av f.sorts.length cv)) 24)).alloc (.cells (rcs r) 26)).alloc (.cells #[.int .i64 a, .int .i64 b] 70)) 155 #[.int .i64 0, .int .i64 0, .slice none 0 0, .int .i64 0, .bool false]
 rw [hsz] at hA0
 rw [World.size_alloc, hsz] at hR0
 rw [← hW0] at hA0 hR0 HT0 ⊢
 have HA0 := Lib.hid hA0
 have HR0 := Lib.hid hR0
 clear HT hW0 hsz hbb hA0 hR0 g0 g1 g2 q0 q1 q2 q3 q4 q5 q6 q7 gl
 obtain ⟨bA, hbA⟩ : ∃ x, w.heap.size + 1 + 1 = x := ⟨_, rfl⟩
 have hbw : w.heap.size ≤ bA := by omega
 have HBA := Lib.hid hbA
 rw [hbA] at HA0 HR0 ⊢
 clear hbA
 refine (HOP.out _ HT0.out.T.S HT0.out.V).mono ?_
 rintro e W1 ⟨hb1, ⟨hpe, rfl⟩ | ⟨hpe, pb, vp, rfl, ⟨hpb, hvo⟩, hpa⟩⟩
 · have hpb := bne_t hpe
   have HF : Hid (laE f r ws a b = paErr f r ws) := by show _ = _; rw [HE.out, if_pos hpe]
   have HPE := Lib.hid hpe
   have HB1 := Lib.hid (HT0.out.T.B.trans (hb1.mono HT0.out.T.B.size))
   have hR1 := HR0.out.below hb1 HR0.out.lt
   have HR1 := Lib.hid hR1
   have r0 := hR1.cell 0
   have r1 := hR1.cell 1
   have r2 := hR1.cell 2
   have r3 := hR1.cell 3
   have r4 := hR1.cell 4
   have rl := hR1.lt
   have z0 := Blk.frozen hR1 0
   have z1 := Blk.frozen hR1 1
   have z2 := Blk.frozen hR1 2
   have z3 := Blk.frozen hR1 3
   have z4 := Blk.frozen hR1 4
   clear hpe hb1 hR1
   go_wp2_with fail
   refine bodyPost_ret (lat_res (HR1.out.five _ _ _ _ _) rfl _ rfl) rfl ?_
   exact H0.out _ _ HF.out HPE.out (below_five HB1.out (by omega) _ _ _ _ _)
 have HPE := Lib.hid hpe
 have HOK := Lib.hid (HPO.out hpe)
 have HE2 : Hid (laE f r ws a b = if win a 0 (((places ws).length - 1 : Nat) : Int) = false ∨ win b 0 (((places ws).length - 1 : Nat) : Int) = false then 6 else if b ≤ a then 9 else 0) := by show _ = _; rw [HE.out, if_neg (fun h => h hpe)]
 have HB1 := Lib.hid (HT0.out.T.B.trans (hb1.mono HT0.out.T.B.size))
 have HR1 := Lib.hid (HR0.out.below hb1 HR0.out.lt)
 have HA1 := Lib.hid (HA0.out.below hb1 HA0.out.lt)
 have HPA := Lib.hid hpa
 have hW0l := HR0.out.lt
 have HPN : Hid (pb ≠ bA + 1) := by show _ ≠ _; omega
 have HVO : Hid (∀ k, vp.ownBlock = some k → k ≠ bA + 1) := (show ∀ k, _ from fun k hk => by have := hvo k hk; omega)
 have hm := HOK.out.m
 have hpos := places_pos ws
 have HL : Hid (∀ q, Calls Tryz.prog 87 #[.pointer (some ⟨pb, 0, none⟩)] (W1.drewN q) fun e w' => e = .returned (.int .i64 ((places ws).length - 1 : Nat)) ∧ w' = W1.drewN q) := (show ∀ q, _ from fun q => HLA.out pb vp _ (hpa.step (below_drewN _ q)) hm)
 have HWI : Hid (∀ n lo hi W, Calls Tryz.prog 94 #[.int .i64 n, .int .i64 lo, .int .i64 hi] W fun e w' => e = .returned (.bool (win n lo hi)) ∧ w' = W) := (show ∀ n lo hi W, _ from fun n lo hi W => (within44_any _ _ _ W).mono fun _ _ ⟨h1, h2⟩ => ⟨h1, h2.symm⟩)
 have a0 := HA1.out.cell 0
 have a1 := HA1.out.cell 1
 have al := HA1.out.lt
 have r0 := HR1.out.cell 0
 have r1 := HR1.out.cell 1
 have r2 := HR1.out.cell 2
 have r3 := HR1.out.cell 3
 have r4 := HR1.out.cell 4
 have rl := HR1.out.lt
 have z0 := Blk.frozen HR1.out 0
 have z1 := Blk.frozen HR1.out 1
 have z2 := Blk.frozen HR1.out 2
 have z3 := Blk.frozen HR1.out 3
 have z4 := Blk.frozen HR1.out 4
 clear hpe hb1 hpa hvo hpb hW0l HT0 HA0 HR0 HPO HLA HE
 generalize hN : (places ws).length - 1 = N1 at *
 have HN := Lib.hid hN
 clear hN
 cases ha : win a 0 (N1 : Int) with
 | false =>
  have HF : Hid (laE f r ws a b = 6) := by show _ = _; rw [HE2.out, if_pos (.inl ha)]
  go_wp2_with fail
  go_quiet (first
   | (go_at_call 87; exact Calls.quiet_of_same (HL.out _))
   | (go_at_call 94; exact Calls.quiet_of_same (HWI.out _ _ _ _)))
  have hd := below_drewN W1 nq
  have HR2 := Lib.hid (HR1.out.below hd HR1.out.lt)
  have HA2 := Lib.hid (HA1.out.below hd HA1.out.lt)
  have HB2 := Lib.hid (HB1.out.trans (hd.mono HB1.out.size))
  have HPA2 := Lib.hid (HPA.out.step hd)
  clear hd a0 a1 al r0 r1 r2 r3 r4 rl z0 z1 z2 z3 z4 HR1 HA1 HB1 HPA HL HWI
  generalize W1.drewN nq = W2 at *
  have a0 := HA2.out.cell 0
  have a1 := HA2.out.cell 1
  have al := HA2.out.lt
  have r0 := HR2.out.cell 0
  have r1 := HR2.out.cell 1
  have r2 := HR2.out.cell 2
  have r3 := HR2.out.cell 3
  have r4 := HR2.out.cell 4
  have rl := HR2.out.lt
  have z0 := Blk.frozen HR2.out 0
  have z1 := Blk.frozen HR2.out 1
  have z2 := Blk.frozen HR2.out 2
  have z3 := Blk.frozen HR2.out 3
  have z4 := Blk.frozen HR2.out 4
  go_wp2_with fail
  refine bodyPost_ret (lat_res (HR2.out.five _ _ _ _ _) rfl _ rfl) rfl ?_
  exact H0.out _ _ HF.out (by decide) (below_five HB2.out (by omega) _ _ _ _ _)
 | true =>
  cases hb : win b 0 (N1 : Int) with
  | false =>
   have HF : Hid (laE f r ws a b = 6) := by show _ = _; rw [HE2.out, if_pos (.inr hb)]
   go_wp2_with fail
   go_quiet (first
    | (go_at_call 87; exact Calls.quiet_of_same (HL.out _))
    | (go_at_call 94; exact Calls.quiet_of_same (HWI.out _ _ _ _)))
   have hd := below_drewN W1 nq
   have HR2 := Lib.hid (HR1.out.below hd HR1.out.lt)
   have HA2 := Lib.hid (HA1.out.below hd HA1.out.lt)
   have HB2 := Lib.hid (HB1.out.trans (hd.mono HB1.out.size))
   have HPA2 := Lib.hid (HPA.out.step hd)
   clear hd a0 a1 al r0 r1 r2 r3 r4 rl z0 z1 z2 z3 z4 HR1 HA1 HB1 HPA HL HWI
   generalize W1.drewN nq = W2 at *
   have a0 := HA2.out.cell 0
   have a1 := HA2.out.cell 1
   have al := HA2.out.lt
   have r0 := HR2.out.cell 0
   have r1 := HR2.out.cell 1
   have r2 := HR2.out.cell 2
   have r3 := HR2.out.cell 3
   have r4 := HR2.out.cell 4
   have rl := HR2.out.lt
   have z0 := Blk.frozen HR2.out 0
   have z1 := Blk.frozen HR2.out 1
   have z2 := Blk.frozen HR2.out 2
   have z3 := Blk.frozen HR2.out 3
   have z4 := Blk.frozen HR2.out 4
   go_wp2_with fail
   refine bodyPost_ret (lat_res (HR2.out.five _ _ _ _ _) rfl _ rfl) rfl ?_
   exact H0.out _ _ HF.out (by decide) (below_five HB2.out (by omega) _ _ _ _ _)
  | true =>
   have hwa := win_t.1 ha
   have hwb := win_t.1 hb
   have HE3 : Hid (laE f r ws a b = if b ≤ a then 9 else 0) := by show _ = _; rw [HE2.out, if_neg (by rw [ha, hb]; simp)]
   go_wp2_with fail
   go_quiet (first
    | (go_at_call 87; exact Calls.quiet_of_same (HL.out _))
    | (go_at_call 94; exact Calls.quiet_of_same (HWI.out _ _ _ _)))
   have hd := below_drewN W1 nq
   have HR2 := Lib.hid (HR1.out.below hd HR1.out.lt)
   have HA2 := Lib.hid (HA1.out.below hd HA1.out.lt)
   have HB2 := Lib.hid (HB1.out.trans (hd.mono HB1.out.size))
   have HPA2 := Lib.hid (HPA.out.step hd)
   clear hd a0 a1 al r0 r1 r2 r3 r4 rl z0 z1 z2 z3 z4 HR1 HA1 HB1 HPA HL HWI
   generalize W1.drewN nq = W2 at *
   have a0 := HA2.out.cell 0
   have a1 := HA2.out.cell 1
   have al := HA2.out.lt
   have r0 := HR2.out.cell 0
   have r1 := HR2.out.cell 1
   have r2 := HR2.out.cell 2
   have r3 := HR2.out.cell 3
   have r4 := HR2.out.cell 4
   have rl := HR2.out.lt
   have z0 := Blk.frozen HR2.out 0
   have z1 := Blk.frozen HR2.out 1
   have z2 := Blk.frozen HR2.out 2
   have z3 := Blk.frozen HR2.out 3
   have z4 := Blk.frozen HR2.out 4
   clear ha hb HE2
   by_cases hab : b ≤ a
   · have HF : Hid (laE f r ws a b = 9) := by show _ = _; rw [HE3.out, if_pos hab]
     go_wp2_with fail
     refine bodyPost_ret (lat_res (HR2.out.five _ _ _ _ _) rfl _ rfl) rfl ?_
     exact H0.out _ _ HF.out (by decide) (below_five HB2.out (by omega) _ _ _ _ _)
   · have HF : Hid (laE f r ws a b = 0) := by show _ = _; rw [HE3.out, if_neg hab]
     have hab2 : ¬ a ≥ b := by omega
     obtain ⟨i, rfl⟩ : ∃ i : Nat, a = (i : Int) := ⟨a.toNat, by omega⟩
     obtain ⟨j, rfl⟩ : ∃ j : Nat, b = (j : Int) := ⟨b.toNat, by omega⟩
     have HLC := Lib.hid (HLN.out pb vp W2 i j HPA2.out HOK.out (by omega) (by have := HN.out; omega))
     have HG : Hid (∀ W vps, PA W pb f (.slice Av f.sorts.length cv) r ws (.slice Aw ws.length cw) vp → LV W (lineF f r ws i j).ps vps → Below w.heap.size w W →
      LaPost f (.slice Av f.sorts.length cv) r ws (.slice Aw ws.length cw) (i : Int) (j : Int) w (.returned (.tuple #[.pointer (some ⟨pb, 0, none⟩), .agg (lcs i j vps (lineF f r ws i j).room (lineF f r ws i j).ends), .int .i64 0])) W) := (show ∀ W vps, _ from fun W vps h1 h2 hb => ⟨hb, .inr ⟨HF.out, HOK.out, by omega, by omega, by have := HN.out; omega, pb, vp, vps, rfl, h1, h2⟩⟩)
     clear H0 HF HE3 HLN
     go_wp2_with (first
      | (go_at_call 132; (with_reducible refine HLC.out.mono ?_); rintro e W3 ⟨vps, rfl, ⟨hd, hps⟩, hb3⟩
         have hlv := hps.lv
         obtain ⟨Ap, cp, rfl, -, -⟩ := hlv.shape
         have HPS := Lib.hid hps
         have hw2 := HR2.out.lt
         have HR3 := Lib.hid (HR2.out.below hb3 HR2.out.lt)
         have HB3 := Lib.hid (HB2.out.trans (hb3.mono HB2.out.size))
         have HPA3 := Lib.hid (HPA2.out.step hb3)
         have HR2L := Lib.hid hw2
         clear hps hlv hb3 hw2 r0 r1 r2 r3 r4 rl z0 z1 z2 z3 z4
         have r0 := HR3.out.cell 0
         have r1 := HR3.out.cell 1
         have r2 := HR3.out.cell 2
         have r3 := HR3.out.cell 3
         have r4 := HR3.out.cell 4
         have rl := HR3.out.lt
         have z0 := Blk.frozen HR3.out 0
         have z1 := Blk.frozen HR3.out 1
         have z2 := Blk.frozen HR3.out 2
         have z3 := Blk.frozen HR3.out 3
         have z4 := Blk.frozen HR3.out 4))
     refine bodyPost_ret (lat_res (HR3.out.five _ _ _ _ _) rfl _ rfl) rfl ?_
     have HB5 := below_five (g := bA + 1) HB3.out (by omega) (.int .i64 (i : Int)) (.int .i64 (j : Int)) (.slice Ap (lineF f r ws i j).ps.length cp) (.int .i64 (lineF f r ws i j).room) (.bool (lineF f r ws i j).ends)
     have hgr := grown_five W3 (bA + 1) (.int .i64 (i : Int)) (.int .i64 (j : Int)) (.slice Ap (lineF f r ws i j).ps.length cp) (.int .i64 (lineF f r ws i j).room) (.bool (lineF f r ws i j).ends)
     refine HG.out _ _ ⟨?_, HSV.out.below HB5, HWV.out.below HB5, ?_⟩ ?_ HB5
     · exact (hgr.block pb HPA3.out.P.lt (fun e => HPN.out (by injection e))).trans HPA3.out.P
     · exact RV.kept HPA3.out.L hgr HVO.out
     · exact (((((HPS.out.set_ (a := ⟨bA + 1, 0, none⟩) HR2L.out _).set_ (a := ⟨bA + 1, 1, none⟩) HR2L.out _).set_ (a := ⟨bA + 1, 2, none⟩) HR2L.out _).set_ (a := ⟨bA + 1, 3, none⟩) HR2L.out _).set_ (a := ⟨bA + 1, 4, none⟩) HR2L.out _).lv
end Go.Proofs.YtbnganlfelgogaaGreat
namespace Go.Proofs.YtbnganlfelgogaaGreat
open Go.RowKit
def dmE (f : Fnt) (r : Rls) (ws : List PWord) (a b : Int) : Int × Int :=
 if laE f r ws a b ≠ 0 then (0, laE f r ws a b) else if allowB r (lineF f r ws a.toNat b.toNat) = false then (0, 26) else (demF f r (lineF f r ws a.toNat b.toNat) (divB ws a.toNat) (divB ws b.toNat), 0)
set_option maxRecDepth 100000 in
set_option maxHeartbeats 4000000 in
theorem demeritsOf_any (f : Fnt) (v : Value) (r : Rls) (ws : List PWord) (vw : Value) (a b : Int) (w : World) (hv : SoV w f.sorts v) (hn : f.name.size ≤ 9223372036854775807) (hw : WoV w ws vw) :
 Calls Tryz.prog 58 #[.agg (fcs f v), .agg (rcs r), vw, .agg #[.int .i64 a, .int .i64 b]] w fun e w' => e = .returned (.tuple #[.int .i64 (dmE f r ws a b).1, .int .i64 (dmE f r ws a b).2]) ∧ Below w.heap.size w w' := by
 have HLA := Lib.hid (fun W (h1 : SoV W f.sorts v) (h2 : WoV W ws vw) => lineAt_any f v r ws vw a b W h1 hn h2)
 have HP : Hid (∀ W x y, dmE f r ws a b = (x, y) → Below w.heap.size w W → (Ending.returned (.tuple #[.int .i64 x, .int .i64 y]) = .returned (.tuple #[.int .i64 (dmE f r ws a b).1, .int .i64 (dmE f r ws a b).2]) ∧ Below w.heap.size w W)) := (show ∀ W x y, _ from fun W x y h hb => ⟨by rw [h], hb⟩)
 have HE : Hid (dmE f r ws a b = if laE f r ws a b ≠ 0 then (0, laE f r ws a b) else if allowB r (lineF f r ws a.toNat b.toNat) = false then (0, 26) else (demF f r (lineF f r ws a.toNat b.toNat) (divB ws a.toNat) (divB ws b.toNat), 0)) := rfl
 have HSV := Lib.hid hv
 have HWV := Lib.hid hw
 obtain ⟨Av, cv, rfl⟩ := hv.shape
 obtain ⟨Aw, cw, rfl, -⟩ := hw.shape
 clear hv hw hn
 go_enter Tryz.func58, Tryz.ntmps58
 go_wp2_with fail
 have hb0 := (below_new w (.cells (fcs f (.slice Av f.sorts.length cv)) 24)).trans (((below_new (w.alloc (.cells (fcs f (.slice Av f.sorts.length cv)) 24)) (.cells (rcs r) 26)).trans ((below_new ((w.alloc (.cells (fcs f (.slice Av f.sorts.length cv)) 24)).alloc (.cells (rcs r) 26)) (.cells #[.int .i64 a, .int .i64 b] 70)).mono (by simp))).mono (by simp))
 obtain ⟨W0, hW0⟩ : ∃ W0, W0 = (((w.alloc (.cells (fcs f (.slice Av f.sorts.length cv)) 24)).alloc (.cells (rcs r) 26)).alloc (.cells #[.int .i64 a, .int .i64 b] 70)) := ⟨_, rfl⟩
 rw [← hW0] at hb0 ⊢
 have HB0 := Lib.hid hb0
 clear hb0 hW0
 refine (HLA.out _ (HSV.out.below HB0.out) (HWV.out.below HB0.out)).mono ?_
 rintro e W1 ⟨hb1, ⟨hpe, rfl⟩ | ⟨hpe, hok, h0a, hab, hbl, pb, vp, vps, rfl, hpa, hlv⟩⟩
 · have hpb := bne_t hpe
   have HF : Hid (dmE f r ws a b = (0, laE f r ws a b)) := by show _ = _; rw [HE.out, if_pos hpe]
   have HB1 := Lib.hid (HB0.out.trans (hb1.mono HB0.out.size))
   clear hpe hb1
   go_wp2_with fail
   go_ret2
   exact HP.out _ _ _ HF.out (HB1.out.trans ((below_new _ _).mono HB1.out.size))
 have HB1 := Lib.hid (HB0.out.trans (hb1.mono HB0.out.size))
 obtain ⟨Ap, cp, rfl, -, -⟩ := hlv.shape
 have hsz := line_size hok (i := a.toNat) (j := b.toNat) (by omega) (by omega)
 have HE2 : Hid (dmE f r ws a b = if allowB r (lineF f r ws a.toNat b.toNat) = false then (0, 26) else (demF f r (lineF f r ws a.toNat b.toNat) (divB ws a.toNat) (divB ws b.toNat), 0)) := by show _ = _; rw [HE.out, if_neg (fun h => h hpe)]
 obtain ⟨i, rfl⟩ : ∃ i : Nat, a = (i : Int) := ⟨a.toNat, by omega⟩
 obtain ⟨j, rfl⟩ : ∃ j : Nat, b = (j : Int) := ⟨b.toNat, by omega⟩
 simp only [Int.toNat_natCast] at hlv hsz HE2 ⊢
 have hbn := below_new W1 (.cells (lcs i j (.slice Ap (lineF f r ws i j).ps.length cp) (lineF f r ws i j).room (lineF f r ws i j).ends) 155)
 have hbk := Blk.new W1 155 (lcs i j (.slice Ap (lineF f r ws i j).ps.length cp) (lineF f r ws i j).room (lineF f r ws i j).ends)
 have HB2 := Lib.hid (HB1.out.trans (hbn.mono HB1.out.size))
 have HPA2 := Lib.hid (hpa.step hbn)
 have HLV2 := Lib.hid (hlv.below hbn)
 have HBK := Lib.hid hbk
 have HAL := Lib.hid (allowed_any f _ r ws _ vp pb i j (lineF f r ws i j) _ _ HPA2.out hok.ru HLV2.out (by omega) (by omega) (by omega))
 have HDM := Lib.hid (fun W (h : Below _ _ W) => demerits_any f _ r ws _ vp pb i j (lineF f r ws i j) _ W (HPA2.out.step h) hok (by omega) (by omega) (HLV2.out.below h) (by omega) (by omega))
 have hloc := hbk.lt
 clear hpa hlv hsz hok hb1 hpe HLA HE hbn hbk
 cases hab2 : allowB r (lineF f r ws i j) with
 | false =>
  have HF : Hid (dmE f r ws i j = (0, 26)) := by show _ = _; rw [HE2.out, if_pos hab2]
  rw [hab2] at HAL
  clear hab2 HDM HE2
  go_wp2_with (first
   | (go_at_call 115; (with_reducible refine HAL.out.mono ?_); rintro e W3 ⟨rfl, hb3⟩))
  go_ret2
  exact HP.out _ _ _ HF.out (HB2.out.trans (hb3.mono HB2.out.size))
 | true =>
  have HF : Hid (dmE f r ws i j = (demF f r (lineF f r ws i j) (divB ws i) (divB ws j), 0)) := by show _ = _; rw [HE2.out, if_neg (by rw [hab2]; decide)]
  rw [hab2] at HAL
  clear hab2 HE2
  go_wp2_with (first
   | (go_at_call 115; (with_reducible refine HAL.out.mono ?_); rintro e W3 ⟨rfl, hb3⟩
      have HB3 := Lib.hid (HB2.out.trans (hb3.mono HB2.out.size))
      have HBK3 := Lib.hid (HBK.out.below hb3 HBK.out.lt)
      have HDC := Lib.hid (HDM.out _ hb3)
      have c0 := HBK3.out.cell 0
      have c1 := HBK3.out.cell 1
      have c2 := HBK3.out.cell 2
      have c3 := HBK3.out.cell 3
      have c4 := HBK3.out.cell 4
      have cl := HBK3.out.lt
      clear hb3)
   | (go_at_call 102; (with_reducible refine HDC.out.mono ?_); rintro e W4 ⟨rfl, hb4⟩))
  go_ret2
  exact HP.out _ _ _ HF.out (HB3.out.trans (hb4.mono HB3.out.size))
end Go.Proofs.YtbnganlfelgogaaGreat
namespace Go.Proofs.YtbnganlfelgogaaGreat
open Go.RowKit
def LxPost (f : Fnt) (r : Rls) (ws : List PWord) (a b : Int) (w : World) (e : Ending) (w' : World) : Prop :=
 Below w.heap.size w w' ∧ ((laE f r ws a b ≠ 0 ∧ e = .returned (.tuple #[.slice none 0 0, .int .i64 (laE f r ws a b)])) ∨
  (laE f r ws a b = 0 ∧ POk f r ws ∧ 0 ≤ a ∧ a < b ∧ b < (places ws).length ∧ ∃ vps, e = .returned (.tuple #[vps, .int .i64 0]) ∧ LV w' (lineF f r ws a.toNat b.toNat).ps vps))
structure XB3 (W w : World) (f : Fnt) (v : Value) (r : Rls) (a b : Int) : Prop where
 B : Below w.heap.size w W
 F : Blk W w.heap.size 24 (fcs f v)
 R : Blk W (w.heap.size + 1) 26 (rcs r)
 T : Blk W (w.heap.size + 1 + 1) 70 #[.int .i64 a, .int .i64 b]
theorem XB3.start (w : World) (f : Fnt) (v : Value) (r : Rls) (a b : Int) : XB3 (((w.alloc (.cells (fcs f v) 24)).alloc (.cells (rcs r) 26)).alloc (.cells #[.int .i64 a, .int .i64 b] 70)) w f v r a b := by
 have b1 := below_new w (.cells (fcs f v) 24)
 have b2 := below_new (w.alloc (.cells (fcs f v) 24)) (.cells (rcs r) 26)
 have b3 := below_new ((w.alloc (.cells (fcs f v) 24)).alloc (.cells (rcs r) 26)) (.cells #[.int .i64 a, .int .i64 b] 70)
 have k2 := Blk.new (w.alloc (.cells (fcs f v) 24)) 26 (rcs r)
 have k3 := Blk.new ((w.alloc (.cells (fcs f v) 24)).alloc (.cells (rcs r) 26)) 70 #[.int .i64 a, .int .i64 b]
 have b23 := b2.trans (b3.mono (by simp))
 have e2 := k2.below b3 k2.lt
 simp only [World.size_alloc] at e2 k3
 exact ⟨b1.trans (b23.mono (by simp)), (Blk.new w 24 (fcs f v)).below b23 (by simp), e2, k3⟩
set_option maxRecDepth 100000 in
set_option maxHeartbeats 4000000 in
theorem pieces_any (f : Fnt) (v : Value) (r : Rls) (ws : List PWord) (vw : Value) (a b : Int) (w : World) (hv : SoV w f.sorts v) (hn : f.name.size ≤ 9223372036854775807) (hw : WoV w ws vw) :
 Calls Tryz.prog 57 #[.agg (fcs f v), .agg (rcs r), vw, .agg #[.int .i64 a, .int .i64 b]] w (LxPost f r ws a b w) := by
 have HX0 := Lib.hid (XB3.start w f v r a b)
 have HV := Lib.hid hv
 have HW := Lib.hid hw
 obtain ⟨A, c, rfl⟩ := hv.shape
 obtain ⟨Aw, cw, rfl, -⟩ := hw.shape
 have H0 : Hid (∀ W, laE f r ws a b ≠ 0 → Below w.heap.size w W → LxPost f r ws a b w (.returned (.tuple #[.slice none 0 0, .int .i64 (laE f r ws a b)])) W) := (show ∀ W, _ from fun W h0 h => ⟨h, .inl ⟨h0, rfl⟩⟩)
 have H1 : Hid (∀ W vps, (laE f r ws a b = 0 ∧ POk f r ws ∧ 0 ≤ a ∧ a < b ∧ b < (places ws).length) → LV W (lineF f r ws a.toNat b.toNat).ps vps → Below w.heap.size w W → LxPost f r ws a b w (.returned (.tuple #[vps, .int .i64 0])) W) := (show ∀ W vps, _ from fun W vps h h2 hb => ⟨hb, .inr ⟨h.1, h.2.1, h.2.2.1, h.2.2.2.1, h.2.2.2.2, vps, rfl, h2⟩⟩)
 clear hv hw
 go_enter Tryz.func57, Tryz.ntmps57
 go_upto_region 1 with fail
 generalize (((w.alloc (.cells (fcs f (.slice A f.sorts.length c)) 24)).alloc (.cells (rcs r) 26)).alloc (.cells #[.int .i64 a, .int .i64 b] 70)) = W0 at *
 have f0 := HX0.out.F.cell 0
 have f1 := HX0.out.F.cell 1
 have f2 := HX0.out.F.cell 2
 have r0 := HX0.out.R.cell 0
 have r1 := HX0.out.R.cell 1
 have r2 := HX0.out.R.cell 2
 have r3 := HX0.out.R.cell 3
 have r4 := HX0.out.R.cell 4
 have r5 := HX0.out.R.cell 5
 have r6 := HX0.out.R.cell 6
 have r7 := HX0.out.R.cell 7
 have t0 := HX0.out.T.cell 0
 have t1 := HX0.out.T.cell 1
 have tl := HX0.out.T.lt
 go_wp2_with fail
 refine (lineAt_any f _ r ws _ a b W0 (HV.out.below HX0.out.B) hn (HW.out.below HX0.out.B)).mono ?_
 rintro e W1 ⟨hb1, hor⟩
 have HB1 := Lib.hid (HX0.out.B.trans (hb1.mono HX0.out.B.size))
 clear hb1 f0 f1 f2 r0 r1 r2 r3 r4 r5 r6 r7 t0 t1 tl HX0
 rcases hor with ⟨h0, rfl⟩ | ⟨h0, h1, h2, h3, h4, pb, vp, vps, rfl, -, hlv⟩
 · have HL0 := Lib.hid h0
   clear h0
   generalize laE f r ws a b = le at *
   go_wp2_with fail
   go_ret2
   exact H0.out _ HL0.out (HB1.out.trans ((below_new W1 _).mono HB1.out.size))
 · obtain ⟨Ap, cp, rfl, -, -⟩ := hlv.shape
   have HLV := Lib.hid hlv
   have HC : Hid (laE f r ws a b = 0 ∧ POk f r ws ∧ 0 ≤ a ∧ a < b ∧ b < (places ws).length) := ⟨h0, h1, h2, h3, h4⟩
   clear hlv h0 h1 h2 h3 h4
   generalize lineF f r ws a.toNat b.toNat = l at *
   go_wp2_with fail
   go_ret2
   exact H1.out _ _ HC.out (HLV.out.below (below_new W1 _)) (HB1.out.trans ((below_new W1 _).mono HB1.out.size))
end Go.Proofs.YtbnganlfelgogaaGreat
