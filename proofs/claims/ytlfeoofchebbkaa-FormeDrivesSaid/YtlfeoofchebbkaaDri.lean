/- FormeDrives: Driven returns the true sizes behind the driving of all quoins, or the errors. -/
import Derived.Test.YtlfeoofchebbkaaRdr
import Derived.Test.YtlfeoofchebbkaaDrk
namespace Go.Proofs.Ytlfeoofchebbkaa
set_option linter.unusedSimpArgs false
set_option linter.unusedVariables false
open Go.RowKit
theorem nils_at (W : World) : RealAt W ⟨[], [], []⟩ (.agg #[.slice none 0 0, .slice none 0 0, .slice none 0 0]) :=
  ⟨none, none, none, 0, 0, 0, 0, 0, 0, rfl, ⟨fun h => absurd h (by simp), fun h => absurd h (by simp), fun h => absurd h (by simp), fun j hj => absurd hj (by simp), fun j hj => absurd hj (by simp), fun j hj => absurd hj (by simp)⟩, by simp, by simp, by simp⟩
set_option maxRecDepth 100000 in
set_option maxHeartbeats 8000000 in
theorem drives_any (f : Forme) (r : Real) (A A1 A2 A3 : Option Addr) (b off b1 o1 b2 o2 b3 o3 c c1 c2 c3 : Nat) (w : World) (h : FR w w.heap.size f r A A1 A2 A3 b off b1 o1 b2 o2 b3 o3) (hc : f.ps.length ≤ c) (hc1 : r.ws.length ≤ c1) (hc2 : r.hs.length ≤ c2) (hc3 : r.ts.length ≤ c3) (hm : c ≤ maxLen) (hm1 : c1 ≤ maxLen) (hm2 : c2 ≤ maxLen) (hm3 : c3 ≤ maxLen) :
    Calls Try.prog 7 #[.agg #[.int .i64 f.W, .int .i64 f.H, .slice A f.ps.length c], .agg #[.slice A1 r.ws.length c1, .slice A2 r.hs.length c2, .slice A3 r.ts.length c3]] w fun e w' => e = .returned (.bool true) ∧ Below w.heap.size w w' := by
  obtain ⟨B0, F0, T0, Z0⟩ := boxes w f (.slice A f.ps.length c) (.slice A1 r.ws.length c1) (.slice A2 r.hs.length c2) (.slice A3 r.ts.length c3)
  have hHL : LW w _ f r A A1 A2 A3 b off c b1 o1 c1 b2 o2 c2 b3 o3 c3 := ⟨B0, F0, T0, h.below B0, by omega⟩
  unfold maxLen at hm hm1 hm2 hm3
  go_enter Try.func7, Try.ntmps7
  go_wp2_with fail
  generalize (w.alloc (.cells #[.int .i64 f.W, .int .i64 f.H, .slice A f.ps.length c] 37)).alloc (.cells #[.slice A1 r.ws.length c1, .slice A2 r.hs.length c2, .slice A3 r.ts.length c3] 39) = W0 at *
  have HL0 := Lib.hid hHL
  clear hHL B0 F0 T0 Z0 h
  refine (awake_any _).mono ?_
  rintro e W1 ⟨rfl, e1⟩
  have HL := Lib.hid (HL0.out.step e1)
  clear HL0 e1
  obtain ⟨a0, a1, a2, d0, d1, d2⟩ := HL.out.cells
  go_wp2_with fail
  refine (light_any f A b off c W1 HL.out.fr.la HL.out.fr.ps (by omega)).mono ?_
  rintro e W2 ⟨rfl, e1⟩
  have HL2 := Lib.hid (HL.out.step e1)
  clear HL e1 a0 a1 a2 d0 d1 d2
  obtain ⟨a0, a1, a2, d0, d1, d2⟩ := HL2.out.cells
  have HLT := Lib.hid (fun h => lightB_t (f := f) h)
  generalize lightB f = lb at *
  cases lb with
  | false =>
    go_wp2_with fail
    go_ret
    exact ⟨rfl, HL2.out.B⟩
  | true =>
    obtain ⟨hnm, hlen⟩ := HLT.out rfl
    have HNM := Lib.hid hnm
    clear hnm HLT
    go_wp2_with fail
    refine (few_any r A1 A2 A3 c1 c2 c3 W2).mono ?_
    rintro e W3 ⟨rfl, e1⟩
    have HL := Lib.hid (HL2.out.step e1)
    clear HL2 e1 a0 a1 a2 d0 d1 d2
    obtain ⟨a0, a1, a2, d0, d1, d2⟩ := HL.out.cells
    have HLT := Lib.hid (fun h => fewB_t (r := r) h)
    generalize fewB r = lb at *
    cases lb with
    | false =>
      go_wp2_with fail
      go_ret
      exact ⟨rfl, HL.out.B⟩
    | true =>
      obtain ⟨hl1, hl2, hl3⟩ := HLT.out rfl
      clear HLT
      by_cases hs : (checkR f r).2 = 0
      · obtain ⟨hok, -, -⟩ := checkR_zero hs
        have hbe := behind hok.right.toLaid (okf_of hs) f.ps.length (Nat.le_refl _)
        have H46 : Hid (AtCopies 46 f r (DrvYes (r.driven f f.ps.length))) := drivenY_at f r HNM.out (by omega) hs
        have H48 : Hid (∀ W, LW w W f r A A1 A2 A3 b off c b1 o1 c1 b2 o2 c2 b3 o3 c3 → Calls Try.prog 48 #[.agg #[.int .i64 f.W, .int .i64 f.H, .slice A f.ps.length c], .agg #[.slice A1 r.ws.length c1, .slice A2 r.hs.length c2, .slice A3 r.ts.length c3]] W (RdrYes (r.driven f f.ps.length) W)) := (show ∀ W, _ from fun W hW =>
          refDriven_any f r A A1 A2 A3 b off b1 o1 b2 o2 b3 o3 c c1 c2 c3 W hW.fr hs)
        generalize r.driven f f.ps.length = x at *
        have hx1 := hbe.ok.fit.ws.len
        have hx2 := hbe.ok.fit.hs.len
        have hx3 := hbe.ok.fit.ts
        have HX1 := Lib.hid hx1
        have HX2 := Lib.hid hx2
        have HX3 := Lib.hid hx3
        have HCK : Hid (∀ W, LW w W f r A A1 A2 A3 b off c b1 o1 c1 b2 o2 c2 b3 o3 c3 → Calls Try.prog 32 #[.agg #[.int .i64 f.W, .int .i64 f.H, .slice A f.ps.length c], .agg #[.slice A1 r.ws.length c1, .slice A2 r.hs.length c2, .slice A3 r.ts.length c3]] W fun e w' => e = .returned (.tuple #[.int .i64 (checkR f r).1, .int .i64 (checkR f r).2]) ∧ Below W.heap.size W w') := (show ∀ W, _ from fun W hW =>
          refCheckReal_any f r A A1 A2 A3 b off b1 o1 b2 o2 b3 o3 c c1 c2 c3 W hW.fr HNM.out hc (by omega) hc1 hc2 hc3)
        have HS := Lib.hid hs
        clear hok hbe hx1 hx2 hx3 hs
        unfold DrvYes at H46
        unfold RdrYes at H48
        have HCF := Lib.hid (copyF_at f A b off c W3.heap.size W3 HL.out.fr.la HL.out.fr.ps (by omega))
        have HCR := Lib.hid (copyR_at r A1 A2 A3 b1 o1 b2 o2 b3 o3 c1 c2 c3 W3.heap.size W3 HL.out.fr.rr (by omega) (by omega) (by omega))
        have HK : Hid (∀ W, Below W3.heap.size W3 W → (W.cell? ⟨w.heap.size, 0, none⟩ = some (.int .i64 f.W) ∧ W.cell? ⟨w.heap.size, 1, none⟩ = some (.int .i64 f.H) ∧ W.cell? ⟨w.heap.size, 2, none⟩ = some (.slice A f.ps.length c) ∧ W.cell? ⟨w.heap.size + 1, 0, none⟩ = some (.slice A1 r.ws.length c1) ∧ W.cell? ⟨w.heap.size + 1, 1, none⟩ = some (.slice A2 r.hs.length c2) ∧ W.cell? ⟨w.heap.size + 1, 2, none⟩ = some (.slice A3 r.ts.length c3))) := (show ∀ W, _ from fun W hW => (HL.out.step hW).cells)
        have h0 : Below W3.heap.size W3 W3.drew := (Below.refl _ _).drew
        have H0 := Lib.hid h0
        have hS0 := HK.out W3.drew h0
        clear h0 a0 a1 a2 d0 d1 d2
        go_upto_region 5 with (fail)
        go_cut [5, 6] (fun sp se wx => ∃ (xb : Nat) (X1 X2 X3 : Option Addr) (z1 z2 z3 y1 y2 y3 : Nat), sp = .pointer (some ⟨xb, 0, none⟩) ∧ se = .int .i64 0 ∧ Hid (Below W3.heap.size W3 wx) ∧ Hid (XB wx xb f.ps.length x X1 X2 X3 z1 z2 z3 y1 y2 y3))
        case first =>
          as_aux_lemma =>
          go_region_held3 (fun W => (W.cell? ⟨w.heap.size, 0, none⟩ = some (.int .i64 f.W) ∧ W.cell? ⟨w.heap.size, 1, none⟩ = some (.int .i64 f.H) ∧ W.cell? ⟨w.heap.size, 2, none⟩ = some (.slice A f.ps.length c) ∧ W.cell? ⟨w.heap.size + 1, 0, none⟩ = some (.slice A1 r.ws.length c1) ∧ W.cell? ⟨w.heap.size + 1, 1, none⟩ = some (.slice A2 r.hs.length c2) ∧ W.cell? ⟨w.heap.size + 1, 2, none⟩ = some (.slice A3 r.ts.length c3)))
            (first
              | exact hS0
              | exact HK.out _ hb6
              | exact HK.out _ (hb6.alloc hb6.size _)
              | exact HK.out _ (hb5.alloc hb5.size _)
              | exact HK.out _ (hb4.alloc hb4.size _)
              | exact HK.out _ ((below_new W3 _).drew)
              | exact HK.out _ hb5
              | exact HK.out _ hb4
              | exact HK.out _ ((hb6.setCell (p := ⟨W3.heap.size, 0, none⟩) (Nat.le_refl _) _).setCell (p := ⟨W3.heap.size, 1, none⟩) (Nat.le_refl _) _ |>.setCell (p := ⟨W3.heap.size, 2, none⟩) (Nat.le_refl _) _)
              | exact HK.out _ ((hb6.setCell (p := ⟨w4.heap.size, 0, none⟩) hb4.size _).setCell (p := ⟨w4.heap.size, 1, none⟩) hb4.size _ |>.setCell (p := ⟨w4.heap.size, 2, none⟩) hb4.size _)
              | exact HK.out _ ((hb6.setCell (p := ⟨w5.heap.size, 0, none⟩) hb5.size _).setCell (p := ⟨w5.heap.size, 1, none⟩) hb5.size _ |>.setCell (p := ⟨w5.heap.size, 2, none⟩) hb5.size _)
              | go_keep)
            (first
              | (go_at_call 28; (with_reducible refine (HCF.out W3.drew H0.out (Nat.le_refl _)).mono ?_); rintro e w4 ⟨vf, rfl, hf4, hb4'⟩; have hb4 : Below W3.heap.size W3 w4 := H0.out.trans hb4')
              | (go_at_call 28; (with_reducible refine (HCF.out (W3.alloc (Obj.cells #[Value.slice none 0 0, Value.slice none 0 0, Value.slice none 0 0] 39)).drew ((below_new W3 (Obj.cells #[Value.slice none 0 0, Value.slice none 0 0, Value.slice none 0 0] 39)).drew) (by simp [World.drew])).mono ?_); rintro e w4 ⟨vf, rfl, hf4, hb4'⟩; have hb4 : Below W3.heap.size W3 w4 := ((below_new W3 (Obj.cells #[Value.slice none 0 0, Value.slice none 0 0, Value.slice none 0 0] 39)).drew).trans (hb4'.mono ((below_new W3 (Obj.cells #[Value.slice none 0 0, Value.slice none 0 0, Value.slice none 0 0] 39)).drew).size); have sbk : Blk w4 W3.heap.size 39 #[Value.slice none 0 0, Value.slice none 0 0, Value.slice none 0 0] := (hb4'.block _ (by simp [World.drew])).trans (Blk.new W3 39 _))
              | (go_at_call 29; (with_reducible refine (HCR.out w4 hb4 hb4.size).mono ?_); rintro e w5 ⟨vr, rfl, hr5, hb5'⟩; have hb5 : Below W3.heap.size W3 w5 := hb4.trans (hb5'.mono hb4.size); have hf5 := hf4.below hb5'; (first | (have sbk := sbk.below hb5' sbk.lt) | skip))
              | (go_at_call 29; (with_reducible refine (HCR.out (w4.alloc (Obj.cells #[Value.slice none 0 0, Value.slice none 0 0, Value.slice none 0 0] 39)) (hb4.alloc hb4.size (Obj.cells #[Value.slice none 0 0, Value.slice none 0 0, Value.slice none 0 0] 39)) (hb4.alloc hb4.size (Obj.cells #[Value.slice none 0 0, Value.slice none 0 0, Value.slice none 0 0] 39)).size).mono ?_); rintro e w5 ⟨vr, rfl, hr5, hb5'⟩; have hb5 : Below W3.heap.size W3 w5 := (hb4.alloc hb4.size (Obj.cells #[Value.slice none 0 0, Value.slice none 0 0, Value.slice none 0 0] 39)).trans (hb5'.mono (hb4.alloc hb4.size (Obj.cells #[Value.slice none 0 0, Value.slice none 0 0, Value.slice none 0 0] 39)).size); have hf5 := (hf4.below (below_new w4 (Obj.cells #[Value.slice none 0 0, Value.slice none 0 0, Value.slice none 0 0] 39))).below hb5'; have sbk : Blk w5 w4.heap.size 39 #[Value.slice none 0 0, Value.slice none 0 0, Value.slice none 0 0] := (hb5'.block _ (by simp)).trans (Blk.new w4 39 _))
              | (go_at_call 46; (with_reducible refine (H46.out w5 vf vr hf5 hr5).mono ?_); rintro e w6 ⟨v, rfl, ⟨V1, V2, V3, q1, q2, q3, t1, t2, t3, rfl, hra, m1, m2, m3, g1, g2, g3⟩, hb6'⟩; have hb6 : Below W3.heap.size W3 w6 := hb5.trans (hb6'.mono hb5.size); have g1 : w5.heap.size ≤ t1 := (by first | omega | (have := g1; simp at this; omega)); have g2 : w5.heap.size ≤ t2 := (by first | omega | (have := g2; simp at this; omega)); have g3 : w5.heap.size ≤ t3 := (by first | omega | (have := g3; simp at this; omega)); (first | (have sbk6 : Blk w6 W3.heap.size 39 #[Value.slice none 0 0, Value.slice none 0 0, Value.slice none 0 0] := sbk.below hb6' sbk.lt; have hu0 : w6.cell? ⟨W3.heap.size, 0, none⟩ = some (Value.slice none 0 0) := sbk6.cell 0; have hu1 : w6.cell? ⟨W3.heap.size, 1, none⟩ = some (Value.slice none 0 0) := sbk6.cell 1; have hu2 : w6.cell? ⟨W3.heap.size, 2, none⟩ = some (Value.slice none 0 0) := sbk6.cell 2; have hf0 := sbk6.frozen 0; have hf1 := sbk6.frozen 1; have hf2 := sbk6.frozen 2; have hsl := sbk6.lt; have gsb := sbk.lt) | (have sbk6 : Blk w6 w4.heap.size 39 #[Value.slice none 0 0, Value.slice none 0 0, Value.slice none 0 0] := sbk.below hb6' sbk.lt; have hu0 : w6.cell? ⟨w4.heap.size, 0, none⟩ = some (Value.slice none 0 0) := sbk6.cell 0; have hu1 : w6.cell? ⟨w4.heap.size, 1, none⟩ = some (Value.slice none 0 0) := sbk6.cell 1; have hu2 : w6.cell? ⟨w4.heap.size, 2, none⟩ = some (Value.slice none 0 0) := sbk6.cell 2; have hf0 := sbk6.frozen 0; have hf1 := sbk6.frozen 1; have hf2 := sbk6.frozen 2; have hsl := sbk6.lt; have gsb := sbk.lt) | skip))
              | (go_at_call 46; (with_reducible refine (H46.out (w5.alloc (Obj.cells #[Value.slice none 0 0, Value.slice none 0 0, Value.slice none 0 0] 39)) vf vr (hf5.below (below_new w5 (Obj.cells #[Value.slice none 0 0, Value.slice none 0 0, Value.slice none 0 0] 39))) (hr5.below (below_new w5 (Obj.cells #[Value.slice none 0 0, Value.slice none 0 0, Value.slice none 0 0] 39)))).mono ?_); rintro e w6 ⟨v, rfl, ⟨V1, V2, V3, q1, q2, q3, t1, t2, t3, rfl, hra, m1, m2, m3, g1, g2, g3⟩, hb6'⟩; have hb6 : Below W3.heap.size W3 w6 := (hb5.alloc hb5.size (Obj.cells #[Value.slice none 0 0, Value.slice none 0 0, Value.slice none 0 0] 39)).trans (hb6'.mono (hb5.alloc hb5.size (Obj.cells #[Value.slice none 0 0, Value.slice none 0 0, Value.slice none 0 0] 39)).size); have g1 : w5.heap.size + 1 ≤ t1 := (by first | omega | (have := g1; simp at this; omega)); have g2 : w5.heap.size + 1 ≤ t2 := (by first | omega | (have := g2; simp at this; omega)); have g3 : w5.heap.size + 1 ≤ t3 := (by first | omega | (have := g3; simp at this; omega)); (have sbk6 : Blk w6 w5.heap.size 39 #[Value.slice none 0 0, Value.slice none 0 0, Value.slice none 0 0] := (hb6'.block _ (by simp)).trans (Blk.new w5 39 _); have hu0 : w6.cell? ⟨w5.heap.size, 0, none⟩ = some (Value.slice none 0 0) := sbk6.cell 0; have hu1 : w6.cell? ⟨w5.heap.size, 1, none⟩ = some (Value.slice none 0 0) := sbk6.cell 1; have hu2 : w6.cell? ⟨w5.heap.size, 2, none⟩ = some (Value.slice none 0 0) := sbk6.cell 2; have hf0 := sbk6.frozen 0; have hf1 := sbk6.frozen 1; have hf2 := sbk6.frozen 2; have hsl := sbk6.lt)))
          all_goals rw [HX1.out, HX2.out, HX3.out]
          all_goals first
            | (have hXB := xb_set (x := x) (n := f.ps.length) (B := w5.heap.size) (sb := W3.heap.size) sbk6 hra g1 g2 g3 (gsb) HX1.out HX2.out HX3.out (HX1.out ▸ m1) (HX2.out ▸ m2) (HX3.out ▸ m3)
               have hBW := ((hb6.setCell (p := ⟨W3.heap.size, 0, none⟩) (Nat.le_refl _) (.slice V1 f.ps.length q1)).setCell (p := ⟨W3.heap.size, 1, none⟩) (Nat.le_refl _) (.slice V2 f.ps.length q2)).setCell (p := ⟨W3.heap.size, 2, none⟩) (Nat.le_refl _) (.slice V3 f.ps.length q3)
               have HXB := Lib.hid hXB
               have HBW := Lib.hid hBW
               clear hXB hBW sbk6 hra g1 g2 g3
               go_wp2_with fail
               go_meet
               exact ⟨W3.heap.size, V1, V2, V3, q1, q2, q3, t1, t2, t3, rfl, rfl, HBW.out, HXB.out⟩)
            | (have hXB := xb_set (x := x) (n := f.ps.length) (B := w5.heap.size) (sb := w4.heap.size) sbk6 hra g1 g2 g3 (gsb) HX1.out HX2.out HX3.out (HX1.out ▸ m1) (HX2.out ▸ m2) (HX3.out ▸ m3)
               have hBW := ((hb6.setCell (p := ⟨w4.heap.size, 0, none⟩) (hb4.size) (.slice V1 f.ps.length q1)).setCell (p := ⟨w4.heap.size, 1, none⟩) (hb4.size) (.slice V2 f.ps.length q2)).setCell (p := ⟨w4.heap.size, 2, none⟩) (hb4.size) (.slice V3 f.ps.length q3)
               have HXB := Lib.hid hXB
               have HBW := Lib.hid hBW
               clear hXB hBW sbk6 hra g1 g2 g3
               go_wp2_with fail
               go_meet
               exact ⟨w4.heap.size, V1, V2, V3, q1, q2, q3, t1, t2, t3, rfl, rfl, HBW.out, HXB.out⟩)
            | (have hXB := xb_set (x := x) (n := f.ps.length) (B := w5.heap.size + 1) (sb := w5.heap.size) sbk6 hra g1 g2 g3 (Nat.lt_succ_self _) HX1.out HX2.out HX3.out (HX1.out ▸ m1) (HX2.out ▸ m2) (HX3.out ▸ m3)
               have hBW := ((hb6.setCell (p := ⟨w5.heap.size, 0, none⟩) (hb5.size) (.slice V1 f.ps.length q1)).setCell (p := ⟨w5.heap.size, 1, none⟩) (hb5.size) (.slice V2 f.ps.length q2)).setCell (p := ⟨w5.heap.size, 2, none⟩) (hb5.size) (.slice V3 f.ps.length q3)
               have HXB := Lib.hid hXB
               have HBW := Lib.hid hBW
               clear hXB hBW sbk6 hra g1 g2 g3
               go_wp2_with fail
               go_meet
               exact ⟨w5.heap.size, V1, V2, V3, q1, q2, q3, t1, t2, t3, rfl, rfl, HBW.out, HXB.out⟩)
            | (have hXB := xb_new (x := x) (n := f.ps.length) hra HX1.out HX2.out HX3.out (HX1.out ▸ m1) (HX2.out ▸ m2) (HX3.out ▸ m3)
               have hBW := hb6.alloc hb6.size (.cells #[.slice V1 f.ps.length q1, .slice V2 f.ps.length q2, .slice V3 f.ps.length q3] 39)
               have HXB := Lib.hid hXB
               have HBW := Lib.hid hBW
               clear hXB hBW hra
               go_wp2_with fail
               go_meet
               exact ⟨w6.heap.size, V1, V2, V3, q1, q2, q3, t1, t2, t3, rfl, rfl, HBW.out, HXB.out⟩)
        case rest =>
          as_aux_lemma =>
          obtain ⟨xb, X1, X2, X3, z1, z2, z3, y1, y2, y3, rfl, rfl, HB5, HXB⟩ := hcut
          have HLn := Lib.hid (HL.out.step HB5.out)
          clear HL HCF HCR HK H0 hS0 HB5
          have HL := Lib.hid HLn.out
          clear HLn
          obtain ⟨a0, a1, a2, d0, d1, d2⟩ := HL.out.cells
          have hcall := HCK.out wc HL.out
          rw [HS.out] at hcall
          generalize (checkR f r).1 = cr1 at *
          have HCALL := Lib.hid hcall
          clear hcall HCK HS
          go_wp2_with fail
          refine HCALL.out.mono ?_
          rintro e W6 ⟨rfl, e6⟩
          have HXBn := Lib.hid (HXB.out.below e6)
          have HLn := Lib.hid (HL.out.step e6)
          clear HL HXB HCALL a0 a1 a2 d0 d1 d2 e6
          have HL := Lib.hid HLn.out
          have HXB := Lib.hid HXBn.out
          clear HLn HXBn
          go_upto_region 9 with (fail)
          have HK : Hid (∀ W, Below W6.heap.size W6 W → (W.cell? ⟨w.heap.size, 0, none⟩ = some (.int .i64 f.W) ∧ W.cell? ⟨w.heap.size, 1, none⟩ = some (.int .i64 f.H) ∧ W.cell? ⟨w.heap.size, 2, none⟩ = some (.slice A f.ps.length c) ∧ W.cell? ⟨w.heap.size + 1, 0, none⟩ = some (.slice A1 r.ws.length c1) ∧ W.cell? ⟨w.heap.size + 1, 1, none⟩ = some (.slice A2 r.hs.length c2) ∧ W.cell? ⟨w.heap.size + 1, 2, none⟩ = some (.slice A3 r.ts.length c3) ∧ W.cell? ⟨xb, 0, none⟩ = some (.slice X1 f.ps.length z1) ∧ W.cell? ⟨xb, 1, none⟩ = some (.slice X2 f.ps.length z2) ∧ W.cell? ⟨xb, 2, none⟩ = some (.slice X3 f.ps.length z3))) := (show ∀ W, _ from fun W hW => by
            obtain ⟨q1, q2, q3, q4, q5, q6⟩ := (HL.out.step hW).cells
            exact ⟨q1, q2, q3, q4, q5, q6, (HXB.out.below hW).blk.cell 0, (HXB.out.below hW).blk.cell 1, (HXB.out.below hW).blk.cell 2⟩)
          have h0 : Below W6.heap.size W6 W6.drew := (Below.refl _ _).drew
          have H0 := Lib.hid h0
          have hS0 := HK.out W6.drew h0
          have hcall := H48.out W6.drew (HL.out.step h0)
          have HCALL := Lib.hid hcall
          clear h0 hcall H48
          refine wp_region_split (fun W => (W.cell? ⟨w.heap.size, 0, none⟩ = some (.int .i64 f.W) ∧ W.cell? ⟨w.heap.size, 1, none⟩ = some (.int .i64 f.H) ∧ W.cell? ⟨w.heap.size, 2, none⟩ = some (.slice A f.ps.length c) ∧ W.cell? ⟨w.heap.size + 1, 0, none⟩ = some (.slice A1 r.ws.length c1) ∧ W.cell? ⟨w.heap.size + 1, 1, none⟩ = some (.slice A2 r.hs.length c2) ∧ W.cell? ⟨w.heap.size + 1, 2, none⟩ = some (.slice A3 r.ts.length c3) ∧ W.cell? ⟨xb, 0, none⟩ = some (.slice X1 f.ps.length z1) ∧ W.cell? ⟨xb, 1, none⟩ = some (.slice X2 f.ps.length z2) ∧ W.cell? ⟨xb, 2, none⟩ = some (.slice X3 f.ps.length z3))) 7 (by kernel_rfl) (by decide) ?_
          refine wpG_take 7 0 (v := ?_) rfl (by kernel_rfl) (fun _ _ _ h => h) (Or.inl ⟨by rfl, ?_⟩) (by assumption) ?_
          rotate_left
          · intro w hSw; (try dsimp only at hSw); go_simp; (try with_reducible rfl)
          (try simp only [Act.put, List.getElem_toArray, List.getElem_cons_zero, List.getElem_cons_succ, List.setIfInBounds_toArray, List.set_cons_zero, List.set_cons_succ])
          refine wpG_take 7 1 (v := ?_) rfl (by kernel_rfl) (fun _ _ _ h => h) (Or.inl ⟨by rfl, ?_⟩) (by assumption) ?_
          rotate_left
          · intro w hSw; (try dsimp only at hSw); go_simp; (try with_reducible rfl)
          (try simp only [Act.put, List.getElem_toArray, List.getElem_cons_zero, List.getElem_cons_succ, List.setIfInBounds_toArray, List.set_cons_zero, List.set_cons_succ])
          refine wpG_take 7 2 (v := ?_) rfl (by kernel_rfl) (fun _ _ _ h => h) (Or.inl ⟨by rfl, ?_⟩) (by assumption) ?_
          rotate_left
          · intro w hSw; (try dsimp only at hSw); go_simp; (try with_reducible rfl)
          (try simp only [Act.put, List.getElem_toArray, List.getElem_cons_zero, List.getElem_cons_succ, List.setIfInBounds_toArray, List.set_cons_zero, List.set_cons_succ])
          refine wpG_take 7 3 (v := ?_) rfl (by kernel_rfl) (fun _ _ _ h => h) (Or.inl ⟨by rfl, ?_⟩) (by assumption) ?_
          rotate_left
          · intro w hSw; (try dsimp only at hSw); go_simp; (try with_reducible rfl)
          (try simp only [Act.put, List.getElem_toArray, List.getElem_cons_zero, List.getElem_cons_succ, List.setIfInBounds_toArray, List.set_cons_zero, List.set_cons_succ])
          refine wpG_take 7 4 (v := ?_) rfl (by kernel_rfl) (fun _ _ _ h => h) (Or.inl ⟨by rfl, ?_⟩) (by assumption) ?_
          rotate_left
          · intro w hSw; (try dsimp only at hSw); go_simp; (try with_reducible rfl)
          (try simp only [Act.put, List.getElem_toArray, List.getElem_cons_zero, List.getElem_cons_succ, List.setIfInBounds_toArray, List.set_cons_zero, List.set_cons_succ])
          refine wpG_take 7 5 (v := ?_) rfl (by kernel_rfl) (fun _ _ _ h => h) (Or.inl ⟨by rfl, ?_⟩) (by assumption) ?_
          rotate_left
          · intro w hSw; (try dsimp only at hSw); go_simp; (try with_reducible rfl)
          (try simp only [Act.put, List.getElem_toArray, List.getElem_cons_zero, List.getElem_cons_succ, List.setIfInBounds_toArray, List.set_cons_zero, List.set_cons_succ])
          refine wpG_one (i := 6) (by kernel_rfl) ?_
          refine wpOp_step rfl (fun K hK => ?_)
          go_simp
          go_at_call 48
          (with_reducible refine HCALL.out.mono ?_)
          rintro e w7 ⟨v7, rfl, hra, hb7'⟩
          have hb7 : Below W6.heap.size W6 w7 := H0.out.trans hb7'
          have n7 := HK.out w7 hb7
          have HRA := Lib.hid hra
          have HXB7 := Lib.hid (HXB.out.below hb7)
          have HL7 := Lib.hid (HL.out.step hb7)
          (try dsimp only)
          refine hK _ _ ⟨n7, ?_⟩
          clear hK K hb7 hb7' hra hS0 HCALL HK H0 n7 HL HXB
          (try simp only [Act.put, List.getElem_toArray, List.getElem_cons_zero, List.getElem_cons_succ, List.setIfInBounds_toArray, List.set_cons_zero, List.set_cons_succ])
          refine ⟨by kernel_rfl, ?_⟩
          simp only [List.drop_succ_cons, List.drop_zero]
          go_wp2_with fail
          refine (sameReal_any x _ _ w7 HXB7.out.at HRA.out (by rw [HX1.out]; omega) (by rw [HX2.out]; omega) (by rw [HX3.out]; omega)).mono ?_
          rintro e w8 ⟨rfl, e8⟩
          have HB8 := Lib.hid (HL7.out.B.trans (e8.mono HL7.out.B.size))
          clear HXB7 HRA HL7 e8
          go_wp2_with fail
          go_ret
          exact ⟨rfl, HB8.out⟩
      · have H46 : Hid (AtCopies 46 f r (DrvNo (checkR f r).2)) := drivenN_at f r HNM.out (by omega) hs
        have HCK : Hid (∀ W, LW w W f r A A1 A2 A3 b off c b1 o1 c1 b2 o2 c2 b3 o3 c3 → Calls Try.prog 32 #[.agg #[.int .i64 f.W, .int .i64 f.H, .slice A f.ps.length c], .agg #[.slice A1 r.ws.length c1, .slice A2 r.hs.length c2, .slice A3 r.ts.length c3]] W fun e w' => e = .returned (.tuple #[.int .i64 (checkR f r).1, .int .i64 (checkR f r).2]) ∧ Below W.heap.size W w') := (show ∀ W, _ from fun W hW =>
          refCheckReal_any f r A A1 A2 A3 b off b1 o1 b2 o2 b3 o3 c c1 c2 c3 W hW.fr HNM.out hc (by omega) hc1 hc2 hc3)
        have hs' := bne_t hs
        clear hs
        generalize checkR f r = cr at *
        unfold DrvNo at H46
        have HCF := Lib.hid (copyF_at f A b off c W3.heap.size W3 HL.out.fr.la HL.out.fr.ps (by omega))
        have HCR := Lib.hid (copyR_at r A1 A2 A3 b1 o1 b2 o2 b3 o3 c1 c2 c3 W3.heap.size W3 HL.out.fr.rr (by omega) (by omega) (by omega))
        have HK : Hid (∀ W, Below W3.heap.size W3 W → (W.cell? ⟨w.heap.size, 0, none⟩ = some (.int .i64 f.W) ∧ W.cell? ⟨w.heap.size, 1, none⟩ = some (.int .i64 f.H) ∧ W.cell? ⟨w.heap.size, 2, none⟩ = some (.slice A f.ps.length c) ∧ W.cell? ⟨w.heap.size + 1, 0, none⟩ = some (.slice A1 r.ws.length c1) ∧ W.cell? ⟨w.heap.size + 1, 1, none⟩ = some (.slice A2 r.hs.length c2) ∧ W.cell? ⟨w.heap.size + 1, 2, none⟩ = some (.slice A3 r.ts.length c3))) := (show ∀ W, _ from fun W hW => (HL.out.step hW).cells)
        have h0 : Below W3.heap.size W3 W3.drew := (Below.refl _ _).drew
        have H0 := Lib.hid h0
        have hS0 := HK.out W3.drew h0
        clear h0 a0 a1 a2 d0 d1 d2
        go_upto_region 5 with (fail)
        go_cut [5, 6] (fun sp se wx => ∃ (xb : Nat), sp = .pointer (some ⟨xb, 0, none⟩) ∧ se = .int .i64 cr.2 ∧ Hid (Below W3.heap.size W3 wx) ∧ Hid (Blk wx xb 39 #[.slice none 0 0, .slice none 0 0, .slice none 0 0]))
        case first =>
          as_aux_lemma =>
          go_region_held3 (fun W => (W.cell? ⟨w.heap.size, 0, none⟩ = some (.int .i64 f.W) ∧ W.cell? ⟨w.heap.size, 1, none⟩ = some (.int .i64 f.H) ∧ W.cell? ⟨w.heap.size, 2, none⟩ = some (.slice A f.ps.length c) ∧ W.cell? ⟨w.heap.size + 1, 0, none⟩ = some (.slice A1 r.ws.length c1) ∧ W.cell? ⟨w.heap.size + 1, 1, none⟩ = some (.slice A2 r.hs.length c2) ∧ W.cell? ⟨w.heap.size + 1, 2, none⟩ = some (.slice A3 r.ts.length c3)))
            (first
              | exact hS0
              | exact HK.out _ hb6
              | exact HK.out _ (hb6.alloc hb6.size _)
              | exact HK.out _ (hb5.alloc hb5.size _)
              | exact HK.out _ (hb4.alloc hb4.size _)
              | exact HK.out _ ((below_new W3 _).drew)
              | exact HK.out _ hb5
              | exact HK.out _ hb4
              | exact HK.out _ ((hb6.setCell (p := ⟨W3.heap.size, 0, none⟩) (Nat.le_refl _) _).setCell (p := ⟨W3.heap.size, 1, none⟩) (Nat.le_refl _) _ |>.setCell (p := ⟨W3.heap.size, 2, none⟩) (Nat.le_refl _) _)
              | exact HK.out _ ((hb6.setCell (p := ⟨w4.heap.size, 0, none⟩) hb4.size _).setCell (p := ⟨w4.heap.size, 1, none⟩) hb4.size _ |>.setCell (p := ⟨w4.heap.size, 2, none⟩) hb4.size _)
              | exact HK.out _ ((hb6.setCell (p := ⟨w5.heap.size, 0, none⟩) hb5.size _).setCell (p := ⟨w5.heap.size, 1, none⟩) hb5.size _ |>.setCell (p := ⟨w5.heap.size, 2, none⟩) hb5.size _)
              | go_keep)
            (first
              | (go_at_call 28; (with_reducible refine (HCF.out W3.drew H0.out (Nat.le_refl _)).mono ?_); rintro e w4 ⟨vf, rfl, hf4, hb4'⟩; have hb4 : Below W3.heap.size W3 w4 := H0.out.trans hb4')
              | (go_at_call 28; (with_reducible refine (HCF.out (W3.alloc (Obj.cells #[Value.slice none 0 0, Value.slice none 0 0, Value.slice none 0 0] 39)).drew ((below_new W3 (Obj.cells #[Value.slice none 0 0, Value.slice none 0 0, Value.slice none 0 0] 39)).drew) (by simp [World.drew])).mono ?_); rintro e w4 ⟨vf, rfl, hf4, hb4'⟩; have hb4 : Below W3.heap.size W3 w4 := ((below_new W3 (Obj.cells #[Value.slice none 0 0, Value.slice none 0 0, Value.slice none 0 0] 39)).drew).trans (hb4'.mono ((below_new W3 (Obj.cells #[Value.slice none 0 0, Value.slice none 0 0, Value.slice none 0 0] 39)).drew).size); have sbk : Blk w4 W3.heap.size 39 #[Value.slice none 0 0, Value.slice none 0 0, Value.slice none 0 0] := (hb4'.block _ (by simp [World.drew])).trans (Blk.new W3 39 _))
              | (go_at_call 29; (with_reducible refine (HCR.out w4 hb4 hb4.size).mono ?_); rintro e w5 ⟨vr, rfl, hr5, hb5'⟩; have hb5 : Below W3.heap.size W3 w5 := hb4.trans (hb5'.mono hb4.size); have hf5 := hf4.below hb5'; (first | (have sbk := sbk.below hb5' sbk.lt) | skip))
              | (go_at_call 29; (with_reducible refine (HCR.out (w4.alloc (Obj.cells #[Value.slice none 0 0, Value.slice none 0 0, Value.slice none 0 0] 39)) (hb4.alloc hb4.size (Obj.cells #[Value.slice none 0 0, Value.slice none 0 0, Value.slice none 0 0] 39)) (hb4.alloc hb4.size (Obj.cells #[Value.slice none 0 0, Value.slice none 0 0, Value.slice none 0 0] 39)).size).mono ?_); rintro e w5 ⟨vr, rfl, hr5, hb5'⟩; have hb5 : Below W3.heap.size W3 w5 := (hb4.alloc hb4.size (Obj.cells #[Value.slice none 0 0, Value.slice none 0 0, Value.slice none 0 0] 39)).trans (hb5'.mono (hb4.alloc hb4.size (Obj.cells #[Value.slice none 0 0, Value.slice none 0 0, Value.slice none 0 0] 39)).size); have hf5 := (hf4.below (below_new w4 (Obj.cells #[Value.slice none 0 0, Value.slice none 0 0, Value.slice none 0 0] 39))).below hb5'; have sbk : Blk w5 w4.heap.size 39 #[Value.slice none 0 0, Value.slice none 0 0, Value.slice none 0 0] := (hb5'.block _ (by simp)).trans (Blk.new w4 39 _))
              | (go_at_call 46; (with_reducible refine (H46.out w5 vf vr hf5 hr5).mono ?_); rintro e w6 ⟨rfl, hb6'⟩; have hb6 : Below W3.heap.size W3 w6 := hb5.trans (hb6'.mono hb5.size); (first | (have sbk6 : Blk w6 W3.heap.size 39 #[Value.slice none 0 0, Value.slice none 0 0, Value.slice none 0 0] := sbk.below hb6' sbk.lt; have hu0 : w6.cell? ⟨W3.heap.size, 0, none⟩ = some (Value.slice none 0 0) := sbk6.cell 0; have hu1 : w6.cell? ⟨W3.heap.size, 1, none⟩ = some (Value.slice none 0 0) := sbk6.cell 1; have hu2 : w6.cell? ⟨W3.heap.size, 2, none⟩ = some (Value.slice none 0 0) := sbk6.cell 2; have hf0 := sbk6.frozen 0; have hf1 := sbk6.frozen 1; have hf2 := sbk6.frozen 2; have hsl := sbk6.lt; have gsb := sbk.lt) | (have sbk6 : Blk w6 w4.heap.size 39 #[Value.slice none 0 0, Value.slice none 0 0, Value.slice none 0 0] := sbk.below hb6' sbk.lt; have hu0 : w6.cell? ⟨w4.heap.size, 0, none⟩ = some (Value.slice none 0 0) := sbk6.cell 0; have hu1 : w6.cell? ⟨w4.heap.size, 1, none⟩ = some (Value.slice none 0 0) := sbk6.cell 1; have hu2 : w6.cell? ⟨w4.heap.size, 2, none⟩ = some (Value.slice none 0 0) := sbk6.cell 2; have hf0 := sbk6.frozen 0; have hf1 := sbk6.frozen 1; have hf2 := sbk6.frozen 2; have hsl := sbk6.lt; have gsb := sbk.lt) | skip))
              | (go_at_call 46; (with_reducible refine (H46.out (w5.alloc (Obj.cells #[Value.slice none 0 0, Value.slice none 0 0, Value.slice none 0 0] 39)) vf vr (hf5.below (below_new w5 (Obj.cells #[Value.slice none 0 0, Value.slice none 0 0, Value.slice none 0 0] 39))) (hr5.below (below_new w5 (Obj.cells #[Value.slice none 0 0, Value.slice none 0 0, Value.slice none 0 0] 39)))).mono ?_); rintro e w6 ⟨rfl, hb6'⟩; have hb6 : Below W3.heap.size W3 w6 := (hb5.alloc hb5.size (Obj.cells #[Value.slice none 0 0, Value.slice none 0 0, Value.slice none 0 0] 39)).trans (hb6'.mono (hb5.alloc hb5.size (Obj.cells #[Value.slice none 0 0, Value.slice none 0 0, Value.slice none 0 0] 39)).size); (have sbk6 : Blk w6 w5.heap.size 39 #[Value.slice none 0 0, Value.slice none 0 0, Value.slice none 0 0] := (hb6'.block _ (by simp)).trans (Blk.new w5 39 _); have hu0 : w6.cell? ⟨w5.heap.size, 0, none⟩ = some (Value.slice none 0 0) := sbk6.cell 0; have hu1 : w6.cell? ⟨w5.heap.size, 1, none⟩ = some (Value.slice none 0 0) := sbk6.cell 1; have hu2 : w6.cell? ⟨w5.heap.size, 2, none⟩ = some (Value.slice none 0 0) := sbk6.cell 2; have hf0 := sbk6.frozen 0; have hf1 := sbk6.frozen 1; have hf2 := sbk6.frozen 2; have hsl := sbk6.lt)))
          all_goals first
            | (have hXB := ((sbk6.set_ 0 (.slice none 0 0)).set_ 1 (.slice none 0 0)).set_ 2 (.slice none 0 0)
               have hBW := ((hb6.setCell (p := ⟨W3.heap.size, 0, none⟩) (Nat.le_refl _) (.slice none 0 0)).setCell (p := ⟨W3.heap.size, 1, none⟩) (Nat.le_refl _) (.slice none 0 0)).setCell (p := ⟨W3.heap.size, 2, none⟩) (Nat.le_refl _) (.slice none 0 0)
               have HXB := Lib.hid hXB
               have HBW := Lib.hid hBW
               clear hXB hBW sbk6
               go_wp2_with fail
               go_meet
               exact ⟨W3.heap.size, rfl, rfl, HBW.out, HXB.out⟩)
            | (have hXB := ((sbk6.set_ 0 (.slice none 0 0)).set_ 1 (.slice none 0 0)).set_ 2 (.slice none 0 0)
               have hBW := ((hb6.setCell (p := ⟨w4.heap.size, 0, none⟩) (hb4.size) (.slice none 0 0)).setCell (p := ⟨w4.heap.size, 1, none⟩) (hb4.size) (.slice none 0 0)).setCell (p := ⟨w4.heap.size, 2, none⟩) (hb4.size) (.slice none 0 0)
               have HXB := Lib.hid hXB
               have HBW := Lib.hid hBW
               clear hXB hBW sbk6
               go_wp2_with fail
               go_meet
               exact ⟨w4.heap.size, rfl, rfl, HBW.out, HXB.out⟩)
            | (have hXB := ((sbk6.set_ 0 (.slice none 0 0)).set_ 1 (.slice none 0 0)).set_ 2 (.slice none 0 0)
               have hBW := ((hb6.setCell (p := ⟨w5.heap.size, 0, none⟩) (hb5.size) (.slice none 0 0)).setCell (p := ⟨w5.heap.size, 1, none⟩) (hb5.size) (.slice none 0 0)).setCell (p := ⟨w5.heap.size, 2, none⟩) (hb5.size) (.slice none 0 0)
               have HXB := Lib.hid hXB
               have HBW := Lib.hid hBW
               clear hXB hBW sbk6
               go_wp2_with fail
               go_meet
               exact ⟨w5.heap.size, rfl, rfl, HBW.out, HXB.out⟩)
            | (have hXB := Blk.new w6 39 #[.slice none 0 0, .slice none 0 0, .slice none 0 0]
               have hBW := hb6.alloc hb6.size (.cells #[.slice none 0 0, .slice none 0 0, .slice none 0 0] 39)
               have HXB := Lib.hid hXB
               have HBW := Lib.hid hBW
               clear hXB hBW
               go_wp2_with fail
               go_meet
               exact ⟨w6.heap.size, rfl, rfl, HBW.out, HXB.out⟩)
        case rest =>
          as_aux_lemma =>
          obtain ⟨xb, rfl, rfl, HB5, HXB⟩ := hcut
          have HLn := Lib.hid (HL.out.step HB5.out)
          clear HL HCF HCR HK H0 hS0 HB5
          have HL := Lib.hid HLn.out
          clear HLn
          obtain ⟨a0, a1, a2, d0, d1, d2⟩ := HL.out.cells
          have HCALL := Lib.hid (HCK.out wc HL.out)
          clear HCK
          go_wp2_with fail
          refine HCALL.out.mono ?_
          rintro e W6 ⟨rfl, e6⟩
          have HXB6 := Lib.hid (HXB.out.below e6 HXB.out.lt)
          have HL6 := Lib.hid (HL.out.step e6)
          clear HL HXB HCALL a0 a1 a2 d0 d1 d2 e6
          have x0 : W6.cell? ⟨xb, 0, none⟩ = some (.slice none 0 0) := HXB6.out.cell 0
          have x1 : W6.cell? ⟨xb, 1, none⟩ = some (.slice none 0 0) := HXB6.out.cell 1
          have x2 : W6.cell? ⟨xb, 2, none⟩ = some (.slice none 0 0) := HXB6.out.cell 2
          generalize cr.2 = c2e at *
          generalize cr.1 = c1e at *
          go_wp2_with fail
          refine (sameReal_any ⟨[], [], []⟩ _ _ W6 (nils_at W6) (nils_at W6) (by simp) (by simp) (by simp)).mono ?_
          rintro e w8 ⟨rfl, e8⟩
          have HB8 := Lib.hid (HL6.out.B.trans (e8.mono HL6.out.B.size))
          clear e8 x0 x1 x2 HXB6 HL6
          go_wp2_with fail
          go_ret
          exact ⟨rfl, HB8.out⟩
end Go.Proofs.Ytlfeoofchebbkaa
