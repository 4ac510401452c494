/- FormeLocked: behind the driving the sizes fit; each quoin has no travel left, or is held in its direction; what was held stays held; driven once more nothing changes. -/
import Derived.Test.YtlfeoofchebbkaaSrl
import Derived.Test.YtlfeoofchebbkaaDrk
import Derived.Test.YtlfeoofchebbkaaHol
namespace Go.Proofs.Ytlfeoofchebbkaa
set_option linter.unusedSimpArgs false
set_option linter.unusedVariables false
open Go.RowKit
theorem within49_t {n lo hi : Int} (h : win n lo hi = true) (w : World) : Calls Try.prog 49 #[.int .i64 n, .int .i64 lo, .int .i64 hi] w fun e w' => e = .returned (.bool true) ∧ w' = w :=
  (within49_any n lo hi w).mono fun _ _ ⟨h1, h2⟩ => ⟨by rw [h1, h], h2.symm⟩
set_option maxRecDepth 100000 in
set_option maxHeartbeats 8000000 in
theorem locked_any (f : Forme) (r : Real) (A A1 A2 A3 : Option Addr) (b off b1 o1 b2 o2 b3 o3 c c1 c2 c3 : Nat) (w : World) (h : FR w w.heap.size f r A A1 A2 A3 b off b1 o1 b2 o2 b3 o3) (hc : f.ps.length ≤ c) (hc1 : r.ws.length ≤ c1) (hc2 : r.hs.length ≤ c2) (hc3 : r.ts.length ≤ c3) (hm : c ≤ maxLen) (hm1 : c1 ≤ maxLen) (hm2 : c2 ≤ maxLen) (hm3 : c3 ≤ maxLen) :
    Calls Try.prog 8 #[.agg #[.int .i64 f.W, .int .i64 f.H, .slice A f.ps.length c], .agg #[.slice A1 r.ws.length c1, .slice A2 r.hs.length c2, .slice A3 r.ts.length c3]] w fun e w' => e = .returned (.bool true) ∧ Below w.heap.size w w' := by
  obtain ⟨B0, F0, T0, Z0⟩ := boxes w f (.slice A f.ps.length c) (.slice A1 r.ws.length c1) (.slice A2 r.hs.length c2) (.slice A3 r.ts.length c3)
  have hHL : LW w _ f r A A1 A2 A3 b off c b1 o1 c1 b2 o2 c2 b3 o3 c3 := ⟨B0, F0, T0, h.below B0, by omega⟩
  unfold maxLen at hm hm1 hm2 hm3
  go_enter Try.func8, Try.ntmps8
  go_wp2_with fail
  generalize (w.alloc (.cells #[.int .i64 f.W, .int .i64 f.H, .slice A f.ps.length c] 37)).alloc (.cells #[.slice A1 r.ws.length c1, .slice A2 r.hs.length c2, .slice A3 r.ts.length c3] 39) = W0 at *
  have HL0 := Lib.hid hHL
  clear hHL B0 F0 T0 Z0 h
  refine (awake_any _).mono ?_
  rintro e W1 ⟨rfl, e1⟩
  have HL := Lib.hid (HL0.out.step e1)
  clear HL0 e1
  obtain ⟨a0, a1, a2, d0, d1, d2⟩ := HL.out.cells
  go_wp2_with fail
  refine (light_any f A b off c W1 HL.out.fr.la HL.out.fr.ps (by omega)).mono ?_
  rintro e W2 ⟨rfl, e1⟩
  have HL2 := Lib.hid (HL.out.step e1)
  clear HL e1 a0 a1 a2 d0 d1 d2
  obtain ⟨a0, a1, a2, d0, d1, d2⟩ := HL2.out.cells
  have HLT := Lib.hid (fun h => lightB_t (f := f) h)
  generalize lightB f = lb at *
  cases lb with
  | false =>
    go_wp2_with fail
    go_ret
    exact ⟨rfl, HL2.out.B⟩
  | true =>
    obtain ⟨hnm, hlen⟩ := HLT.out rfl
    have HNM := Lib.hid hnm
    clear hnm HLT
    go_wp2_with fail
    refine (few_any r A1 A2 A3 c1 c2 c3 W2).mono ?_
    rintro e W3 ⟨rfl, e1⟩
    have HL := Lib.hid (HL2.out.step e1)
    clear HL2 e1 a0 a1 a2 d0 d1 d2
    obtain ⟨a0, a1, a2, d0, d1, d2⟩ := HL.out.cells
    have HLT := Lib.hid (fun h => fewB_t (r := r) h)
    generalize fewB r = lb at *
    cases lb with
    | false =>
      go_wp2_with fail
      go_ret
      exact ⟨rfl, HL.out.B⟩
    | true =>
      obtain ⟨hl1, hl2, hl3⟩ := HLT.out rfl
      clear HLT
      by_cases hs : (checkR f r).2 = 0
      · obtain ⟨hok, -, -⟩ := checkR_zero hs
        have hbe := behind hok.right.toLaid (okf_of hs) f.ps.length (Nat.le_refl _)
        have hxx := checkR_behind hs hbe
        have hstay := driven_stay hok.right.toLaid hbe f.ps.length (Nat.le_refl _)
        have H37 : Hid (AtCopies 37 f r (HeldV f r)) := fun W vf vr hf hr => (held_at f r HNM.out (by omega) W vf vr hf hr).mono fun _ _ h => (h.yes hs).v (by omega)
        have H46 : Hid (AtCopies 46 f r (DrvYes (r.driven f f.ps.length))) := drivenY_at f r HNM.out (by omega) hs
        generalize r.driven f f.ps.length = x at *
        have hs2 : (checkR f x).2 = 0 := by rw [hxx]
        have H37x : Hid (AtCopies 37 f x (HeldV f x)) := fun W vf vr hf hr => (held_at f x HNM.out (by omega) W vf vr hf hr).mono fun _ _ h => (h.yes hs2).v (by omega)
        have H46x : Hid (AtCopies 46 f x (DrvYes x)) := by
          have := drivenY_at f x HNM.out (by omega) hs2
          rwa [hstay] at this
        have HKP : Hid (∀ j, j < f.ps.length → Kept f r x j) := (show ∀ j, _ from fun j hj => kept hok.right.toLaid hbe hj)
        have HKD : Hid (∀ j, j < f.ps.length → 1 ≤ (gp f.ps j).kind ∧ (gp f.ps j).kind ≤ 4) := (show ∀ j, _ from fun j hj => by rw [gp_get hj]; exact hok.right.kind _ (List.getElem_mem hj))
        have HHL : Hid ((heldL f r).length = f.ps.length) := heldL_len f r _
        have HHX : Hid ((heldL f x).length = f.ps.length) := heldL_len f x _
        have HGR : Hid (∀ j, j < f.ps.length → gz (heldL f r) j = heldA f r j + heldD f r j) := (show ∀ j, _ from fun j hj => heldL_get f r _ j hj)
        have HGX : Hid (∀ j, j < f.ps.length → gz (heldL f x) j = heldA f x j + heldD f x j) := (show ∀ j, _ from fun j hj => heldL_get f x _ j hj)
        have hx1 := hbe.ok.fit.ws.len
        have hx2 := hbe.ok.fit.hs.len
        have hx3 := hbe.ok.fit.ts
        have hr1 := hok.ws.len
        have hr2 := hok.hs.len
        have hr3 := hok.ts
        have HX1 := Lib.hid hx1
        have HX2 := Lib.hid hx2
        have HX3 := Lib.hid hx3
        have HR1 := Lib.hid hr1
        have HR2 := Lib.hid hr2
        have HR3 := Lib.hid hr3
        clear hok hbe hxx hstay hs hs2 hx1 hx2 hx3 hr1 hr2 hr3
        unfold HeldV at H37 H37x
        unfold DrvYes at H46 H46x
        generalize heldL f r = hl at *
        generalize heldL f x = hlx at *
        go_wp2_with fail
        have HCF := Lib.hid (copyF_at f A b off c W3.heap.size W3 HL.out.fr.la HL.out.fr.ps (by omega))
        have HCR := Lib.hid (copyR_at r A1 A2 A3 b1 o1 b2 o2 b3 o3 c1 c2 c3 W3.heap.size W3 HL.out.fr.rr (by omega) (by omega) (by omega))
        have HK : Hid (∀ W, Below W3.heap.size W3 W → (W.cell? ⟨w.heap.size, 0, none⟩ = some (.int .i64 f.W) ∧ W.cell? ⟨w.heap.size, 1, none⟩ = some (.int .i64 f.H) ∧ W.cell? ⟨w.heap.size, 2, none⟩ = some (.slice A f.ps.length c) ∧ W.cell? ⟨w.heap.size + 1, 0, none⟩ = some (.slice A1 r.ws.length c1) ∧ W.cell? ⟨w.heap.size + 1, 1, none⟩ = some (.slice A2 r.hs.length c2) ∧ W.cell? ⟨w.heap.size + 1, 2, none⟩ = some (.slice A3 r.ts.length c3))) := fun W hW => (HL.out.step hW).cells
        have h0 : Below W3.heap.size W3 W3.drew := (Below.refl _ _).drew
        have H0 := Lib.hid h0
        have hS0 := HK.out W3.drew h0
        clear h0 a0 a1 a2 d0 d1 d2
        go_region_held3 (fun W => (W.cell? ⟨w.heap.size, 0, none⟩ = some (.int .i64 f.W) ∧ W.cell? ⟨w.heap.size, 1, none⟩ = some (.int .i64 f.H) ∧ W.cell? ⟨w.heap.size, 2, none⟩ = some (.slice A f.ps.length c) ∧ W.cell? ⟨w.heap.size + 1, 0, none⟩ = some (.slice A1 r.ws.length c1) ∧ W.cell? ⟨w.heap.size + 1, 1, none⟩ = some (.slice A2 r.hs.length c2) ∧ W.cell? ⟨w.heap.size + 1, 2, none⟩ = some (.slice A3 r.ts.length c3)))
          (first
            | exact hS0
            | exact HK.out _ hb6
            | exact HK.out _ hb5
            | exact HK.out _ hb4
            | go_keep)
          (first
            | (go_at_call 28; (with_reducible refine (HCF.out _ H0.out (Nat.le_refl _)).mono ?_); rintro e w4 ⟨vf, rfl, hf4, hb4'⟩; have hb4 : Below W3.heap.size W3 w4 := H0.out.trans hb4')
            | (go_at_call 29; (with_reducible refine (HCR.out _ hb4 hb4.size).mono ?_); rintro e w5 ⟨vr, rfl, hr5, hb5'⟩; have hb5 : Below W3.heap.size W3 w5 := hb4.trans (hb5'.mono hb4.size))
            | (go_at_call 37; (with_reducible refine (H37.out w5 vf vr (hf4.below hb5') hr5).mono ?_); rintro e W4 ⟨vh, rfl, hvh, hb6'⟩; have hb6 : Below W3.heap.size W3 W4 := hb5.trans (hb6'.mono hb5.size)))
        have HLn := Lib.hid (HL.out.step hb6)
        have HX6 := Lib.hid hb6
        have HVH := Lib.hid hvh
        clear hvh
        clear HL HCF HCR HK H0 hS0 hb4 hb5 hb4' hb5' hb6 hb6' hf4 hr5
        have HL := Lib.hid HLn.out
        clear HLn
        obtain ⟨a0, a1, a2, d0, d1, d2⟩ := HL.out.cells

        go_wp2_with fail

        have HCF := Lib.hid (copyF_at f A b off c W4.heap.size W4 HL.out.fr.la HL.out.fr.ps (by omega))
        have HCR := Lib.hid (copyR_at r A1 A2 A3 b1 o1 b2 o2 b3 o3 c1 c2 c3 W4.heap.size W4 HL.out.fr.rr (by omega) (by omega) (by omega))
        have HK : Hid (∀ W, Below W4.heap.size W4 W → (W.cell? ⟨w.heap.size, 0, none⟩ = some (.int .i64 f.W) ∧ W.cell? ⟨w.heap.size, 1, none⟩ = some (.int .i64 f.H) ∧ W.cell? ⟨w.heap.size, 2, none⟩ = some (.slice A f.ps.length c) ∧ W.cell? ⟨w.heap.size + 1, 0, none⟩ = some (.slice A1 r.ws.length c1) ∧ W.cell? ⟨w.heap.size + 1, 1, none⟩ = some (.slice A2 r.hs.length c2) ∧ W.cell? ⟨w.heap.size + 1, 2, none⟩ = some (.slice A3 r.ts.length c3))) := (show ∀ W, _ from fun W hW => (HL.out.step hW).cells)
        have h0 : Below W4.heap.size W4 W4.drew := (Below.refl _ _).drew
        have H0 := Lib.hid h0
        have hS0 := HK.out W4.drew h0
        clear h0 a0 a1 a2 d0 d1 d2
        go_upto_region 8 with (fail)
        go_cut [7, 8] (fun sp se wx => ∃ (xb : Nat) (X1 X2 X3 : Option Addr) (z1 z2 z3 y1 y2 y3 : Nat), sp = .pointer (some ⟨xb, 0, none⟩) ∧ se = .int .i64 0 ∧ Hid (Below W4.heap.size W4 wx) ∧ Hid (XB wx xb f.ps.length x X1 X2 X3 z1 z2 z3 y1 y2 y3))
        case first =>
          as_aux_lemma =>
          go_region_held3 (fun W => (W.cell? ⟨w.heap.size, 0, none⟩ = some (.int .i64 f.W) ∧ W.cell? ⟨w.heap.size, 1, none⟩ = some (.int .i64 f.H) ∧ W.cell? ⟨w.heap.size, 2, none⟩ = some (.slice A f.ps.length c) ∧ W.cell? ⟨w.heap.size + 1, 0, none⟩ = some (.slice A1 r.ws.length c1) ∧ W.cell? ⟨w.heap.size + 1, 1, none⟩ = some (.slice A2 r.hs.length c2) ∧ W.cell? ⟨w.heap.size + 1, 2, none⟩ = some (.slice A3 r.ts.length c3)))
            (first
              | exact hS0
              | exact HK.out _ hb6
              | exact HK.out _ (hb6.alloc hb6.size _)
              | exact HK.out _ (hb5.alloc hb5.size _)
              | exact HK.out _ (hb4.alloc hb4.size _)
              | exact HK.out _ ((below_new W4 _).drew)
              | exact HK.out _ hb5
              | exact HK.out _ hb4
              | exact HK.out _ ((hb6.setCell (p := ⟨W4.heap.size, 0, none⟩) (Nat.le_refl _) _).setCell (p := ⟨W4.heap.size, 1, none⟩) (Nat.le_refl _) _ |>.setCell (p := ⟨W4.heap.size, 2, none⟩) (Nat.le_refl _) _)
              | exact HK.out _ ((hb6.setCell (p := ⟨w4.heap.size, 0, none⟩) hb4.size _).setCell (p := ⟨w4.heap.size, 1, none⟩) hb4.size _ |>.setCell (p := ⟨w4.heap.size, 2, none⟩) hb4.size _)
              | exact HK.out _ ((hb6.setCell (p := ⟨w5.heap.size, 0, none⟩) hb5.size _).setCell (p := ⟨w5.heap.size, 1, none⟩) hb5.size _ |>.setCell (p := ⟨w5.heap.size, 2, none⟩) hb5.size _)
              | go_keep)
            (first
              | (go_at_call 28; (with_reducible refine (HCF.out W4.drew H0.out (Nat.le_refl _)).mono ?_); rintro e w4 ⟨vf, rfl, hf4, hb4'⟩; have hb4 : Below W4.heap.size W4 w4 := H0.out.trans hb4')
              | (go_at_call 28; (with_reducible refine (HCF.out (W4.alloc (Obj.cells #[Value.slice none 0 0, Value.slice none 0 0, Value.slice none 0 0] 39)).drew ((below_new W4 (Obj.cells #[Value.slice none 0 0, Value.slice none 0 0, Value.slice none 0 0] 39)).drew) (by simp [World.drew])).mono ?_); rintro e w4 ⟨vf, rfl, hf4, hb4'⟩; have hb4 : Below W4.heap.size W4 w4 := ((below_new W4 (Obj.cells #[Value.slice none 0 0, Value.slice none 0 0, Value.slice none 0 0] 39)).drew).trans (hb4'.mono ((below_new W4 (Obj.cells #[Value.slice none 0 0, Value.slice none 0 0, Value.slice none 0 0] 39)).drew).size); have sbk : Blk w4 W4.heap.size 39 #[Value.slice none 0 0, Value.slice none 0 0, Value.slice none 0 0] := (hb4'.block _ (by simp [World.drew])).trans (Blk.new W4 39 _))
              | (go_at_call 29; (with_reducible refine (HCR.out w4 hb4 hb4.size).mono ?_); rintro e w5 ⟨vr, rfl, hr5, hb5'⟩; have hb5 : Below W4.heap.size W4 w5 := hb4.trans (hb5'.mono hb4.size); have hf5 := hf4.below hb5'; (first | (have sbk := sbk.below hb5' sbk.lt) | skip))
              | (go_at_call 29; (with_reducible refine (HCR.out (w4.alloc (Obj.cells #[Value.slice none 0 0, Value.slice none 0 0, Value.slice none 0 0] 39)) (hb4.alloc hb4.size (Obj.cells #[Value.slice none 0 0, Value.slice none 0 0, Value.slice none 0 0] 39)) (hb4.alloc hb4.size (Obj.cells #[Value.slice none 0 0, Value.slice none 0 0, Value.slice none 0 0] 39)).size).mono ?_); rintro e w5 ⟨vr, rfl, hr5, hb5'⟩; have hb5 : Below W4.heap.size W4 w5 := (hb4.alloc hb4.size (Obj.cells #[Value.slice none 0 0, Value.slice none 0 0, Value.slice none 0 0] 39)).trans (hb5'.mono (hb4.alloc hb4.size (Obj.cells #[Value.slice none 0 0, Value.slice none 0 0, Value.slice none 0 0] 39)).size); have hf5 := (hf4.below (below_new w4 (Obj.cells #[Value.slice none 0 0, Value.slice none 0 0, Value.slice none 0 0] 39))).below hb5'; have sbk : Blk w5 w4.heap.size 39 #[Value.slice none 0 0, Value.slice none 0 0, Value.slice none 0 0] := (hb5'.block _ (by simp)).trans (Blk.new w4 39 _))
              | (go_at_call 46; (with_reducible refine (H46.out w5 vf vr hf5 hr5).mono ?_); rintro e w6 ⟨v, rfl, ⟨V1, V2, V3, q1, q2, q3, t1, t2, t3, rfl, hra, m1, m2, m3, g1, g2, g3⟩, hb6'⟩; have hb6 : Below W4.heap.size W4 w6 := hb5.trans (hb6'.mono hb5.size); have g1 : w5.heap.size ≤ t1 := (by first | omega | (have := g1; simp at this; omega)); have g2 : w5.heap.size ≤ t2 := (by first | omega | (have := g2; simp at this; omega)); have g3 : w5.heap.size ≤ t3 := (by first | omega | (have := g3; simp at this; omega)); (first | (have sbk6 : Blk w6 W4.heap.size 39 #[Value.slice none 0 0, Value.slice none 0 0, Value.slice none 0 0] := sbk.below hb6' sbk.lt; have hu0 : w6.cell? ⟨W4.heap.size, 0, none⟩ = some (Value.slice none 0 0) := sbk6.cell 0; have hu1 : w6.cell? ⟨W4.heap.size, 1, none⟩ = some (Value.slice none 0 0) := sbk6.cell 1; have hu2 : w6.cell? ⟨W4.heap.size, 2, none⟩ = some (Value.slice none 0 0) := sbk6.cell 2; have hf0 := sbk6.frozen 0; have hf1 := sbk6.frozen 1; have hf2 := sbk6.frozen 2; have hsl := sbk6.lt; have gsb := sbk.lt) | (have sbk6 : Blk w6 w4.heap.size 39 #[Value.slice none 0 0, Value.slice none 0 0, Value.slice none 0 0] := sbk.below hb6' sbk.lt; have hu0 : w6.cell? ⟨w4.heap.size, 0, none⟩ = some (Value.slice none 0 0) := sbk6.cell 0; have hu1 : w6.cell? ⟨w4.heap.size, 1, none⟩ = some (Value.slice none 0 0) := sbk6.cell 1; have hu2 : w6.cell? ⟨w4.heap.size, 2, none⟩ = some (Value.slice none 0 0) := sbk6.cell 2; have hf0 := sbk6.frozen 0; have hf1 := sbk6.frozen 1; have hf2 := sbk6.frozen 2; have hsl := sbk6.lt; have gsb := sbk.lt) | skip))
              | (go_at_call 46; (with_reducible refine (H46.out (w5.alloc (Obj.cells #[Value.slice none 0 0, Value.slice none 0 0, Value.slice none 0 0] 39)) vf vr (hf5.below (below_new w5 (Obj.cells #[Value.slice none 0 0, Value.slice none 0 0, Value.slice none 0 0] 39))) (hr5.below (below_new w5 (Obj.cells #[Value.slice none 0 0, Value.slice none 0 0, Value.slice none 0 0] 39)))).mono ?_); rintro e w6 ⟨v, rfl, ⟨V1, V2, V3, q1, q2, q3, t1, t2, t3, rfl, hra, m1, m2, m3, g1, g2, g3⟩, hb6'⟩; have hb6 : Below W4.heap.size W4 w6 := (hb5.alloc hb5.size (Obj.cells #[Value.slice none 0 0, Value.slice none 0 0, Value.slice none 0 0] 39)).trans (hb6'.mono (hb5.alloc hb5.size (Obj.cells #[Value.slice none 0 0, Value.slice none 0 0, Value.slice none 0 0] 39)).size); have g1 : w5.heap.size + 1 ≤ t1 := (by first | omega | (have := g1; simp at this; omega)); have g2 : w5.heap.size + 1 ≤ t2 := (by first | omega | (have := g2; simp at this; omega)); have g3 : w5.heap.size + 1 ≤ t3 := (by first | omega | (have := g3; simp at this; omega)); (have sbk6 : Blk w6 w5.heap.size 39 #[Value.slice none 0 0, Value.slice none 0 0, Value.slice none 0 0] := (hb6'.block _ (by simp)).trans (Blk.new w5 39 _); have hu0 : w6.cell? ⟨w5.heap.size, 0, none⟩ = some (Value.slice none 0 0) := sbk6.cell 0; have hu1 : w6.cell? ⟨w5.heap.size, 1, none⟩ = some (Value.slice none 0 0) := sbk6.cell 1; have hu2 : w6.cell? ⟨w5.heap.size, 2, none⟩ = some (Value.slice none 0 0) := sbk6.cell 2; have hf0 := sbk6.frozen 0; have hf1 := sbk6.frozen 1; have hf2 := sbk6.frozen 2; have hsl := sbk6.lt)))
          all_goals rw [HX1.out, HX2.out, HX3.out]
          all_goals first
            | (have hXB := xb_set (x := x) (n := f.ps.length) (B := w5.heap.size) (sb := W4.heap.size) sbk6 hra g1 g2 g3 (gsb) HX1.out HX2.out HX3.out (HX1.out ▸ m1) (HX2.out ▸ m2) (HX3.out ▸ m3)
               have hBW := ((hb6.setCell (p := ⟨W4.heap.size, 0, none⟩) (Nat.le_refl _) (.slice V1 f.ps.length q1)).setCell (p := ⟨W4.heap.size, 1, none⟩) (Nat.le_refl _) (.slice V2 f.ps.length q2)).setCell (p := ⟨W4.heap.size, 2, none⟩) (Nat.le_refl _) (.slice V3 f.ps.length q3)
               have HXB := Lib.hid hXB
               have HBW := Lib.hid hBW
               clear hXB hBW sbk6 hra g1 g2 g3
               go_wp2_with fail
               go_meet
               exact ⟨W4.heap.size, V1, V2, V3, q1, q2, q3, t1, t2, t3, rfl, rfl, HBW.out, HXB.out⟩)
            | (have hXB := xb_set (x := x) (n := f.ps.length) (B := w5.heap.size) (sb := w4.heap.size) sbk6 hra g1 g2 g3 (gsb) HX1.out HX2.out HX3.out (HX1.out ▸ m1) (HX2.out ▸ m2) (HX3.out ▸ m3)
               have hBW := ((hb6.setCell (p := ⟨w4.heap.size, 0, none⟩) (hb4.size) (.slice V1 f.ps.length q1)).setCell (p := ⟨w4.heap.size, 1, none⟩) (hb4.size) (.slice V2 f.ps.length q2)).setCell (p := ⟨w4.heap.size, 2, none⟩) (hb4.size) (.slice V3 f.ps.length q3)
               have HXB := Lib.hid hXB
               have HBW := Lib.hid hBW
               clear hXB hBW sbk6 hra g1 g2 g3
               go_wp2_with fail
               go_meet
               exact ⟨w4.heap.size, V1, V2, V3, q1, q2, q3, t1, t2, t3, rfl, rfl, HBW.out, HXB.out⟩)
            | (have hXB := xb_set (x := x) (n := f.ps.length) (B := w5.heap.size + 1) (sb := w5.heap.size) sbk6 hra g1 g2 g3 (Nat.lt_succ_self _) HX1.out HX2.out HX3.out (HX1.out ▸ m1) (HX2.out ▸ m2) (HX3.out ▸ m3)
               have hBW := ((hb6.setCell (p := ⟨w5.heap.size, 0, none⟩) (hb5.size) (.slice V1 f.ps.length q1)).setCell (p := ⟨w5.heap.size, 1, none⟩) (hb5.size) (.slice V2 f.ps.length q2)).setCell (p := ⟨w5.heap.size, 2, none⟩) (hb5.size) (.slice V3 f.ps.length q3)
               have HXB := Lib.hid hXB
               have HBW := Lib.hid hBW
               clear hXB hBW sbk6 hra g1 g2 g3
               go_wp2_with fail
               go_meet
               exact ⟨w5.heap.size, V1, V2, V3, q1, q2, q3, t1, t2, t3, rfl, rfl, HBW.out, HXB.out⟩)
            | (have hXB := xb_new (x := x) (n := f.ps.length) hra HX1.out HX2.out HX3.out (HX1.out ▸ m1) (HX2.out ▸ m2) (HX3.out ▸ m3)
               have hBW := hb6.alloc hb6.size (.cells #[.slice V1 f.ps.length q1, .slice V2 f.ps.length q2, .slice V3 f.ps.length q3] 39)
               have HXB := Lib.hid hXB
               have HBW := Lib.hid hBW
               clear hXB hBW hra
               go_wp2_with fail
               go_meet
               exact ⟨w6.heap.size, V1, V2, V3, q1, q2, q3, t1, t2, t3, rfl, rfl, HBW.out, HXB.out⟩)
        case rest =>
          as_aux_lemma =>
          obtain ⟨xb, X1, X2, X3, z1, z2, z3, y1, y2, y3, rfl, rfl, HB5, HXB⟩ := hcut
          have HLn := Lib.hid (HL.out.step HB5.out)
          have HVHn := Lib.hid (HVH.out.below HB5.out)
          clear HL HVH HCF HCR HK H0 hS0 HB5 HX6
          have HL := Lib.hid HLn.out
          have HVH := Lib.hid HVHn.out
          clear HLn HVHn
          obtain ⟨a0, a1, a2, d0, d1, d2⟩ := HL.out.cells
          have x0 : World.cell? wc ⟨xb, 0, none⟩ = some (.slice X1 f.ps.length z1) := HXB.out.blk.cell 0
          have x1 : World.cell? wc ⟨xb, 1, none⟩ = some (.slice X2 f.ps.length z2) := HXB.out.blk.cell 1
          have x2 : World.cell? wc ⟨xb, 2, none⟩ = some (.slice X3 f.ps.length z3) := HXB.out.blk.cell 2
          go_wp2_with fail

          have HCF := Lib.hid (copyF_at f A b off c wc.heap.size wc HL.out.fr.la HL.out.fr.ps (by omega))
          have HCR := Lib.hid (HXB.out.copy (by omega))
          have HK : Hid (∀ W, Below wc.heap.size wc W → (W.cell? ⟨w.heap.size, 0, none⟩ = some (.int .i64 f.W) ∧ W.cell? ⟨w.heap.size, 1, none⟩ = some (.int .i64 f.H) ∧ W.cell? ⟨w.heap.size, 2, none⟩ = some (.slice A f.ps.length c) ∧ W.cell? ⟨xb, 0, none⟩ = some (.slice X1 f.ps.length z1) ∧ W.cell? ⟨xb, 1, none⟩ = some (.slice X2 f.ps.length z2) ∧ W.cell? ⟨xb, 2, none⟩ = some (.slice X3 f.ps.length z3))) := fun W hW => ⟨(HL.out.step hW).cells.1, (HL.out.step hW).cells.2.1, (HL.out.step hW).cells.2.2.1, (HXB.out.below hW).blk.cell 0, (HXB.out.below hW).blk.cell 1, (HXB.out.below hW).blk.cell 2⟩
          have h0 : Below wc.heap.size wc wc.drew := (Below.refl _ _).drew
          have H0 := Lib.hid h0
          have hS0 := HK.out wc.drew h0
          clear h0 a0 a1 a2 d0 d1 d2
          go_region_held3 (fun W => (W.cell? ⟨w.heap.size, 0, none⟩ = some (.int .i64 f.W) ∧ W.cell? ⟨w.heap.size, 1, none⟩ = some (.int .i64 f.H) ∧ W.cell? ⟨w.heap.size, 2, none⟩ = some (.slice A f.ps.length c) ∧ W.cell? ⟨xb, 0, none⟩ = some (.slice X1 f.ps.length z1) ∧ W.cell? ⟨xb, 1, none⟩ = some (.slice X2 f.ps.length z2) ∧ W.cell? ⟨xb, 2, none⟩ = some (.slice X3 f.ps.length z3)))
            (first
              | exact hS0
              | exact HK.out _ hb6
              | exact HK.out _ hb5
              | exact HK.out _ hb4
              | go_keep)
            (first
              | (go_at_call 28; (with_reducible refine (HCF.out _ H0.out (Nat.le_refl _)).mono ?_); rintro e w4 ⟨vf, rfl, hf4, hb4'⟩; have hb4 : Below wc.heap.size wc w4 := H0.out.trans hb4')
              | (go_at_call 29; (with_reducible refine (HCR.out _ hb4 hb4.size).mono ?_); rintro e w5 ⟨vr, rfl, hr5, hb5'⟩; have hb5 : Below wc.heap.size wc w5 := hb4.trans (hb5'.mono hb4.size))
              | (go_at_call 37; (with_reducible refine (H37x.out w5 vf vr (hf4.below hb5') hr5).mono ?_); rintro e W6 ⟨vx, rfl, hvx, hb6'⟩; have hb6 : Below wc.heap.size wc W6 := hb5.trans (hb6'.mono hb5.size)))
          have HLn := Lib.hid (HL.out.step hb6)
          have HX6 := Lib.hid hb6
          have HVHn := Lib.hid (HVH.out.below HX6.out)
          have HXBn := Lib.hid (HXB.out.below HX6.out)
          have HVX := Lib.hid hvx
          clear hvx HVH HXB x0 x1 x2
          have HVH := Lib.hid HVHn.out
          have HXB := Lib.hid HXBn.out
          clear HVHn HXBn
          clear HL HCF HCR HK H0 hS0 hb4 hb5 hb4' hb5' hb6 hb6' hf4 hr5
          have HL := Lib.hid HLn.out
          clear HLn
          obtain ⟨a0, a1, a2, d0, d1, d2⟩ := HL.out.cells
          have x0 : World.cell? W6 ⟨xb, 0, none⟩ = some (.slice X1 f.ps.length z1) := HXB.out.blk.cell 0
          have x1 : World.cell? W6 ⟨xb, 1, none⟩ = some (.slice X2 f.ps.length z2) := HXB.out.blk.cell 1
          have x2 : World.cell? W6 ⟨xb, 2, none⟩ = some (.slice X3 f.ps.length z3) := HXB.out.blk.cell 2
          go_wp2_with fail

          have HCF := Lib.hid (copyF_at f A b off c W6.heap.size W6 HL.out.fr.la HL.out.fr.ps (by omega))
          have HCR := Lib.hid (HXB.out.copy (by omega))
          have HK : Hid (∀ W, Below W6.heap.size W6 W → (W.cell? ⟨w.heap.size, 0, none⟩ = some (.int .i64 f.W) ∧ W.cell? ⟨w.heap.size, 1, none⟩ = some (.int .i64 f.H) ∧ W.cell? ⟨w.heap.size, 2, none⟩ = some (.slice A f.ps.length c) ∧ W.cell? ⟨xb, 0, none⟩ = some (.slice X1 f.ps.length z1) ∧ W.cell? ⟨xb, 1, none⟩ = some (.slice X2 f.ps.length z2) ∧ W.cell? ⟨xb, 2, none⟩ = some (.slice X3 f.ps.length z3))) := (show ∀ W, _ from fun W hW => ⟨(HL.out.step hW).cells.1, (HL.out.step hW).cells.2.1, (HL.out.step hW).cells.2.2.1, (HXB.out.below hW).blk.cell 0, (HXB.out.below hW).blk.cell 1, (HXB.out.below hW).blk.cell 2⟩)
          have h0 : Below W6.heap.size W6 W6.drew := (Below.refl _ _).drew
          have H0 := Lib.hid h0
          have hS0 := HK.out W6.drew h0
          clear h0 a0 a1 a2 d0 d1 d2 x0 x1 x2
          go_upto_region 12 with (fail)
          go_cut [11, 12] (fun sp se wx => ∃ (xb : Nat) (X1 X2 X3 : Option Addr) (z1 z2 z3 y1 y2 y3 : Nat), sp = .pointer (some ⟨xb, 0, none⟩) ∧ se = .int .i64 0 ∧ Hid (Below W6.heap.size W6 wx) ∧ Hid (XB wx xb f.ps.length x X1 X2 X3 z1 z2 z3 y1 y2 y3))
          case first =>
            as_aux_lemma =>
            go_region_held3 (fun W => (W.cell? ⟨w.heap.size, 0, none⟩ = some (.int .i64 f.W) ∧ W.cell? ⟨w.heap.size, 1, none⟩ = some (.int .i64 f.H) ∧ W.cell? ⟨w.heap.size, 2, none⟩ = some (.slice A f.ps.length c) ∧ W.cell? ⟨xb, 0, none⟩ = some (.slice X1 f.ps.length z1) ∧ W.cell? ⟨xb, 1, none⟩ = some (.slice X2 f.ps.length z2) ∧ W.cell? ⟨xb, 2, none⟩ = some (.slice X3 f.ps.length z3)))
              (first
                | exact hS0
                | exact HK.out _ hb6
                | exact HK.out _ (hb6.alloc hb6.size _)
                | exact HK.out _ (hb5.alloc hb5.size _)
                | exact HK.out _ (hb4.alloc hb4.size _)
                | exact HK.out _ ((below_new W6 _).drew)
                | exact HK.out _ hb5
                | exact HK.out _ hb4
                | exact HK.out _ ((hb6.setCell (p := ⟨W6.heap.size, 0, none⟩) (Nat.le_refl _) _).setCell (p := ⟨W6.heap.size, 1, none⟩) (Nat.le_refl _) _ |>.setCell (p := ⟨W6.heap.size, 2, none⟩) (Nat.le_refl _) _)
                | exact HK.out _ ((hb6.setCell (p := ⟨w4.heap.size, 0, none⟩) hb4.size _).setCell (p := ⟨w4.heap.size, 1, none⟩) hb4.size _ |>.setCell (p := ⟨w4.heap.size, 2, none⟩) hb4.size _)
                | exact HK.out _ ((hb6.setCell (p := ⟨w5.heap.size, 0, none⟩) hb5.size _).setCell (p := ⟨w5.heap.size, 1, none⟩) hb5.size _ |>.setCell (p := ⟨w5.heap.size, 2, none⟩) hb5.size _)
                | go_keep)
              (first
                | (go_at_call 28; (with_reducible refine (HCF.out W6.drew H0.out (Nat.le_refl _)).mono ?_); rintro e w4 ⟨vf, rfl, hf4, hb4'⟩; have hb4 : Below W6.heap.size W6 w4 := H0.out.trans hb4')
                | (go_at_call 28; (with_reducible refine (HCF.out (W6.alloc (Obj.cells #[Value.slice none 0 0, Value.slice none 0 0, Value.slice none 0 0] 39)).drew ((below_new W6 (Obj.cells #[Value.slice none 0 0, Value.slice none 0 0, Value.slice none 0 0] 39)).drew) (by simp [World.drew])).mono ?_); rintro e w4 ⟨vf, rfl, hf4, hb4'⟩; have hb4 : Below W6.heap.size W6 w4 := ((below_new W6 (Obj.cells #[Value.slice none 0 0, Value.slice none 0 0, Value.slice none 0 0] 39)).drew).trans (hb4'.mono ((below_new W6 (Obj.cells #[Value.slice none 0 0, Value.slice none 0 0, Value.slice none 0 0] 39)).drew).size); have sbk : Blk w4 W6.heap.size 39 #[Value.slice none 0 0, Value.slice none 0 0, Value.slice none 0 0] := (hb4'.block _ (by simp [World.drew])).trans (Blk.new W6 39 _))
                | (go_at_call 29; (with_reducible refine (HCR.out w4 hb4 hb4.size).mono ?_); rintro e w5 ⟨vr, rfl, hr5, hb5'⟩; have hb5 : Below W6.heap.size W6 w5 := hb4.trans (hb5'.mono hb4.size); have hf5 := hf4.below hb5'; (first | (have sbk := sbk.below hb5' sbk.lt) | skip))
                | (go_at_call 29; (with_reducible refine (HCR.out (w4.alloc (Obj.cells #[Value.slice none 0 0, Value.slice none 0 0, Value.slice none 0 0] 39)) (hb4.alloc hb4.size (Obj.cells #[Value.slice none 0 0, Value.slice none 0 0, Value.slice none 0 0] 39)) (hb4.alloc hb4.size (Obj.cells #[Value.slice none 0 0, Value.slice none 0 0, Value.slice none 0 0] 39)).size).mono ?_); rintro e w5 ⟨vr, rfl, hr5, hb5'⟩; have hb5 : Below W6.heap.size W6 w5 := (hb4.alloc hb4.size (Obj.cells #[Value.slice none 0 0, Value.slice none 0 0, Value.slice none 0 0] 39)).trans (hb5'.mono (hb4.alloc hb4.size (Obj.cells #[Value.slice none 0 0, Value.slice none 0 0, Value.slice none 0 0] 39)).size); have hf5 := (hf4.below (below_new w4 (Obj.cells #[Value.slice none 0 0, Value.slice none 0 0, Value.slice none 0 0] 39))).below hb5'; have sbk : Blk w5 w4.heap.size 39 #[Value.slice none 0 0, Value.slice none 0 0, Value.slice none 0 0] := (hb5'.block _ (by simp)).trans (Blk.new w4 39 _))
                | (go_at_call 46; (with_reducible refine (H46x.out w5 vf vr hf5 hr5).mono ?_); rintro e w6 ⟨v, rfl, ⟨V1, V2, V3, q1, q2, q3, t1, t2, t3, rfl, hra, m1, m2, m3, g1, g2, g3⟩, hb6'⟩; have hb6 : Below W6.heap.size W6 w6 := hb5.trans (hb6'.mono hb5.size); have g1 : w5.heap.size ≤ t1 := (by first | omega | (have := g1; simp at this; omega)); have g2 : w5.heap.size ≤ t2 := (by first | omega | (have := g2; simp at this; omega)); have g3 : w5.heap.size ≤ t3 := (by first | omega | (have := g3; simp at this; omega)); (first | (have sbk6 : Blk w6 W6.heap.size 39 #[Value.slice none 0 0, Value.slice none 0 0, Value.slice none 0 0] := sbk.below hb6' sbk.lt; have hu0 : w6.cell? ⟨W6.heap.size, 0, none⟩ = some (Value.slice none 0 0) := sbk6.cell 0; have hu1 : w6.cell? ⟨W6.heap.size, 1, none⟩ = some (Value.slice none 0 0) := sbk6.cell 1; have hu2 : w6.cell? ⟨W6.heap.size, 2, none⟩ = some (Value.slice none 0 0) := sbk6.cell 2; have hf0 := sbk6.frozen 0; have hf1 := sbk6.frozen 1; have hf2 := sbk6.frozen 2; have hsl := sbk6.lt; have gsb := sbk.lt) | (have sbk6 : Blk w6 w4.heap.size 39 #[Value.slice none 0 0, Value.slice none 0 0, Value.slice none 0 0] := sbk.below hb6' sbk.lt; have hu0 : w6.cell? ⟨w4.heap.size, 0, none⟩ = some (Value.slice none 0 0) := sbk6.cell 0; have hu1 : w6.cell? ⟨w4.heap.size, 1, none⟩ = some (Value.slice none 0 0) := sbk6.cell 1; have hu2 : w6.cell? ⟨w4.heap.size, 2, none⟩ = some (Value.slice none 0 0) := sbk6.cell 2; have hf0 := sbk6.frozen 0; have hf1 := sbk6.frozen 1; have hf2 := sbk6.frozen 2; have hsl := sbk6.lt; have gsb := sbk.lt) | skip))
                | (go_at_call 46; (with_reducible refine (H46x.out (w5.alloc (Obj.cells #[Value.slice none 0 0, Value.slice none 0 0, Value.slice none 0 0] 39)) vf vr (hf5.below (below_new w5 (Obj.cells #[Value.slice none 0 0, Value.slice none 0 0, Value.slice none 0 0] 39))) (hr5.below (below_new w5 (Obj.cells #[Value.slice none 0 0, Value.slice none 0 0, Value.slice none 0 0] 39)))).mono ?_); rintro e w6 ⟨v, rfl, ⟨V1, V2, V3, q1, q2, q3, t1, t2, t3, rfl, hra, m1, m2, m3, g1, g2, g3⟩, hb6'⟩; have hb6 : Below W6.heap.size W6 w6 := (hb5.alloc hb5.size (Obj.cells #[Value.slice none 0 0, Value.slice none 0 0, Value.slice none 0 0] 39)).trans (hb6'.mono (hb5.alloc hb5.size (Obj.cells #[Value.slice none 0 0, Value.slice none 0 0, Value.slice none 0 0] 39)).size); have g1 : w5.heap.size + 1 ≤ t1 := (by first | omega | (have := g1; simp at this; omega)); have g2 : w5.heap.size + 1 ≤ t2 := (by first | omega | (have := g2; simp at this; omega)); have g3 : w5.heap.size + 1 ≤ t3 := (by first | omega | (have := g3; simp at this; omega)); (have sbk6 : Blk w6 w5.heap.size 39 #[Value.slice none 0 0, Value.slice none 0 0, Value.slice none 0 0] := (hb6'.block _ (by simp)).trans (Blk.new w5 39 _); have hu0 : w6.cell? ⟨w5.heap.size, 0, none⟩ = some (Value.slice none 0 0) := sbk6.cell 0; have hu1 : w6.cell? ⟨w5.heap.size, 1, none⟩ = some (Value.slice none 0 0) := sbk6.cell 1; have hu2 : w6.cell? ⟨w5.heap.size, 2, none⟩ = some (Value.slice none 0 0) := sbk6.cell 2; have hf0 := sbk6.frozen 0; have hf1 := sbk6.frozen 1; have hf2 := sbk6.frozen 2; have hsl := sbk6.lt)))
            all_goals rw [HX1.out, HX2.out, HX3.out]
            all_goals first
              | (have hXB := xb_set (x := x) (n := f.ps.length) (B := w5.heap.size) (sb := W6.heap.size) sbk6 hra g1 g2 g3 (gsb) HX1.out HX2.out HX3.out (HX1.out ▸ m1) (HX2.out ▸ m2) (HX3.out ▸ m3)
                 have hBW := ((hb6.setCell (p := ⟨W6.heap.size, 0, none⟩) (Nat.le_refl _) (.slice V1 f.ps.length q1)).setCell (p := ⟨W6.heap.size, 1, none⟩) (Nat.le_refl _) (.slice V2 f.ps.length q2)).setCell (p := ⟨W6.heap.size, 2, none⟩) (Nat.le_refl _) (.slice V3 f.ps.length q3)
                 have HXB := Lib.hid hXB
                 have HBW := Lib.hid hBW
                 clear hXB hBW sbk6 hra g1 g2 g3
                 go_wp2_with fail
                 go_meet
                 exact ⟨W6.heap.size, V1, V2, V3, q1, q2, q3, t1, t2, t3, rfl, rfl, HBW.out, HXB.out⟩)
              | (have hXB := xb_set (x := x) (n := f.ps.length) (B := w5.heap.size) (sb := w4.heap.size) sbk6 hra g1 g2 g3 (gsb) HX1.out HX2.out HX3.out (HX1.out ▸ m1) (HX2.out ▸ m2) (HX3.out ▸ m3)
                 have hBW := ((hb6.setCell (p := ⟨w4.heap.size, 0, none⟩) (hb4.size) (.slice V1 f.ps.length q1)).setCell (p := ⟨w4.heap.size, 1, none⟩) (hb4.size) (.slice V2 f.ps.length q2)).setCell (p := ⟨w4.heap.size, 2, none⟩) (hb4.size) (.slice V3 f.ps.length q3)
                 have HXB := Lib.hid hXB
                 have HBW := Lib.hid hBW
                 clear hXB hBW sbk6 hra g1 g2 g3
                 go_wp2_with fail
                 go_meet
                 exact ⟨w4.heap.size, V1, V2, V3, q1, q2, q3, t1, t2, t3, rfl, rfl, HBW.out, HXB.out⟩)
              | (have hXB := xb_set (x := x) (n := f.ps.length) (B := w5.heap.size + 1) (sb := w5.heap.size) sbk6 hra g1 g2 g3 (Nat.lt_succ_self _) HX1.out HX2.out HX3.out (HX1.out ▸ m1) (HX2.out ▸ m2) (HX3.out ▸ m3)
                 have hBW := ((hb6.setCell (p := ⟨w5.heap.size, 0, none⟩) (hb5.size) (.slice V1 f.ps.length q1)).setCell (p := ⟨w5.heap.size, 1, none⟩) (hb5.size) (.slice V2 f.ps.length q2)).setCell (p := ⟨w5.heap.size, 2, none⟩) (hb5.size) (.slice V3 f.ps.length q3)
                 have HXB := Lib.hid hXB
                 have HBW := Lib.hid hBW
                 clear hXB hBW sbk6 hra g1 g2 g3
                 go_wp2_with fail
                 go_meet
                 exact ⟨w5.heap.size, V1, V2, V3, q1, q2, q3, t1, t2, t3, rfl, rfl, HBW.out, HXB.out⟩)
              | (have hXB := xb_new (x := x) (n := f.ps.length) hra HX1.out HX2.out HX3.out (HX1.out ▸ m1) (HX2.out ▸ m2) (HX3.out ▸ m3)
                 have hBW := hb6.alloc hb6.size (.cells #[.slice V1 f.ps.length q1, .slice V2 f.ps.length q2, .slice V3 f.ps.length q3] 39)
                 have HXB := Lib.hid hXB
                 have HBW := Lib.hid hBW
                 clear hXB hBW hra
                 go_wp2_with fail
                 go_meet
                 exact ⟨w6.heap.size, V1, V2, V3, q1, q2, q3, t1, t2, t3, rfl, rfl, HBW.out, HXB.out⟩)
          case rest =>
            as_aux_lemma =>
            obtain ⟨yb, Y1, Y2, Y3, q1, q2, q3, t1, t2, t3, rfl, rfl, HB7, HYB⟩ := hcut
            have HLn := Lib.hid (HL.out.step HB7.out)
            have HVHn := Lib.hid (HVH.out.below HB7.out)
            have HVXn := Lib.hid (HVX.out.below HB7.out)
            have HXBn := Lib.hid (HXB.out.below HB7.out)
            clear HL HVH HVX HXB HCF HCR HK H0 hS0 HB7 HX6
            have HL := Lib.hid HLn.out
            have HVH := Lib.hid HVHn.out
            have HVX := Lib.hid HVXn.out
            have HXB := Lib.hid HXBn.out
            clear HLn HVHn HVXn HXBn
            obtain ⟨a0, a1, a2, d0, d1, d2⟩ := HL.out.cells
            have x0 : World.cell? wc ⟨xb, 0, none⟩ = some (.slice X1 f.ps.length z1) := HXB.out.blk.cell 0
            have x1 : World.cell? wc ⟨xb, 1, none⟩ = some (.slice X2 f.ps.length z2) := HXB.out.blk.cell 1
            have x2 : World.cell? wc ⟨xb, 2, none⟩ = some (.slice X3 f.ps.length z3) := HXB.out.blk.cell 2
            have y0 : World.cell? wc ⟨yb, 0, none⟩ = some (.slice Y1 f.ps.length q1) := HYB.out.blk.cell 0
            have y1 : World.cell? wc ⟨yb, 1, none⟩ = some (.slice Y2 f.ps.length q2) := HYB.out.blk.cell 1
            have y2 : World.cell? wc ⟨yb, 2, none⟩ = some (.slice Y3 f.ps.length q3) := HYB.out.blk.cell 2
            obtain ⟨Ab, bb, cb, rfl, lb, zb, kb, mb⟩ := HVH.out
            obtain ⟨Aa, ba, ca, rfl, la, za, ka, ma⟩ := HVX.out
            have LB := Lib.hid lb
            have ZB := Lib.hid zb
            have LA := Lib.hid la
            have ZA := Lib.hid za
            clear HVH HVX kb mb ka ma lb zb la za
            rw [HHL.out] at LB
            rw [HHX.out] at LA
            rw [HHL.out, HHX.out]
            go_wp2_with fail
            refine (sameReal_any x _ _ wc HXB.out.at HYB.out.at (by rw [HX1.out]; omega) (by rw [HX2.out]; omega) (by rw [HX3.out]; omega)).mono ?_
            rintro e W8 ⟨rfl, e1⟩
            have HL8 := Lib.hid (HL.out.step e1)
            have HXB8 := Lib.hid (HXB.out.below e1)
            have LB8 := Lib.hid (LB.out.mono e1.size)
            have LA8 := Lib.hid (LA.out.mono e1.size)
            have ZB8 : Hid (∀ j, j < f.ps.length → W8.cell? ⟨bb, j, none⟩ = some (.int .i64 (gz hl j))) := (show ∀ j, _ from fun j hj => by
              have := (ZsAt.mono' (A := Ab) (B := wc.heap.size) (by rw [HHL.out]; exact LB.out) ZB.out e1) j (by rw [HHL.out]; exact hj)
              rwa [Nat.zero_add] at this)
            have ZA8 : Hid (∀ j, j < f.ps.length → W8.cell? ⟨ba, j, none⟩ = some (.int .i64 (gz hlx j))) := (show ∀ j, _ from fun j hj => by
              have := (ZsAt.mono' (A := Aa) (B := wc.heap.size) (by rw [HHX.out]; exact LA.out) ZA.out e1) j (by rw [HHX.out]; exact hj)
              rwa [Nat.zero_add] at this)
            clear HL HXB HYB LB LA ZB ZA e1 a0 a1 a2 d0 d1 d2 x0 x1 x2 y0 y1 y2
            go_wp2_with fail
            go_loopg [13] f.ps.length (fun gg s13 wr => ∃ k : Nat, k ≤ f.ps.length ∧ f.ps.length - k ≤ gg ∧ s13 = .int .i64 k ∧ Hid (Below W8.heap.size W8 wr))
            case atStart => exact ⟨0, Nat.zero_le _, by omega, rfl, Below.refl _ _⟩
            case round =>
              as_aux_lemma =>
              obtain ⟨k, hk, hgk, rfl, BW⟩ := hrel
              have HLr := Lib.hid (HL8.out.step BW.out)
              have HXr := Lib.hid (HXB8.out.below BW.out)
              obtain ⟨a0, a1, a2, d0, d1, d2⟩ := HLr.out.cells
              by_cases hlt : k < f.ps.length
              · have hltz : (k : Int) < (f.ps.length : Int) := by omega
                have hk0 : (0 : Int) ≤ (k : Int) := by omega
                have x0 : wr.cell? ⟨xb, 0, none⟩ = some (.slice X1 f.ps.length z1) := HXr.out.blk.cell 0
                have x1 : wr.cell? ⟨xb, 1, none⟩ = some (.slice X2 f.ps.length z2) := HXr.out.blk.cell 1
                have x2 : wr.cell? ⟨xb, 2, none⟩ = some (.slice X3 f.ps.length z3) := HXr.out.blk.cell 2
                obtain ⟨rfl, hbA⟩ := HLr.out.R.la (by omega)
                obtain ⟨rfl, hb1⟩ := HLr.out.R.rr.l1 (by rw [HR1.out]; omega)
                obtain ⟨rfl, hb2⟩ := HLr.out.R.rr.l2 (by rw [HR2.out]; omega)
                obtain ⟨rfl, hy1⟩ := HXr.out.rat.l1 (by rw [HX1.out]; omega)
                obtain ⟨rfl, hy2⟩ := HXr.out.rat.l2 (by rw [HX2.out]; omega)
                obtain ⟨rfl, hy3⟩ := HXr.out.rat.l3 (by rw [HX3.out]; omega)
                obtain ⟨rfl, hbb⟩ := LB8.out (by omega)
                obtain ⟨rfl, hba⟩ := LA8.out (by omega)
                have pk := (HLr.out.R.ps k hlt).2.1
                have vw := HXr.out.rat.z1 k (by rw [HX1.out]; omega)
                have vh := HXr.out.rat.z2 k (by rw [HX2.out]; omega)
                have vt := HXr.out.rat.z3 k (by rw [HX3.out]; omega)
                have rw' := HLr.out.R.rr.z1 k (by rw [HR1.out]; omega)
                have rh' := HLr.out.R.rr.z2 k (by rw [HR2.out]; omega)
                rw [Nat.zero_add] at vw vh vt
                have ub := (BW.out.cell (p := ⟨bb, k, none⟩) hbb).trans (ZB8.out k hlt)
                have ua := (BW.out.cell (p := ⟨ba, k, none⟩) hba).trans (ZA8.out k hlt)
                obtain ⟨kA, kD, kqa, kqd, ks⟩ := HKP.out k hlt
                obtain ⟨kd1, kd2⟩ := HKD.out k hlt
                have g1 := HGR.out k hlt
                have g2 := HGX.out k hlt
                have n1 := heldA_01 f r k
                have n2 := heldA_01 f x k
                have n3 := heldD_02 f r k
                have n4 := heldD_02 f x k
                generalize heldA f r k = ar at *
                generalize heldA f x k = ax at *
                generalize heldD f r k = dr at *
                generalize heldD f x k = dx at *
                generalize gz hl k = vb at *
                generalize gz hlx k = va at *
                have m1 : vb % 2 = ar := by rcases n1 with h | h <;> rcases n3 with h' | h' <;> omega
                have m2 : va % 2 = ax := by rcases n2 with h | h <;> rcases n4 with h' | h' <;> omega
                have d1' : vb / 2 = dr / 2 := by rcases n1 with h | h <;> rcases n3 with h' | h' <;> omega
                have d2' : va / 2 = dx / 2 := by rcases n2 with h | h <;> rcases n4 with h' | h' <;> omega
                have hqd : (dx = 2 → dx / 2 = 1) ∧ dr / 2 ≤ dx / 2 := by constructor; (intro h; rw [h]; rfl); omega
                have v1 : 0 ≤ vb := by omega
                have v2 : 0 ≤ va := by omega
                have v3 : vb ≤ 3 := by omega
                have v4 : va ≤ 3 := by omega
                have wb : win vb 0 3 = true := win_t.2 (by omega)
                have wa : win va 0 3 = true := win_t.2 (by omega)
                obtain ⟨hq1, hq2⟩ := hqd
                generalize dr / 2 = er at *
                generalize dx / 2 = ex at *
                have hA1 : decide (ax < ar) = false := decide_eq_false (by omega)
                have hD1 : decide (ex < er) = false := decide_eq_false (by omega)
                generalize (gp f.ps k).kind = kd at *
                generalize gz x.ts k = tv at *
                have KQA : Hid (kd = 3 → tv = 0 ∨ ax = 1) := kqa
                have KQD : Hid (kd = 4 → tv = 0 ∨ ex = 1) := (show _ → _ from fun h => by rcases kqd h with h1 | h1; exact .inl h1; exact .inr (hq1 h1))
                have KS : Hid (kd < 3 → gz x.ws k = gz r.ws k ∧ gz x.hs k = gz r.hs k) := ks
                have hkk : kd = 1 ∨ kd = 2 ∨ kd = 3 ∨ kd = 4 := by omega
                clear kqa kqd ks n1 n2 n3 n4 g1 g2 kA kD hq1 hq2 kd1 kd2 HKP HKD HGR HGX
                have HDF : Hid (((kd = 1 ∨ kd = 2) ∧ gz x.ws k = gz r.ws k ∧ gz x.hs k = gz r.hs k) ∨ (kd = 3 ∧ tv = 0) ∨ (kd = 3 ∧ tv ≠ 0 ∧ ax = 1) ∨ (kd = 4 ∧ tv = 0) ∨ (kd = 4 ∧ tv ≠ 0 ∧ ex = 1)) := by
                  show _ ∨ _
                  rcases hkk with h | h | h | h
                  · exact .inl ⟨.inl h, KS.out (by omega)⟩
                  · exact .inl ⟨.inr h, KS.out (by omega)⟩
                  · by_cases ht : tv = 0
                    · exact .inr (.inl ⟨h, ht⟩)
                    · exact .inr (.inr (.inl ⟨h, ht, (KQA.out h).resolve_left ht⟩))
                  · by_cases ht : tv = 0
                    · exact .inr (.inr (.inr (.inl ⟨h, ht⟩)))
                    · exact .inr (.inr (.inr (.inr ⟨h, ht, (KQD.out h).resolve_left ht⟩)))
                clear hkk KQA KQD KS
                have t1' : vb.tmod 2 = ar := by rw [IntWalk.rem_in _ _ v1]; exact m1
                have t2' : va.tmod 2 = ax := by rw [IntWalk.rem_in _ _ v2]; exact m2
                have q1' : IntKind.i64.wrap (vb.tdiv 2) = er := by rw [IntWalk.i64_quo _ _ ⟨v1, by omega, by omega⟩]; exact d1'
                have q2' : IntKind.i64.wrap (va.tdiv 2) = ex := by rw [IntWalk.i64_quo _ _ ⟨v2, by omega, by omega⟩]; exact d2'
                clear m1 m2 d1' d2'
                go_wp2_with fail
                go_quiet ((go_at_call 49; first | (with_reducible exact Calls.quiet_of_same (within49_t wb _)) | (with_reducible exact Calls.quiet_of_same (within49_t wa _))))
                clear wb wa v1 v2 v3 v4
                rcases HDF.out with ⟨h12, hw1, hw2⟩ | ⟨rfl, rfl⟩ | ⟨rfl, ht, rfl⟩ | ⟨rfl, rfl⟩ | ⟨rfl, ht, rfl⟩
                · rw [hw1] at vw
                  rw [hw2] at vh
                  have hrw : (k : Int) < (r.ws.length : Int) := by rw [HR1.out]; omega
                  have hrh : (k : Int) < (r.hs.length : Int) := by rw [HR2.out]; omega
                  generalize gz r.ws k = g1 at *
                  generalize gz r.hs k = g2 at *
                  clear hw1 hw2 HDF
                  rcases h12 with rfl | rfl
                  · go_wp2_with fail
                    go_quiet (fail)
                    go_wp2_with fail
                    go_roundg (f.ps.length - (k + 1))
                    case measure => omega
                    case rel =>
                      exact ⟨k + 1, by omega, by omega, by go_num, ⟨BW.out.os, BW.out.tape, BW.out.output, BW.out.size, BW.out.block⟩⟩
                  · go_wp2_with fail
                    go_quiet (fail)
                    go_wp2_with fail
                    go_roundg (f.ps.length - (k + 1))
                    case measure => omega
                    case rel =>
                      exact ⟨k + 1, by omega, by omega, by go_num, ⟨BW.out.os, BW.out.tape, BW.out.output, BW.out.size, BW.out.block⟩⟩
                · go_wp2_with fail
                  go_quiet (fail)
                  go_wp2_with fail
                  go_roundg (f.ps.length - (k + 1))
                  case measure => omega
                  case rel =>
                    exact ⟨k + 1, by omega, by omega, by go_num, ⟨BW.out.os, BW.out.tape, BW.out.output, BW.out.size, BW.out.block⟩⟩
                · have htb := bne_t ht
                  have htB : (tv != 0) = true := htb
                  go_wp2_with fail
                  go_quiet (fail)
                  go_wp2_with fail
                  go_roundg (f.ps.length - (k + 1))
                  case measure => omega
                  case rel =>
                    exact ⟨k + 1, by omega, by omega, by go_num, ⟨BW.out.os, BW.out.tape, BW.out.output, BW.out.size, BW.out.block⟩⟩
                · go_wp2_with fail
                  go_quiet (fail)
                  go_wp2_with fail
                  go_roundg (f.ps.length - (k + 1))
                  case measure => omega
                  case rel =>
                    exact ⟨k + 1, by omega, by omega, by go_num, ⟨BW.out.os, BW.out.tape, BW.out.output, BW.out.size, BW.out.block⟩⟩
                · have htb := bne_t ht
                  have htB : (tv != 0) = true := htb
                  go_wp2_with fail
                  go_quiet (fail)
                  go_wp2_with fail
                  go_roundg (f.ps.length - (k + 1))
                  case measure => omega
                  case rel =>
                    exact ⟨k + 1, by omega, by omega, by go_num, ⟨BW.out.os, BW.out.tape, BW.out.output, BW.out.size, BW.out.block⟩⟩
              · have hltz : ¬ (k : Int) < (f.ps.length : Int) := by omega
                go_wp2_with fail
                go_ret
                exact ⟨rfl, HL8.out.B.trans (BW.out.mono HL8.out.B.size)⟩
      · have H37 : Hid (AtCopies 37 f r (HeldNo (checkR f r).2)) := fun W vf vr hf hr => (held_at f r HNM.out (by omega) W vf vr hf hr).mono fun _ _ h => h.no hs
        unfold HeldNo at H37
        have hs' := bne_t hs
        clear hs
        generalize checkR f r = cr at *
        go_wp2_with fail
        have HCF := Lib.hid (copyF_at f A b off c W3.heap.size W3 HL.out.fr.la HL.out.fr.ps (by omega))
        have HCR := Lib.hid (copyR_at r A1 A2 A3 b1 o1 b2 o2 b3 o3 c1 c2 c3 W3.heap.size W3 HL.out.fr.rr (by omega) (by omega) (by omega))
        have HK : Hid (∀ W, Below W3.heap.size W3 W → (W.cell? ⟨w.heap.size, 0, none⟩ = some (.int .i64 f.W) ∧ W.cell? ⟨w.heap.size, 1, none⟩ = some (.int .i64 f.H) ∧ W.cell? ⟨w.heap.size, 2, none⟩ = some (.slice A f.ps.length c) ∧ W.cell? ⟨w.heap.size + 1, 0, none⟩ = some (.slice A1 r.ws.length c1) ∧ W.cell? ⟨w.heap.size + 1, 1, none⟩ = some (.slice A2 r.hs.length c2) ∧ W.cell? ⟨w.heap.size + 1, 2, none⟩ = some (.slice A3 r.ts.length c3))) := fun W hW => (HL.out.step hW).cells
        have h0 : Below W3.heap.size W3 W3.drew := (Below.refl _ _).drew
        have H0 := Lib.hid h0
        have hS0 := HK.out W3.drew h0
        clear h0 a0 a1 a2 d0 d1 d2
        go_region_held3 (fun W => (W.cell? ⟨w.heap.size, 0, none⟩ = some (.int .i64 f.W) ∧ W.cell? ⟨w.heap.size, 1, none⟩ = some (.int .i64 f.H) ∧ W.cell? ⟨w.heap.size, 2, none⟩ = some (.slice A f.ps.length c) ∧ W.cell? ⟨w.heap.size + 1, 0, none⟩ = some (.slice A1 r.ws.length c1) ∧ W.cell? ⟨w.heap.size + 1, 1, none⟩ = some (.slice A2 r.hs.length c2) ∧ W.cell? ⟨w.heap.size + 1, 2, none⟩ = some (.slice A3 r.ts.length c3)))
          (first
            | exact hS0
            | exact HK.out _ hb6
            | exact HK.out _ hb5
            | exact HK.out _ hb4
            | go_keep)
          (first
            | (go_at_call 28; (with_reducible refine (HCF.out _ H0.out (Nat.le_refl _)).mono ?_); rintro e w4 ⟨vf, rfl, hf4, hb4'⟩; have hb4 : Below W3.heap.size W3 w4 := H0.out.trans hb4')
            | (go_at_call 29; (with_reducible refine (HCR.out _ hb4 hb4.size).mono ?_); rintro e w5 ⟨vr, rfl, hr5, hb5'⟩; have hb5 : Below W3.heap.size W3 w5 := hb4.trans (hb5'.mono hb4.size))
            | (go_at_call 37; (with_reducible refine (H37.out w5 vf vr (hf4.below hb5') hr5).mono ?_); rintro e W4 ⟨rfl, hb6'⟩; have hb6 : Below W3.heap.size W3 W4 := hb5.trans (hb6'.mono hb5.size)))
        have HLn := Lib.hid (HL.out.step hb6)
        have HX6 := Lib.hid hb6
        clear HL HCF HCR HK H0 hS0 hb4 hb5 hb4' hb5' hb6 hb6' hf4 hr5
        have HL := Lib.hid HLn.out
        clear HLn
        obtain ⟨a0, a1, a2, d0, d1, d2⟩ := HL.out.cells

        go_wp2_with fail
        go_ret
        exact ⟨rfl, HL.out.B⟩
end Go.Proofs.Ytlfeoofchebbkaa
