/- FormeLayouts: Layout returns the forme of a grid, or the errors; it is right and full. -/
import Derived.Test.YtlfeoofchebbkaaDoorGrd
import Derived.Test.YtlfeoofchebbkaaDoorSam
import Derived.Test.YtlfeoofchebbkaaDoorUnc
import Derived.Test.YtlfeoofchebbkaaDoorRck
import Derived.Test.YtlfeoofchebbkaaDoorAwk
import Derived.Test.YtlfeoofchebbkaaDoorRly
namespace Go.Proofs.YtlfeoofchebbkaaDoor
set_option linter.unusedSimpArgs false
set_option linter.unusedVariables false
open Go.RowKit
def emptyF : Forme := ⟨0, 0, []⟩
theorem sameE (W : World) : Calls Tryd.prog 8 #[.agg #[.int .i64 0, .int .i64 0, .slice none 0 0], .agg #[.int .i64 0, .int .i64 0, .slice none 0 0]] W fun e w' => e = .returned (.bool true) ∧ Below W.heap.size W w' :=
  same_true emptyF none none 0 0 0 0 0 0 W (fun h => by simp [emptyF] at h) (fun j hj => by simp [emptyF] at hj) (fun h => by simp [emptyF] at h) (fun j hj => by simp [emptyF] at hj) (by simp [emptyF])
theorem PsV.below {W W' : World} {ps : List Piece} {v : Value} (h : PsV W ps v) (hb : Below W.heap.size W W') : PsV W' ps v := by
  obtain ⟨A, b, c, rfl, h1, h2, h3⟩ := h
  exact ⟨A, b, c, rfl, h1, h2.mono hb.size, fun j hj => (h3 j hj).below hb (h2 (by omega)).2⟩
theorem sameV (f : Forme) (hm : f.ps.length ≤ 1000000) (W : World) (v1 v2 : Value) (h1 : PsV W f.ps v1) (h2 : PsV W f.ps v2) : Calls Tryd.prog 8 #[.agg #[.int .i64 f.W, .int .i64 f.H, v1], .agg #[.int .i64 f.W, .int .i64 f.H, v2]] W fun e w' => e = .returned (.bool true) ∧ Below W.heap.size W w' := by
  obtain ⟨A, b, c, rfl, a1, a2, a3⟩ := h1
  obtain ⟨A', b', c', rfl, d1, d2, d3⟩ := h2
  exact same_true f A A' b 0 c b' 0 c' W a2 a3 d2 d3 hm
theorem uncV (f : Forme) (hr : f.Right) (ha : areas f.ps = f.W * f.H) (W : World) (v : Value) (h : PsV W f.ps v) : Calls Tryd.prog 9 #[.agg #[.int .i64 f.W, .int .i64 f.H, v]] W fun e w' => e = .returned (.tuple #[.int .i64 0, .int .i64 0]) ∧ Below W.heap.size W w' := by
  obtain ⟨A, b, c, rfl, a1, a2, a3⟩ := h
  have hc := right_check hr
  have := unc_any f A b 0 c W a2 a3 (fun j hj => by
    have hn := hr.nm (gp f.ps j) (by rw [gp_get hj]; exact List.getElem_mem _)
    unfold isNm at hn
    have := (of_decide_eq_true hn).2.2
    omega) a1 (by have := hr.few; omega)
  rw [if_pos hc, hc, ha, Int.sub_self] at this
  exact this
set_option maxRecDepth 100000 in
set_option maxHeartbeats 4000000 in
theorem layouts_any (g : Grid) (A1 A2 A3 A4 : Option Addr) (b1 o1 c1 b2 o2 c2 b3 o3 c3 b4 o4 c4 : Nat) (w : World) (h : GA w g A1 A2 A3 A4 b1 o1 c1 b2 o2 c2 b3 o3 c3 b4 o4 c4) :
    Calls Tryd.prog 3 #[.agg #[Value.int IntKind.i64 g.W, Value.int IntKind.i64 g.H, Value.slice A1 g.cols.length c1, Value.slice A2 g.rows.length c2, Value.slice A3 g.acr.length c3, Value.slice A4 g.dwn.length c4, Value.int IntKind.i64 g.q]] w fun e w' => e = .returned (.bool true) ∧ Below w.heap.size w w' := by
  have hB := below_new w (Obj.cells #[Value.int IntKind.i64 g.W, Value.int IntKind.i64 g.H, Value.slice A1 g.cols.length c1, Value.slice A2 g.rows.length c2, Value.slice A3 g.acr.length c3, Value.slice A4 g.dwn.length c4, Value.int IntKind.i64 g.q] 24)
  have hK := Blk.new w 24 #[Value.int IntKind.i64 g.W, Value.int IntKind.i64 g.H, Value.slice A1 g.cols.length c1, Value.slice A2 g.rows.length c2, Value.slice A3 g.acr.length c3, Value.slice A4 g.dwn.length c4, Value.int IntKind.i64 g.q]
  have hga0 := h.below hB
  clear h
  go_enter Tryd.func3, Tryd.ntmps3
  go_wp2_with fail
  generalize w.alloc (Obj.cells #[Value.int IntKind.i64 g.W, Value.int IntKind.i64 g.H, Value.slice A1 g.cols.length c1, Value.slice A2 g.rows.length c2, Value.slice A3 g.acr.length c3, Value.slice A4 g.dwn.length c4, Value.int IntKind.i64 g.q] 24) = W0 at *
  refine (awake_any _).mono ?_
  rintro e W1 ⟨rfl, hb1⟩
  have hga1 := hga0.below hb1
  have hk1 := hK.below hb1 hK.lt
  have HB1 := Lib.hid (hB.trans (hb1.mono hB.size))
  have x0 := hk1.cell 0
  have x1 := hk1.cell 1
  have x2 := hk1.cell 2
  have x3 := hk1.cell 3
  have x4 := hk1.cell 4
  have x5 := hk1.cell 5
  have x6 := hk1.cell 6
  have HK1 := Lib.hid hk1
  clear hga0 hB hK hb1 hk1
  by_cases m1 : g.cols.length ≤ 8
  · have z1 : ¬ (g.cols.length : Int) > 8 := by omega
    by_cases m2 : g.rows.length ≤ 8
    · have z2 : ¬ (g.rows.length : Int) > 8 := by omega
      by_cases m3 : g.acr.length ≤ 10
      · have z3 : ¬ (g.acr.length : Int) > 10 := by omega
        by_cases m4 : g.dwn.length ≤ 10
        · have z4 : ¬ (g.dwn.length : Int) > 10 := by omega
          go_wp2_with fail
          refine (grid_any g A1 A2 A3 A4 b1 o1 c1 b2 o2 c2 b3 o3 c3 b4 o4 c4 W1 hga1 (by omega) (by omega) (by omega) (by omega)).mono ?_
          rintro e W2 ⟨X1, X2, X3, X4, y1, d1, y2, d2, y3, d3, y4, d4, rfl, hgx, hb2⟩
          have hga2 := hga1.below hb2
          have HB2 := Lib.hid (HB1.out.trans (hb2.mono HB1.out.size))
          have HK2 := Lib.hid (HK1.out.below hb2 HK1.out.lt)
          clear hb2 hga1 HB1 HK1 x0 x1 x2 x3 x4 x5 x6
          go_wp2_with fail
          refine (layout_any g X1 X2 X3 X4 y1 0 d1 y2 0 d2 y3 0 d3 y4 0 d4 W2 hgx m1 m2 m3 m4).mono ?_
          rintro e W3 hL
          have hb3 : Below W2.heap.size W2 W3 := by
            rcases hL with ⟨-, -, h⟩ | ⟨-, -, -, h⟩ | ⟨-, -, -, -, -, h⟩ <;> exact h
          have hga3 := hga2.below hb3
          have HB3 := Lib.hid (HB2.out.trans (hb3.mono HB2.out.size))
          have HK3 := Lib.hid (HK2.out.below hb3 HK2.out.lt)
          clear hb3 hga2 hgx HB2 HK2
          rcases hL with ⟨hc, rfl, -⟩ | ⟨hc, hl, rfl, -⟩ | ⟨hc, hl, v, rfl, hpv, -⟩
          · have hck0 := bne_t hc
            have hL4 := hga3.below (below_new W3 (Obj.cells #[.int .i64 0, .int .i64 0, .slice none 0 0] 28))
            have HBX := Lib.hid (HB3.out.trans ((below_new W3 (Obj.cells #[.int .i64 0, .int .i64 0, .slice none 0 0] 28)).mono HB3.out.size))
            have hx4 := HK3.out.below (below_new W3 (Obj.cells #[.int .i64 0, .int .i64 0, .slice none 0 0] 28)) HK3.out.lt
            have HE := Lib.hid (Blk.new W3 28 #[.int .i64 0, .int .i64 0, .slice none 0 0])
            have x0 := hx4.cell 0
            have x1 := hx4.cell 1
            have x2 := hx4.cell 2
            have x3 := hx4.cell 3
            have x4 := hx4.cell 4
            have x5 := hx4.cell 5
            have x6 := hx4.cell 6
            have href := refLayout_any g A1 A2 A3 A4 b1 o1 c1 b2 o2 c2 b3 o3 c3 b4 o4 c4 _ hL4 m1 m2 m3 m4
            clear hL4 hx4 hga3
            go_wp2_with fail
            generalize W3.alloc (Obj.cells #[.int .i64 0, .int .i64 0, .slice none 0 0] 28) = W4 at *
            generalize W3.heap.size = fa at *
            refine href.mono ?_
            rintro e W5 (⟨hc', rfl, hb5⟩ | ⟨hc', hl', rfl, hb5⟩ | ⟨hc', hl', v', rfl, hpv', hb5⟩)
            · generalize g.check = ck at *
              clear hc hc'
              have HBY := Lib.hid ((HBX.out.trans (hb5.mono HBX.out.size)).trans ((below_new W5 (Obj.cells #[.int .i64 0, .int .i64 0, .slice none 0 0] 28)).mono (Nat.le_trans HBX.out.size hb5.size)))
              have hE5 := (HE.out.below hb5 HE.out.lt).below (below_new W5 (Obj.cells #[.int .i64 0, .int .i64 0, .slice none 0 0] 28)) (Nat.lt_of_lt_of_le HE.out.lt hb5.size)
              have s0 := hE5.cell 0
              have s1 := hE5.cell 1
              have s2 := hE5.cell 2
              have hckz : (ck != ck) = false := bne_f rfl
              clear hE5 hb5 HBX HE
              go_wp2_with fail
              refine (sameE _).mono ?_
              rintro e W6 ⟨rfl, hb6⟩
              have HBZ := Lib.hid (HBY.out.trans (hb6.mono HBY.out.size))
              clear hb6 s0 s1 s2
              go_wp2_with fail
              go_ret
              exact ⟨rfl, HBZ.out⟩
            · exact absurd hc' hc
            · exact absurd hc' hc
          · skip
            have hL4 := hga3.below (below_new W3 (Obj.cells #[.int .i64 0, .int .i64 0, .slice none 0 0] 28))
            have HBX := Lib.hid (HB3.out.trans ((below_new W3 (Obj.cells #[.int .i64 0, .int .i64 0, .slice none 0 0] 28)).mono HB3.out.size))
            have hx4 := HK3.out.below (below_new W3 (Obj.cells #[.int .i64 0, .int .i64 0, .slice none 0 0] 28)) HK3.out.lt
            have HE := Lib.hid (Blk.new W3 28 #[.int .i64 0, .int .i64 0, .slice none 0 0])
            have x0 := hx4.cell 0
            have x1 := hx4.cell 1
            have x2 := hx4.cell 2
            have x3 := hx4.cell 3
            have x4 := hx4.cell 4
            have x5 := hx4.cell 5
            have x6 := hx4.cell 6
            have href := refLayout_any g A1 A2 A3 A4 b1 o1 c1 b2 o2 c2 b3 o3 c3 b4 o4 c4 _ hL4 m1 m2 m3 m4
            clear hL4 hx4 hga3
            go_wp2_with fail
            generalize W3.alloc (Obj.cells #[.int .i64 0, .int .i64 0, .slice none 0 0] 28) = W4 at *
            generalize W3.heap.size = fa at *
            refine href.mono ?_
            rintro e W5 (⟨hc', rfl, hb5⟩ | ⟨hc', hl', rfl, hb5⟩ | ⟨hc', hl', v', rfl, hpv', hb5⟩)
            · exact absurd hc hc'
            · clear hc hc' hl hl'
              have HBY := Lib.hid ((HBX.out.trans (hb5.mono HBX.out.size)).trans ((below_new W5 (Obj.cells #[.int .i64 0, .int .i64 0, .slice none 0 0] 28)).mono (Nat.le_trans HBX.out.size hb5.size)))
              have hE5 := (HE.out.below hb5 HE.out.lt).below (below_new W5 (Obj.cells #[.int .i64 0, .int .i64 0, .slice none 0 0] 28)) (Nat.lt_of_lt_of_le HE.out.lt hb5.size)
              have s0 := hE5.cell 0
              have s1 := hE5.cell 1
              have s2 := hE5.cell 2
              have hckz : ((8 : Int) != (8 : Int)) = false := bne_f rfl
              clear hE5 hb5 HBX HE
              go_wp2_with fail
              refine (sameE _).mono ?_
              rintro e W6 ⟨rfl, hb6⟩
              have HBZ := Lib.hid (HBY.out.trans (hb6.mono HBY.out.size))
              clear hb6 s0 s1 s2
              go_wp2_with fail
              go_ret
              exact ⟨rfl, HBZ.out⟩
            · exact absurd hl (by omega)
          · skip
            have hr := Grid.forme_right (Grid.check_good hc) hl
            have har := Grid.forme_area (Grid.check_good hc)
            have hlen : g.forme.ps.length ≤ 1000000 := by have := hr.few; omega
            have hFV : g.forme.ps = g.all := rfl
            have HUN : Hid (∀ (W : World) (v : Value), PsV W g.all v → Calls Tryd.prog 9 #[.agg #[.int .i64 g.W, .int .i64 g.H, v]] W fun e w' => e = .returned (.tuple #[.int .i64 0, .int .i64 0]) ∧ Below W.heap.size W w') := (show ∀ W v, _ from fun W v h => uncV g.forme hr har W v h)
            have HSV : Hid (∀ (W : World) (v1 v2 : Value), PsV W g.all v1 → PsV W g.all v2 → Calls Tryd.prog 8 #[.agg #[.int .i64 g.W, .int .i64 g.H, v1], .agg #[.int .i64 g.W, .int .i64 g.H, v2]] W fun e w' => e = .returned (.bool true) ∧ Below W.heap.size W w') := (show ∀ W v1 v2, _ from fun W v1 v2 h1 h2 => sameV g.forme hlen W v1 v2 h1 h2)
            clear hr har hlen hFV
            obtain ⟨P1, q1, e1, rfl, hpr⟩ : ∃ A b c, v = .slice A g.all.length c ∧ PsV W3 g.all (.slice A g.all.length c) := by
              have hp2 := hpv
              obtain ⟨A, b, c, rfl, -⟩ := hpv
              exact ⟨A, b, c, rfl, hp2⟩
            have hL4 := hga3.below (below_new W3 (Obj.cells #[.int .i64 g.W, .int .i64 g.H, .slice P1 g.all.length e1] 28))
            have HBX := Lib.hid (HB3.out.trans ((below_new W3 (Obj.cells #[.int .i64 g.W, .int .i64 g.H, .slice P1 g.all.length e1] 28)).mono HB3.out.size))
            have hx4 := HK3.out.below (below_new W3 (Obj.cells #[.int .i64 g.W, .int .i64 g.H, .slice P1 g.all.length e1] 28)) HK3.out.lt
            have HE := Lib.hid (Blk.new W3 28 #[.int .i64 g.W, .int .i64 g.H, .slice P1 g.all.length e1])
            have HPV := Lib.hid (hpr.below (below_new W3 (Obj.cells #[.int .i64 g.W, .int .i64 g.H, .slice P1 g.all.length e1] 28)))
            have x0 := hx4.cell 0
            have x1 := hx4.cell 1
            have x2 := hx4.cell 2
            have x3 := hx4.cell 3
            have x4 := hx4.cell 4
            have x5 := hx4.cell 5
            have x6 := hx4.cell 6
            have href := refLayout_any g A1 A2 A3 A4 b1 o1 c1 b2 o2 c2 b3 o3 c3 b4 o4 c4 _ hL4 m1 m2 m3 m4
            clear hL4 hx4 hga3 hpr hpv
            go_wp2_with fail
            generalize W3.alloc (Obj.cells #[.int .i64 g.W, .int .i64 g.H, .slice P1 g.all.length e1] 28) = W4 at *
            generalize W3.heap.size = fa at *
            refine href.mono ?_
            rintro e W5 (⟨hc', rfl, hb5⟩ | ⟨hc', hl', rfl, hb5⟩ | ⟨hc', hl', v', rfl, hpv', hb5⟩)
            · exact absurd hc hc'
            · exact absurd hl' (by omega)
            · obtain ⟨P2, q2, e2, rfl, hpr⟩ : ∃ A b c, v' = .slice A g.all.length c ∧ PsV W5 g.all (.slice A g.all.length c) := by
                have hp2 := hpv'
                obtain ⟨A, b, c, rfl, -⟩ := hpv'
                exact ⟨A, b, c, rfl, hp2⟩
              have hbn := below_new W5 (Obj.cells #[.int .i64 g.W, .int .i64 g.H, .slice P2 g.all.length e2] 28)
              have HBY := Lib.hid ((HBX.out.trans (hb5.mono HBX.out.size)).trans (hbn.mono (Nat.le_trans HBX.out.size hb5.size)))
              have hE5 := (HE.out.below hb5 HE.out.lt).below hbn (Nat.lt_of_lt_of_le HE.out.lt hb5.size)
              have hsv := HSV.out _ _ _ ((HPV.out.below hb5).below hbn) (hpr.below hbn)
              have HPW := Lib.hid ((HPV.out.below hb5).below hbn)
              have HE5 := Lib.hid hE5
              have s0 := hE5.cell 0
              have s1 := hE5.cell 1
              have s2 := hE5.cell 2
              clear hE5 hb5 HBX HE hpr hpv' hbn
              go_wp2_with fail
              generalize W5.alloc (Obj.cells #[.int .i64 g.W, .int .i64 g.H, .slice P2 g.all.length e2] 28) = W6 at *
              refine hsv.mono ?_
              rintro e W7 ⟨rfl, hb6⟩
              have HBZ := Lib.hid (HBY.out.trans (hb6.mono HBY.out.size))
              have hE7 := HE5.out.below hb6 HE5.out.lt
              have hun := HUN.out W7 _ (HPW.out.below hb6)
              have t0 := hE7.cell 0
              have t1 := hE7.cell 1
              have t2 := hE7.cell 2
              clear hb6 s0 s1 s2 hE7 hsv
              go_wp2_with fail
              refine hun.mono ?_
              rintro e W8 ⟨rfl, hb8⟩
              have HBQ := Lib.hid (HBZ.out.trans (hb8.mono HBZ.out.size))
              clear hb8 t0 t1 t2 hun
              go_wp2_with fail
              go_ret
              exact ⟨rfl, HBQ.out⟩
        · have z4 : (g.dwn.length : Int) > 10 := by omega
          go_wp2_with fail
          go_ret
          exact ⟨rfl, HB1.out⟩
      · have z3 : (g.acr.length : Int) > 10 := by omega
        go_wp2_with fail
        go_ret
        exact ⟨rfl, HB1.out⟩
    · have z2 : (g.rows.length : Int) > 8 := by omega
      go_wp2_with fail
      go_ret
      exact ⟨rfl, HB1.out⟩
  · have z1 : (g.cols.length : Int) > 8 := by omega
    go_wp2_with fail
    go_ret
    exact ⟨rfl, HB1.out⟩
end Go.Proofs.YtlfeoofchebbkaaDoor
