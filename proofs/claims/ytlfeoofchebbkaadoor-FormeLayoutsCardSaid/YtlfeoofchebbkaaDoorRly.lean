/- ref.Layout: the reference's layout of a grid, or the error. -/
import Derived.Test.YtlfeoofchebbkaaDoorRws
import Derived.Test.YtlfeoofchebbkaaDoorGrd
import Derived.Deep.Cut
import Derived.Deep.CutRange
namespace Go.Proofs.YtlfeoofchebbkaaDoor
set_option linter.unusedSimpArgs false
set_option linter.unusedVariables false
open Go.RowKit
/-- A forme under way: its box and its row of pieces. -/
structure RS (W : World) (fb base : Nat) (gW gH : Int) (ps : List Piece) (v : Value) : Prop where
  blk : Blk W fb 28 #[.int .i64 gW, .int .i64 gH, v]
  row : W.ownsRow base 60 6 v ps.length (pcells ps)
  lo : fb < base
  hi : base ≤ W.heap.size
theorem RS.below {W W' : World} {fb base : Nat} {gW gH : Int} {ps : List Piece} {v : Value} (h : RS W fb base gW gH ps v) (hb : Below W.heap.size W W') : RS W' fb base gW gH ps v :=
  ⟨h.blk.below hb h.blk.lt, h.row.kept (row := none) ⟨hb.os, hb.tape, hb.output, hb.size, fun q hq _ => hb.block q hq⟩ (Classical.em _), h.lo, Nat.le_trans h.hi hb.size⟩
/-- A piece is appended, and the box is written. -/
theorem rs_push {W W15 W16 : World} {fb base : Nat} {gW gH : Int} {ps qs : List Piece} {v : Value} {g16 cap16 n : Nat} (h : RS W fb base gW gH ps v) (hb : Below W.heap.size W W15)
    (hown : W16.ownsRow base 60 6 (.slice (some ⟨g16, 0, none⟩) n cap16) n (pcells ps ++ pcells qs)) (hn : n = ps.length + qs.length) (hg : W15.grownBy W16 v.ownBlock) (hat : v.ownBlock = some g16 ∨ g16 = W15.heap.size) :
    RS (W16.setCell ⟨fb, 2, none⟩ (.slice (some ⟨g16, 0, none⟩) n cap16)) fb base gW gH (ps ++ qs) (.slice (some ⟨g16, 0, none⟩) n cap16) ∧ FrL W (W16.setCell ⟨fb, 2, none⟩ (.slice (some ⟨g16, 0, none⟩) n cap16)) fb v (.slice (some ⟨g16, 0, none⟩) n cap16) ∧ Blk W16 fb 28 #[.int .i64 gW, .int .i64 gH, v] := by
  have h15 := h.below hb
  have hlo := h.lo
  have hne : v.ownBlock ≠ some fb := fun e => by have := (h15.row.lt fb e).1; omega
  have hB16 := h15.blk.grown hg (fun e => hne e.symm)
  have hs1 := hb.size
  have hs2 := hg.size
  have hh := h.hi
  refine ⟨⟨hB16.set_ 2 _, ?_, hlo, ?_⟩, ⟨hg.os.trans hb.os, hg.tape.trans hb.tape, hg.output.trans hb.output, ?_, fun k hk h1 h2 => ?_, ?_⟩, hB16⟩
  · rw [List.length_append, pcells_append, ← hn]
    exact own_far hown hlo _
  · simp [World.setCell]; omega
  · simp [World.setCell]; omega
  · rw [Below.heap_setCell _ _ _ _ (by exact h1), hg.block k (by omega) (fun e => h2 e.symm)]
    exact hb.block k hk
  · rcases hat with e | e
    · exact .inl e.symm
    · exact .inr fun k hk => by
        have hk : g16 = k := by simpa [Value.ownBlock] using hk
        omega
set_option maxRecDepth 100000 in
set_option maxHeartbeats 16000000 in
theorem refLayout_any (g : Grid) (A1 A2 A3 A4 : Option Addr) (b1 o1 c1 b2 o2 c2 b3 o3 c3 b4 o4 c4 : Nat) (w : World) (h : GA w g A1 A2 A3 A4 b1 o1 c1 b2 o2 c2 b3 o3 c3 b4 o4 c4) (m1 : g.cols.length ≤ 8) (m2 : g.rows.length ≤ 8) (m3 : g.acr.length ≤ 10) (m4 : g.dwn.length ≤ 10) :
    Calls Tryd.prog 7 #[.agg #[Value.int IntKind.i64 g.W, Value.int IntKind.i64 g.H, Value.slice A1 g.cols.length c1, Value.slice A2 g.rows.length c2, Value.slice A3 g.acr.length c3, Value.slice A4 g.dwn.length c4, Value.int IntKind.i64 g.q]] w (LayPost w g) := by
  have hBa : Below w.heap.size w (((w.alloc (Obj.cells #[Value.int IntKind.i64 g.W, Value.int IntKind.i64 g.H, Value.slice A1 g.cols.length c1, Value.slice A2 g.rows.length c2, Value.slice A3 g.acr.length c3, Value.slice A4 g.dwn.length c4, Value.int IntKind.i64 g.q] 24)).alloc (Obj.cells #[Value.int IntKind.i64 0, Value.int IntKind.i64 0, Value.slice none 0 0] 28)).alloc (Obj.cells #[Value.int IntKind.i64 0, Value.int IntKind.i64 0, Value.slice none 0 0] 28)) := (below_new _ _).trans (((below_new _ _).mono (by simp)).trans ((below_new _ _).mono (by simp; omega)))
  have hG : Blk (((w.alloc (Obj.cells #[Value.int IntKind.i64 g.W, Value.int IntKind.i64 g.H, Value.slice A1 g.cols.length c1, Value.slice A2 g.rows.length c2, Value.slice A3 g.acr.length c3, Value.slice A4 g.dwn.length c4, Value.int IntKind.i64 g.q] 24)).alloc (Obj.cells #[Value.int IntKind.i64 0, Value.int IntKind.i64 0, Value.slice none 0 0] 28)).alloc (Obj.cells #[Value.int IntKind.i64 0, Value.int IntKind.i64 0, Value.slice none 0 0] 28)) (w.heap.size) 24 #[Value.int IntKind.i64 g.W, Value.int IntKind.i64 g.H, Value.slice A1 g.cols.length c1, Value.slice A2 g.rows.length c2, Value.slice A3 g.acr.length c3, Value.slice A4 g.dwn.length c4, Value.int IntKind.i64 g.q] := (Below.heap_alloc _ _ _ (by simp; omega)).trans ((Below.heap_alloc _ _ _ (by simp)).trans (Blk.new w 24 _))
  have hR : Blk (((w.alloc (Obj.cells #[Value.int IntKind.i64 g.W, Value.int IntKind.i64 g.H, Value.slice A1 g.cols.length c1, Value.slice A2 g.rows.length c2, Value.slice A3 g.acr.length c3, Value.slice A4 g.dwn.length c4, Value.int IntKind.i64 g.q] 24)).alloc (Obj.cells #[Value.int IntKind.i64 0, Value.int IntKind.i64 0, Value.slice none 0 0] 28)).alloc (Obj.cells #[Value.int IntKind.i64 0, Value.int IntKind.i64 0, Value.slice none 0 0] 28)) (w.heap.size + 1) 28 #[Value.int IntKind.i64 0, Value.int IntKind.i64 0, Value.slice none 0 0] := by
    have := Blk.new (w.alloc (Obj.cells #[Value.int IntKind.i64 g.W, Value.int IntKind.i64 g.H, Value.slice A1 g.cols.length c1, Value.slice A2 g.rows.length c2, Value.slice A3 g.acr.length c3, Value.slice A4 g.dwn.length c4, Value.int IntKind.i64 g.q] 24)) 28 #[Value.int IntKind.i64 0, Value.int IntKind.i64 0, Value.slice none 0 0]
    rw [World.size_alloc] at this
    exact (Below.heap_alloc _ _ _ (by simp)).trans this
  have hN : Blk (((w.alloc (Obj.cells #[Value.int IntKind.i64 g.W, Value.int IntKind.i64 g.H, Value.slice A1 g.cols.length c1, Value.slice A2 g.rows.length c2, Value.slice A3 g.acr.length c3, Value.slice A4 g.dwn.length c4, Value.int IntKind.i64 g.q] 24)).alloc (Obj.cells #[Value.int IntKind.i64 0, Value.int IntKind.i64 0, Value.slice none 0 0] 28)).alloc (Obj.cells #[Value.int IntKind.i64 0, Value.int IntKind.i64 0, Value.slice none 0 0] 28)) (w.heap.size + 1 + 1) 28 #[Value.int IntKind.i64 0, Value.int IntKind.i64 0, Value.slice none 0 0] := by
    have := Blk.new ((w.alloc (Obj.cells #[Value.int IntKind.i64 g.W, Value.int IntKind.i64 g.H, Value.slice A1 g.cols.length c1, Value.slice A2 g.rows.length c2, Value.slice A3 g.acr.length c3, Value.slice A4 g.dwn.length c4, Value.int IntKind.i64 g.q] 24)).alloc (Obj.cells #[Value.int IntKind.i64 0, Value.int IntKind.i64 0, Value.slice none 0 0] 28)) 28 #[Value.int IntKind.i64 0, Value.int IntKind.i64 0, Value.slice none 0 0]
    rwa [World.size_alloc, World.size_alloc] at this
  have hsz : ((((w.alloc (Obj.cells #[Value.int IntKind.i64 g.W, Value.int IntKind.i64 g.H, Value.slice A1 g.cols.length c1, Value.slice A2 g.rows.length c2, Value.slice A3 g.acr.length c3, Value.slice A4 g.dwn.length c4, Value.int IntKind.i64 g.q] 24)).alloc (Obj.cells #[Value.int IntKind.i64 0, Value.int IntKind.i64 0, Value.slice none 0 0] 28)).alloc (Obj.cells #[Value.int IntKind.i64 0, Value.int IntKind.i64 0, Value.slice none 0 0] 28))).heap.size = w.heap.size + 1 + 1 + 1 := by simp
  have HGA : Hid (∀ W, Below w.heap.size w W → GA W g A1 A2 A3 A4 b1 o1 c1 b2 o2 c2 b3 o3 c3 b4 o4 c4) := (show ∀ W, _ from fun W hW => h.below hW)
  have HB1 := Lib.hid hBa
  have HG1 := Lib.hid hG
  have HR1 := Lib.hid hR
  have HN1 := Lib.hid hN
  have HC : Hid (g.check = if win g.W 1 4000 = false ∨ win g.H 1 4000 = false then 2
    else if g.cols.length = 0 ∨ g.rows.length = 0 ∨ g.acr.length ≠ g.cols.length + 1 ∨ g.dwn.length ≠ g.rows.length + 1 then 10
    else if Grid.inR g.cols 1 = false ∨ Grid.inR g.rows 1 = false ∨ Grid.inR g.acr 0 = false ∨ Grid.inR g.dwn 0 = false ∨ win g.q 1 4000 = false then 2
    else if Grid.sumL g.cols + Grid.sumL g.acr + g.q ≠ g.W ∨ Grid.sumL g.rows + Grid.sumL g.dwn + g.q ≠ g.H then 23
    else 0) := rfl
  have HIR : Hid (∀ W, Below w.heap.size w W → (Calls Tryd.prog 22 #[.slice A1 g.cols.length c1, .int .i64 1, .int .i64 4000] W fun e w' => e = .returned (.bool (Grid.inR g.cols 1)) ∧ W = w') ∧ (Calls Tryd.prog 22 #[.slice A2 g.rows.length c2, .int .i64 1, .int .i64 4000] W fun e w' => e = .returned (.bool (Grid.inR g.rows 1)) ∧ W = w') ∧
      (Calls Tryd.prog 22 #[.slice A3 g.acr.length c3, .int .i64 0, .int .i64 4000] W fun e w' => e = .returned (.bool (Grid.inR g.acr 0)) ∧ W = w') ∧ (Calls Tryd.prog 22 #[.slice A4 g.dwn.length c4, .int .i64 0, .int .i64 4000] W fun e w' => e = .returned (.bool (Grid.inR g.dwn 0)) ∧ W = w')) := (show ∀ W, _ from fun W hW => by
    have hx := HGA.out W hW
    exact ⟨refWithin_any g.cols 1 4000 A1 b1 o1 c1 W hx.l1 hx.z1 (by omega), refWithin_any g.rows 1 4000 A2 b2 o2 c2 W hx.l2 hx.z2 (by omega), refWithin_any g.acr 0 4000 A3 b3 o3 c3 W hx.l3 hx.z3 (by omega), refWithin_any g.dwn 0 4000 A4 b4 o4 c4 W hx.l4 hx.z4 (by omega)⟩)
  have HSM : Hid (∀ (W : World), Below w.heap.size w W → Grid.inR g.cols 1 = true → Grid.inR g.rows 1 = true → Grid.inR g.acr 0 = true → Grid.inR g.dwn 0 = true →
      (∀ n, Calls Tryd.prog 23 #[.slice A1 g.cols.length c1] (W.drewN n) fun e w' => e = .returned (.int .i64 (Grid.sumL g.cols)) ∧ w' = W.drewN n) ∧ (∀ n, Calls Tryd.prog 23 #[.slice A2 g.rows.length c2] (W.drewN n) fun e w' => e = .returned (.int .i64 (Grid.sumL g.rows)) ∧ w' = W.drewN n) ∧
      (∀ n, Calls Tryd.prog 23 #[.slice A3 g.acr.length c3] (W.drewN n) fun e w' => e = .returned (.int .i64 (Grid.sumL g.acr)) ∧ w' = W.drewN n) ∧ (∀ n, Calls Tryd.prog 23 #[.slice A4 g.dwn.length c4] (W.drewN n) fun e w' => e = .returned (.int .i64 (Grid.sumL g.dwn)) ∧ w' = W.drewN n) ∧
      (0 ≤ Grid.sumL g.cols ∧ Grid.sumL g.cols ≤ 4000000) ∧ (0 ≤ Grid.sumL g.rows ∧ Grid.sumL g.rows ≤ 4000000) ∧ (0 ≤ Grid.sumL g.acr ∧ Grid.sumL g.acr ≤ 4000000) ∧ (0 ≤ Grid.sumL g.dwn ∧ Grid.sumL g.dwn ≤ 4000000)) := (show ∀ W, _ from fun W hW q1 q2 q3 q4 => by
    have hg := HGA.out W hW
    have s1 := sum_in q1 (by decide)
    have s2 := sum_in q2 (by decide)
    have s3 := sum_in q3 (by decide)
    have s4 := sum_in q4 (by decide)
    have t1 := s1 _ (Nat.le_refl _)
    have t2 := s2 _ (Nat.le_refl _)
    have t3 := s3 _ (Nat.le_refl _)
    have t4 := s4 _ (Nat.le_refl _)
    rw [Grid.sumL_to, Grid.sumL_to, Grid.sumL_to, Grid.sumL_to]
    refine ⟨fun n => ?_, fun n => ?_, fun n => ?_, fun n => ?_, by omega, by omega, by omega, by omega⟩
    · exact (refSum_any g.cols A1 b1 o1 c1 (W.drewN n) hg.l1 hg.z1 (by omega) (fun k hk => by have := s1 k hk; omega)).mono fun _ _ ⟨h1, h2⟩ => ⟨h1, h2.symm⟩
    · exact (refSum_any g.rows A2 b2 o2 c2 (W.drewN n) hg.l2 hg.z2 (by omega) (fun k hk => by have := s2 k hk; omega)).mono fun _ _ ⟨h1, h2⟩ => ⟨h1, h2.symm⟩
    · exact (refSum_any g.acr A3 b3 o3 c3 (W.drewN n) hg.l3 hg.z3 (by omega) (fun k hk => by have := s3 k hk; omega)).mono fun _ _ ⟨h1, h2⟩ => ⟨h1, h2.symm⟩
    · exact (refSum_any g.dwn A4 b4 o4 c4 (W.drewN n) hg.l4 hg.z4 (by omega) (fun k hk => by have := s4 k hk; omega)).mono fun _ _ ⟨h1, h2⟩ => ⟨h1, h2.symm⟩)
  clear h hBa hG hR hN
  go_enter Tryd.func7, Tryd.ntmps7
  go_wp2_with fail
  generalize (((w.alloc (Obj.cells #[Value.int IntKind.i64 g.W, Value.int IntKind.i64 g.H, Value.slice A1 g.cols.length c1, Value.slice A2 g.rows.length c2, Value.slice A3 g.acr.length c3, Value.slice A4 g.dwn.length c4, Value.int IntKind.i64 g.q] 24)).alloc (Obj.cells #[Value.int IntKind.i64 0, Value.int IntKind.i64 0, Value.slice none 0 0] 28)).alloc (Obj.cells #[Value.int IntKind.i64 0, Value.int IntKind.i64 0, Value.slice none 0 0] 28)) = W1 at *
  have x0 := HG1.out.cell 0
  have x1 := HG1.out.cell 1
  have x2 := HG1.out.cell 2
  have x3 := HG1.out.cell 3
  have x4 := HG1.out.cell 4
  have x5 := HG1.out.cell 5
  have x6 := HG1.out.cell 6
  refine (within49_any _ _ _ _).mono ?_
  rintro e w1 ⟨rfl, rfl⟩
  cases hW : win g.W 1 4000 with
  | false =>
    have HRR : Hid (g.check = 2) := by
      show _ = _
      rw [HC.out, if_pos (.inl hW)]
    have HP : Hid (∀ w', Below w.heap.size w w' → LayPost w g (.returned (.tuple #[.agg #[.int .i64 0, .int .i64 0, .slice none 0 0], .int .i64 2])) w') := (show ∀ w', _ from fun w' hw => .inl ⟨by rw [HRR.out]; decide, by rw [HRR.out], hw⟩)
    clear hW
    have s0 := HR1.out.cell 0
    have s1 := HR1.out.cell 1
    have s2 := HR1.out.cell 2
    have t0 := HR1.out.frozen 0
    have t1 := HR1.out.frozen 1
    have t2 := HR1.out.frozen 2
    have u0 := HN1.out.cell 0
    have u1 := HN1.out.cell 1
    have u2 := HN1.out.cell 2
    have hzr := HR1.out.lt
    go_wp2_with fail
    exact bodyPost_ret (v := .tuple #[.agg #[.int .i64 0, .int .i64 0, .slice none 0 0], .int .i64 2]) (by simp [results, Tryd.results7, go_sem, s0, s1, s2, hzr]) rfl (HP.out _ (((HB1.out.setCell (by simp) _).setCell (by simp) _).setCell (by simp) _))
  | true =>
    have HW := Lib.hid hW
    clear hW
    go_wp2_with fail
    refine (within49_any _ _ _ _).mono ?_
    rintro e w1 ⟨rfl, rfl⟩
    cases hH : win g.H 1 4000 with
    | false =>
      have HRR : Hid (g.check = 2) := by
        show _ = _
        rw [HC.out, if_pos (.inr hH)]
      have HP : Hid (∀ w', Below w.heap.size w w' → LayPost w g (.returned (.tuple #[.agg #[.int .i64 0, .int .i64 0, .slice none 0 0], .int .i64 2])) w') := (show ∀ w', _ from fun w' hw => .inl ⟨by rw [HRR.out]; decide, by rw [HRR.out], hw⟩)
      clear hH
      have s0 := HR1.out.cell 0
      have s1 := HR1.out.cell 1
      have s2 := HR1.out.cell 2
      have t0 := HR1.out.frozen 0
      have t1 := HR1.out.frozen 1
      have t2 := HR1.out.frozen 2
      have u0 := HN1.out.cell 0
      have u1 := HN1.out.cell 1
      have u2 := HN1.out.cell 2
      have hzr := HR1.out.lt
      go_wp2_with fail
      exact bodyPost_ret (v := .tuple #[.agg #[.int .i64 0, .int .i64 0, .slice none 0 0], .int .i64 2]) (by simp [results, Tryd.results7, go_sem, s0, s1, s2, hzr]) rfl (HP.out _ (((HB1.out.setCell (by simp) _).setCell (by simp) _).setCell (by simp) _))
    | true =>
      have HC2 : Hid (g.check = if g.cols.length = 0 ∨ g.rows.length = 0 ∨ g.acr.length ≠ g.cols.length + 1 ∨ g.dwn.length ≠ g.rows.length + 1 then 10
        else if Grid.inR g.cols 1 = false ∨ Grid.inR g.rows 1 = false ∨ Grid.inR g.acr 0 = false ∨ Grid.inR g.dwn 0 = false ∨ win g.q 1 4000 = false then 2
        else if Grid.sumL g.cols + Grid.sumL g.acr + g.q ≠ g.W ∨ Grid.sumL g.rows + Grid.sumL g.dwn + g.q ≠ g.H then 23
        else 0) := by
        show _ = _
        have := HC.out
        rwa [if_neg (by rw [HW.out, hH]; decide)] at this
      clear hH HC HW
      have ew1 : IntKind.i64.wrap ((g.cols.length : Int) + 1) = (g.cols.length : Int) + 1 := IntWalk.i64_in _ (by omega)
      have ew2 : IntKind.i64.wrap ((g.rows.length : Int) + 1) = (g.rows.length : Int) + 1 := IntWalk.i64_in _ (by omega)
      by_cases e1 : g.cols.length = 0
      · have HRR : Hid (g.check = 10) := by
          show _ = _
          rw [HC2.out, if_pos (.inl e1)]
        have HP : Hid (∀ w', Below w.heap.size w w' → LayPost w g (.returned (.tuple #[.agg #[.int .i64 0, .int .i64 0, .slice none 0 0], .int .i64 10])) w') := (show ∀ w', _ from fun w' hw => .inl ⟨by rw [HRR.out]; decide, by rw [HRR.out], hw⟩)
        have de1 : ((g.cols.length : Int) == 0) = true := by rw [e1]; rfl
        clear e1
        have s0 := HR1.out.cell 0
        have s1 := HR1.out.cell 1
        have s2 := HR1.out.cell 2
        have t0 := HR1.out.frozen 0
        have t1 := HR1.out.frozen 1
        have t2 := HR1.out.frozen 2
        have u0 := HN1.out.cell 0
        have u1 := HN1.out.cell 1
        have u2 := HN1.out.cell 2
        have hzr := HR1.out.lt
        go_wp2_with fail
        exact bodyPost_ret (v := .tuple #[.agg #[.int .i64 0, .int .i64 0, .slice none 0 0], .int .i64 10]) (by simp [results, Tryd.results7, go_sem, s0, s1, s2, hzr]) rfl (HP.out _ (((HB1.out.setCell (by simp) _).setCell (by simp) _).setCell (by simp) _))
      · have de1 : ((g.cols.length : Int) == 0) = false := beq_eq_false_iff_ne.2 (by omega)
        by_cases e2 : g.rows.length = 0
        · have HRR : Hid (g.check = 10) := by
            show _ = _
            rw [HC2.out, if_pos (.inr (.inl e2))]
          have HP : Hid (∀ w', Below w.heap.size w w' → LayPost w g (.returned (.tuple #[.agg #[.int .i64 0, .int .i64 0, .slice none 0 0], .int .i64 10])) w') := (show ∀ w', _ from fun w' hw => .inl ⟨by rw [HRR.out]; decide, by rw [HRR.out], hw⟩)
          have de2 : ((g.rows.length : Int) == 0) = true := by rw [e2]; rfl
          clear e2
          have s0 := HR1.out.cell 0
          have s1 := HR1.out.cell 1
          have s2 := HR1.out.cell 2
          have t0 := HR1.out.frozen 0
          have t1 := HR1.out.frozen 1
          have t2 := HR1.out.frozen 2
          have u0 := HN1.out.cell 0
          have u1 := HN1.out.cell 1
          have u2 := HN1.out.cell 2
          have hzr := HR1.out.lt
          go_wp2_with fail
          exact bodyPost_ret (v := .tuple #[.agg #[.int .i64 0, .int .i64 0, .slice none 0 0], .int .i64 10]) (by simp [results, Tryd.results7, go_sem, s0, s1, s2, hzr]) rfl (HP.out _ (((HB1.out.setCell (by simp) _).setCell (by simp) _).setCell (by simp) _))
        · have de2 : ((g.rows.length : Int) == 0) = false := beq_eq_false_iff_ne.2 (by omega)
          by_cases e3 : g.acr.length ≠ g.cols.length + 1
          · have HRR : Hid (g.check = 10) := by
              show _ = _
              rw [HC2.out, if_pos (.inr (.inr (.inl e3)))]
            have HP : Hid (∀ w', Below w.heap.size w w' → LayPost w g (.returned (.tuple #[.agg #[.int .i64 0, .int .i64 0, .slice none 0 0], .int .i64 10])) w') := (show ∀ w', _ from fun w' hw => .inl ⟨by rw [HRR.out]; decide, by rw [HRR.out], hw⟩)
            have de3 : ((g.acr.length : Int) != (g.cols.length : Int) + 1) = true := bne_t (by omega)
            clear e3
            have s0 := HR1.out.cell 0
            have s1 := HR1.out.cell 1
            have s2 := HR1.out.cell 2
            have t0 := HR1.out.frozen 0
            have t1 := HR1.out.frozen 1
            have t2 := HR1.out.frozen 2
            have u0 := HN1.out.cell 0
            have u1 := HN1.out.cell 1
            have u2 := HN1.out.cell 2
            have hzr := HR1.out.lt
            go_wp2_with fail
            exact bodyPost_ret (v := .tuple #[.agg #[.int .i64 0, .int .i64 0, .slice none 0 0], .int .i64 10]) (by simp [results, Tryd.results7, go_sem, s0, s1, s2, hzr]) rfl (HP.out _ (((HB1.out.setCell (by simp) _).setCell (by simp) _).setCell (by simp) _))
          · have de3 : ((g.acr.length : Int) != (g.cols.length : Int) + 1) = false := bne_f (by omega)
            by_cases e4 : g.dwn.length ≠ g.rows.length + 1
            · have HRR : Hid (g.check = 10) := by
                show _ = _
                rw [HC2.out, if_pos (.inr (.inr (.inr e4)))]
              have HP : Hid (∀ w', Below w.heap.size w w' → LayPost w g (.returned (.tuple #[.agg #[.int .i64 0, .int .i64 0, .slice none 0 0], .int .i64 10])) w') := (show ∀ w', _ from fun w' hw => .inl ⟨by rw [HRR.out]; decide, by rw [HRR.out], hw⟩)
              have de4 : ((g.dwn.length : Int) != (g.rows.length : Int) + 1) = true := bne_t (by omega)
              clear e4
              have s0 := HR1.out.cell 0
              have s1 := HR1.out.cell 1
              have s2 := HR1.out.cell 2
              have t0 := HR1.out.frozen 0
              have t1 := HR1.out.frozen 1
              have t2 := HR1.out.frozen 2
              have u0 := HN1.out.cell 0
              have u1 := HN1.out.cell 1
              have u2 := HN1.out.cell 2
              have hzr := HR1.out.lt
              go_wp2_with fail
              exact bodyPost_ret (v := .tuple #[.agg #[.int .i64 0, .int .i64 0, .slice none 0 0], .int .i64 10]) (by simp [results, Tryd.results7, go_sem, s0, s1, s2, hzr]) rfl (HP.out _ (((HB1.out.setCell (by simp) _).setCell (by simp) _).setCell (by simp) _))
            · have de4 : ((g.dwn.length : Int) != (g.rows.length : Int) + 1) = false := bne_f (by omega)
              have HC3 : Hid (g.check = if Grid.inR g.cols 1 = false ∨ Grid.inR g.rows 1 = false ∨ Grid.inR g.acr 0 = false ∨ Grid.inR g.dwn 0 = false ∨ win g.q 1 4000 = false then 2
                else if Grid.sumL g.cols + Grid.sumL g.acr + g.q ≠ g.W ∨ Grid.sumL g.rows + Grid.sumL g.dwn + g.q ≠ g.H then 23
                else 0) := by
                show _ = _
                have := HC2.out
                rwa [if_neg (by simp only [not_or]; exact ⟨e1, e2, e3, e4⟩)] at this
              clear HC2
              have HLA : Hid (g.acr.length = g.cols.length + 1) := (show _ = _ by omega)
              have HLD : Hid (g.dwn.length = g.rows.length + 1) := (show _ = _ by omega)
              clear e3 e4 e1 e2
              obtain ⟨hr1, hr2, hr3, hr4⟩ := HIR.out W1 HB1.out
              have HR12 := Lib.hid (fun (h1 : Grid.inR g.cols 1 = true) (h2 : Grid.inR g.rows 1 = true) (h3 : Grid.inR g.acr 0 = true) (h4 : Grid.inR g.dwn 0 = true) => HSM.out W1 HB1.out h1 h2 h3 h4)
              clear HSM HIR
              generalize Grid.inR g.cols 1 = r1 at *
              generalize Grid.inR g.rows 1 = r2 at *
              generalize Grid.inR g.acr 0 = r3 at *
              generalize Grid.inR g.dwn 0 = r4 at *
              go_wp2_with fail
              refine hr1.mono ?_
              rintro e w1 ⟨rfl, rfl⟩
              cases r1 with
              | false =>
                have HRR : Hid (g.check = 2) := by
                  show _ = _
                  rw [HC3.out, if_pos (.inl rfl)]
                have HP : Hid (∀ w', Below w.heap.size w w' → LayPost w g (.returned (.tuple #[.agg #[.int .i64 0, .int .i64 0, .slice none 0 0], .int .i64 2])) w') := (show ∀ w', _ from fun w' hw => .inl ⟨by rw [HRR.out]; decide, by rw [HRR.out], hw⟩)
                clear HC3 HR12 hr1 hr2 hr3 hr4
                have s0 := HR1.out.cell 0
                have s1 := HR1.out.cell 1
                have s2 := HR1.out.cell 2
                have t0 := HR1.out.frozen 0
                have t1 := HR1.out.frozen 1
                have t2 := HR1.out.frozen 2
                have u0 := HN1.out.cell 0
                have u1 := HN1.out.cell 1
                have u2 := HN1.out.cell 2
                have hzr := HR1.out.lt
                go_wp2_with fail
                exact bodyPost_ret (v := .tuple #[.agg #[.int .i64 0, .int .i64 0, .slice none 0 0], .int .i64 2]) (by simp [results, Tryd.results7, go_sem, s0, s1, s2, hzr]) rfl (HP.out _ (((HB1.out.setCell (by simp) _).setCell (by simp) _).setCell (by simp) _))
              | true =>
                go_wp2_with fail
                refine hr2.mono ?_
                rintro e w1 ⟨rfl, rfl⟩
                cases r2 with
                | false =>
                  have HRR : Hid (g.check = 2) := by
                    show _ = _
                    rw [HC3.out, if_pos (.inr (.inl rfl))]
                  have HP : Hid (∀ w', Below w.heap.size w w' → LayPost w g (.returned (.tuple #[.agg #[.int .i64 0, .int .i64 0, .slice none 0 0], .int .i64 2])) w') := (show ∀ w', _ from fun w' hw => .inl ⟨by rw [HRR.out]; decide, by rw [HRR.out], hw⟩)
                  clear HC3 HR12 hr1 hr2 hr3 hr4
                  have s0 := HR1.out.cell 0
                  have s1 := HR1.out.cell 1
                  have s2 := HR1.out.cell 2
                  have t0 := HR1.out.frozen 0
                  have t1 := HR1.out.frozen 1
                  have t2 := HR1.out.frozen 2
                  have u0 := HN1.out.cell 0
                  have u1 := HN1.out.cell 1
                  have u2 := HN1.out.cell 2
                  have hzr := HR1.out.lt
                  go_wp2_with fail
                  exact bodyPost_ret (v := .tuple #[.agg #[.int .i64 0, .int .i64 0, .slice none 0 0], .int .i64 2]) (by simp [results, Tryd.results7, go_sem, s0, s1, s2, hzr]) rfl (HP.out _ (((HB1.out.setCell (by simp) _).setCell (by simp) _).setCell (by simp) _))
                | true =>
                  go_wp2_with fail
                  refine hr3.mono ?_
                  rintro e w1 ⟨rfl, rfl⟩
                  cases r3 with
                  | false =>
                    have HRR : Hid (g.check = 2) := by
                      show _ = _
                      rw [HC3.out, if_pos (.inr (.inr (.inl rfl)))]
                    have HP : Hid (∀ w', Below w.heap.size w w' → LayPost w g (.returned (.tuple #[.agg #[.int .i64 0, .int .i64 0, .slice none 0 0], .int .i64 2])) w') := (show ∀ w', _ from fun w' hw => .inl ⟨by rw [HRR.out]; decide, by rw [HRR.out], hw⟩)
                    clear HC3 HR12 hr1 hr2 hr3 hr4
                    have s0 := HR1.out.cell 0
                    have s1 := HR1.out.cell 1
                    have s2 := HR1.out.cell 2
                    have t0 := HR1.out.frozen 0
                    have t1 := HR1.out.frozen 1
                    have t2 := HR1.out.frozen 2
                    have u0 := HN1.out.cell 0
                    have u1 := HN1.out.cell 1
                    have u2 := HN1.out.cell 2
                    have hzr := HR1.out.lt
                    go_wp2_with fail
                    exact bodyPost_ret (v := .tuple #[.agg #[.int .i64 0, .int .i64 0, .slice none 0 0], .int .i64 2]) (by simp [results, Tryd.results7, go_sem, s0, s1, s2, hzr]) rfl (HP.out _ (((HB1.out.setCell (by simp) _).setCell (by simp) _).setCell (by simp) _))
                  | true =>
                    go_wp2_with fail
                    refine hr4.mono ?_
                    rintro e w1 ⟨rfl, rfl⟩
                    cases r4 with
                    | false =>
                      have HRR : Hid (g.check = 2) := by
                        show _ = _
                        rw [HC3.out, if_pos (.inr (.inr (.inr (.inl rfl))))]
                      have HP : Hid (∀ w', Below w.heap.size w w' → LayPost w g (.returned (.tuple #[.agg #[.int .i64 0, .int .i64 0, .slice none 0 0], .int .i64 2])) w') := (show ∀ w', _ from fun w' hw => .inl ⟨by rw [HRR.out]; decide, by rw [HRR.out], hw⟩)
                      clear HC3 HR12 hr1 hr2 hr3 hr4
                      have s0 := HR1.out.cell 0
                      have s1 := HR1.out.cell 1
                      have s2 := HR1.out.cell 2
                      have t0 := HR1.out.frozen 0
                      have t1 := HR1.out.frozen 1
                      have t2 := HR1.out.frozen 2
                      have u0 := HN1.out.cell 0
                      have u1 := HN1.out.cell 1
                      have u2 := HN1.out.cell 2
                      have hzr := HR1.out.lt
                      go_wp2_with fail
                      exact bodyPost_ret (v := .tuple #[.agg #[.int .i64 0, .int .i64 0, .slice none 0 0], .int .i64 2]) (by simp [results, Tryd.results7, go_sem, s0, s1, s2, hzr]) rfl (HP.out _ (((HB1.out.setCell (by simp) _).setCell (by simp) _).setCell (by simp) _))
                    | true =>
                      go_wp2_with fail
                      refine (within49_any _ _ _ _).mono ?_
                      rintro e w1 ⟨rfl, rfl⟩
                      cases hq : win g.q 1 4000 with
                      | false =>
                        have HRR : Hid (g.check = 2) := by
                          show _ = _
                          rw [HC3.out, if_pos (.inr (.inr (.inr (.inr hq))))]
                        have HP : Hid (∀ w', Below w.heap.size w w' → LayPost w g (.returned (.tuple #[.agg #[.int .i64 0, .int .i64 0, .slice none 0 0], .int .i64 2])) w') := (show ∀ w', _ from fun w' hw => .inl ⟨by rw [HRR.out]; decide, by rw [HRR.out], hw⟩)
                        clear HC3 HR12 hr1 hr2 hr3 hr4 hq
                        have s0 := HR1.out.cell 0
                        have s1 := HR1.out.cell 1
                        have s2 := HR1.out.cell 2
                        have t0 := HR1.out.frozen 0
                        have t1 := HR1.out.frozen 1
                        have t2 := HR1.out.frozen 2
                        have u0 := HN1.out.cell 0
                        have u1 := HN1.out.cell 1
                        have u2 := HN1.out.cell 2
                        have hzr := HR1.out.lt
                        go_wp2_with fail
                        exact bodyPost_ret (v := .tuple #[.agg #[.int .i64 0, .int .i64 0, .slice none 0 0], .int .i64 2]) (by simp [results, Tryd.results7, go_sem, s0, s1, s2, hzr]) rfl (HP.out _ (((HB1.out.setCell (by simp) _).setCell (by simp) _).setCell (by simp) _))
                      | true =>
                        have HC4 : Hid (g.check = if Grid.sumL g.cols + Grid.sumL g.acr + g.q ≠ g.W ∨ Grid.sumL g.rows + Grid.sumL g.dwn + g.q ≠ g.H then 23 else 0) := by
                          show _ = _
                          have := HC3.out
                          rwa [if_neg (by rw [hq]; decide)] at this
                        obtain ⟨p1, p2, p3, p4, p5, p6, p7, p8⟩ := HR12.out (by trivial) (by trivial) (by trivial) (by trivial)
                        have hqq := win_t.1 hq
                        generalize Grid.sumL g.cols = S1 at *
                        generalize Grid.sumL g.rows = S2 at *
                        generalize Grid.sumL g.acr = S3 at *
                        generalize Grid.sumL g.dwn = S4 at *
                        have w1 : IntKind.i64.wrap (S1 + S3) = S1 + S3 := IntWalk.i64_in _ (by omega)
                        have w2 : IntKind.i64.wrap (S1 + S3 + g.q) = S1 + S3 + g.q := IntWalk.i64_in _ (by omega)
                        have w3 : IntKind.i64.wrap (S2 + S4) = S2 + S4 := IntWalk.i64_in _ (by omega)
                        have w4 : IntKind.i64.wrap (S2 + S4 + g.q) = S2 + S4 + g.q := IntWalk.i64_in _ (by omega)
                        clear HC3 HR12 hr1 hr2 hr3 hr4 hq hqq p5 p6 p7 p8
                        by_cases h1 : S1 + S3 + g.q = g.W
                        · have d1 : (S1 + S3 + g.q != g.W) = false := bne_f h1
                          by_cases h2 : S2 + S4 + g.q = g.H
                          · have d2 : (S2 + S4 + g.q != g.H) = false := bne_f h2
                            have HCK : Hid (g.check = 0) := by
                              show _ = _
                              rw [HC4.out, if_neg (by omega)]
                            clear HC4 h1 h2
                            go_wp2_with fail
                            go_quiet ((go_at_call 23; first | (with_reducible exact Calls.quiet_of_same (p1 _)) | (with_reducible exact Calls.quiet_of_same (p2 _)) | (with_reducible exact Calls.quiet_of_same (p3 _)) | (with_reducible exact Calls.quiet_of_same (p4 _))))
                            have HB2 : Hid (Below w.heap.size w (W1.drewN nq)) := ⟨HB1.out.os, HB1.out.tape, HB1.out.output, HB1.out.size, HB1.out.block⟩
                            have HR2 : Hid (Blk (W1.drewN nq) (w.heap.size + 1) 28 #[Value.int IntKind.i64 0, Value.int IntKind.i64 0, Value.slice none 0 0]) := HR1.out
                            have HN2 : Hid (Blk (W1.drewN nq) (w.heap.size + 1 + 1) 28 #[Value.int IntKind.i64 0, Value.int IntKind.i64 0, Value.slice none 0 0]) := HN1.out
                            have HG2 : Hid (Blk (W1.drewN nq) (w.heap.size) 24 #[Value.int IntKind.i64 g.W, Value.int IntKind.i64 g.H, Value.slice A1 g.cols.length c1, Value.slice A2 g.rows.length c2, Value.slice A3 g.acr.length c3, Value.slice A4 g.dwn.length c4, Value.int IntKind.i64 g.q]) := HG1.out
                            have hsz2 : (W1.drewN nq).heap.size = w.heap.size + 1 + 1 + 1 := hsz
                            clear HB1 HR1 HN1 HG1 x0 x1 x2 x3 x4 x5 x6 p1 p2 p3 p4
                            generalize W1.drewN nq = W2 at *
                            have hfb : W2.heap.size = W2.heap.size := rfl
                            have hbn := below_new W2 (Obj.cells #[.int .i64 g.W, .int .i64 g.H, .slice none 0 0] 28)
                            have y0 : W2.cell? ⟨w.heap.size, 0, none⟩ = some (.int .i64 g.W) := HG2.out.cell 0
                            have y1 : W2.cell? ⟨w.heap.size, 1, none⟩ = some (.int .i64 g.H) := HG2.out.cell 1
                            have HB3 := Lib.hid (HB2.out.trans (hbn.mono HB2.out.size))
                            have HG3 := Lib.hid (HG2.out.below hbn HG2.out.lt)
                            have HR3 := Lib.hid (HR2.out.below hbn HR2.out.lt)
                            have HN3 := Lib.hid (HN2.out.below hbn HN2.out.lt)
                            have hRS0 : RS (W2.alloc (Obj.cells #[.int .i64 g.W, .int .i64 g.H, .slice none 0 0] 28)) W2.heap.size (W2.heap.size + 1) g.W g.H [] (.slice none 0 0) := ⟨Blk.new W2 28 _, World.ownsRow_nil _ _ _ _, Nat.lt_succ_self _, by simp⟩
                            have HS3 := Lib.hid hRS0
                            have HFZ : Hid (W2.heap.size = w.heap.size + 1 + 1 + 1) := hsz2
                            clear hbn hRS0 hsz2 hsz hfb HB2 HG2 HR2 HN2 w1 w2 w3 w4 d1 d2 ew1 ew2 de1 de2 de3 de4
                            obtain ⟨i1', hi1, hi1z, hi1s, hi1b⟩ := info_parts Tryd.info60
                            go_wp2_with fail
                            generalize W2.alloc (Obj.cells #[.int .i64 g.W, .int .i64 g.H, .slice none 0 0] 28) = W3 at *
                            generalize W2.heap.size = fb at *
                            have hfbz : w.heap.size + 1 + 1 + 1 ≤ fb := by have := HFZ.out; omega
                            clear y0 y1
                            have HFK : Hid (∀ W v1, FrL W3 W fb (.slice none 0 0) v1 → Blk W (w.heap.size) 24 #[Value.int IntKind.i64 g.W, Value.int IntKind.i64 g.H, Value.slice A1 g.cols.length c1, Value.slice A2 g.rows.length c2, Value.slice A3 g.acr.length c3, Value.slice A4 g.dwn.length c4, Value.int IntKind.i64 g.q] ∧ Blk W (w.heap.size + 1) 28 #[Value.int IntKind.i64 0, Value.int IntKind.i64 0, Value.slice none 0 0] ∧ Blk W (w.heap.size + 1 + 1) 28 #[Value.int IntKind.i64 0, Value.int IntKind.i64 0, Value.slice none 0 0] ∧ Below w.heap.size w W) := (show ∀ W v1, _ from fun W v1 hF =>
                              ⟨hF.blk HG3.out (by omega) (by simp [Value.ownBlock]), hF.blk HR3.out (by omega) (by simp [Value.ownBlock]), hF.blk HN3.out (by omega) (by simp [Value.ownBlock]), HB3.out.trans (hF.below (base := 0) HB3.out.size (by omega) (fun k hk => by simp [Value.ownBlock] at hk))⟩)
                            have HGD := Lib.hid (Grid.check_good HCK.out)
                            have HY : Hid (∀ i, i ≤ g.rows.length → (0 ≤ g.yAt i ∧ g.yAt i + gz g.dwn i ≤ 4000) ∧ (0 ≤ gz g.dwn i)) := (show ∀ i, _ from fun i hi => by
                              have hg := HGD.out
                              have h1 := hg.y0 i (by omega)
                              have h2 := hg.yle (g.rows.length - i) i (by omega)
                              have h3 := hg.rd i (by omega)
                              have h5 := hg.h2
                              have h6 := hg.q1
                              unfold Grid.bottom at h2
                              omega)
                            have HY2 : Hid (∀ i, i < g.rows.length → 1 ≤ gz g.rows i ∧ gz g.rows i ≤ 4000) := (show ∀ i, _ from fun i hi => HGD.out.rr i hi)
                            have HX : Hid (∀ k, k ≤ g.cols.length → (0 ≤ g.xAt k ∧ g.xAt k + gz g.acr k ≤ 4000) ∧ 0 ≤ gz g.acr k) := (show ∀ k, _ from fun k hk => by
                              have hg := HGD.out
                              have h1 := hg.x0 k (by omega)
                              have h2 := hg.xle (g.cols.length - k) k (by omega)
                              have h3 := hg.ra k (by omega)
                              have h5 := hg.w2
                              have h6 := hg.q1
                              unfold Grid.right at h2
                              omega)
                            have HX2 : Hid (∀ k, k < g.cols.length → 1 ≤ gz g.cols k ∧ gz g.cols k ≤ 4000) := (show ∀ k, _ from fun k hk => HGD.out.rc k hk)
                            have HBD : Hid (∀ i, i ≤ g.rows.length → LBd (g.lays i) (8 * i) (10 * i)) := (show ∀ i, _ from fun i hi => lays_bd g m1 m2 i hi)
                            have hrt : 0 < g.W - g.q := by have := HGD.out.right1; unfold Grid.right at this; omega
                            have hrw : IntKind.i64.wrap (g.W - g.q) = g.W - g.q := IntWalk.i64_in _ (by have := HGD.out.w1; have := HGD.out.w2; have := HGD.out.q1; have := HGD.out.q2; omega)
                            have hbw : IntKind.i64.wrap (g.H - g.q) = g.H - g.q := IntWalk.i64_in _ (by have := HGD.out.h1; have := HGD.out.h2; have := HGD.out.q1; have := HGD.out.q2; omega)
                            go_loopg [6, 7, 8, 9] (g.rows.length + 1) (fun gg s6 s7 s8 s9 wr => ∃ (r : Nat) (v1 : Value), r ≤ g.rows.length ∧ g.rows.length + 1 - r ≤ gg ∧ s9 = .int .i64 r ∧ s8 = .int .i64 (g.yAt r) ∧ s6 = .int .i64 ((g.lays r).np : Int) ∧ s7 = .int .i64 ((g.lays r).nf : Int) ∧ Hid (RS wr fb (fb + 1) g.W g.H (g.lays r).ps v1) ∧ Hid (FrL W3 wr fb (.slice none 0 0) v1))
                            case atStart => exact ⟨0, _, Nat.zero_le _, by omega, rfl, rfl, rfl, rfl, HS3.out, FrL.refl _ _ _⟩
                            case round =>
                              obtain ⟨r, v1, hr, hgr, rfl, rfl, rfl, rfl, R1, F1⟩ := hrel
                              obtain ⟨hG, hRb, hNb, hb⟩ := HFK.out wr v1 F1.out
                              have hGr := HGA.out wr hb
                              have x0 : wr.cell? ⟨w.heap.size, 0, none⟩ = some (.int .i64 g.W) := hG.cell 0
                              have x3 : wr.cell? ⟨w.heap.size, 3, none⟩ = some (.slice A2 g.rows.length c2) := hG.cell 3
                              have x5 : wr.cell? ⟨w.heap.size, 5, none⟩ = some (.slice A4 g.dwn.length c4) := hG.cell 5
                              have x6 : wr.cell? ⟨w.heap.size, 6, none⟩ = some (.int .i64 g.q) := hG.cell 6
                              have hle : (r : Int) ≤ (g.rows.length : Int) := by omega
                              have hr0 : (0 : Int) ≤ (r : Int) := by omega
                              have hrd : (r : Int) < (g.dwn.length : Int) := by have := HLD.out; omega
                              obtain ⟨rfl, hb4⟩ := hGr.l4 (by have := HLD.out; omega)
                              have y4 : wr.cell? ⟨b4, o4 + r, none⟩ = some (.int .i64 (gz g.dwn r)) := hGr.z4 r (by have := HLD.out; omega)
                              obtain ⟨⟨hy1, hy2⟩, hy3⟩ := HY.out r hr
                              have hbd := HBD.out r hr
                              have hnp := hbd.np
                              have hnf := hbd.nf
                              have HLN : Hid ((g.lays r).ps.length ≤ 200) := (show _ ≤ _ by have := hbd.len; omega)
                              have HBY := Lib.hid (hbd.fill 0 (g.yAt r) (g.W - g.q) (gz g.dwn r))
                              obtain ⟨sY, hsY⟩ : ∃ sY, sY = (g.lays r).fill 0 (g.yAt r) (g.W - g.q) (gz g.dwn r) := ⟨_, rfl⟩
                              have HSY := Lib.hid hsY
                              rw [← hsY] at HBY
                              have HYR : Hid (∀ yr dk, yr = g.yAt r → dk = gz g.dwn r → sY = (g.lays r).fill 0 yr (g.W - g.q) dk) := (show ∀ yr dk, _ from fun yr dk e1 e2 => by rw [e1, e2]; exact hsY)
                              have HFL : Hid (∀ yr dk, yr = g.yAt r → dk = gz g.dwn r → 0 < dk → sY = ⟨(g.lays r).ps ++ [⟨fN ((g.lays r).nf + 1), 2, 0, yr, g.W - g.q, dk⟩], (g.lays r).np, (g.lays r).nf + 1⟩) := (show ∀ yr dk, _ from fun yr dk e1 e2 e3 => by
                                rw [hsY, ← e1, ← e2]; unfold Lay.fill; rw [if_pos ⟨hrt, e3⟩])
                              have HFN : Hid (∀ dk, dk = gz g.dwn r → ¬ 0 < dk → sY = g.lays r) := (show ∀ dk, _ from fun dk e2 e3 => by
                                rw [hsY, ← e2]; unfold Lay.fill; rw [if_neg (fun h => e3 h.2)])
                              clear hbd hsY hG hRb hNb hb hGr
                              obtain ⟨dk, hdk⟩ : ∃ dk, dk = gz g.dwn r := ⟨_, rfl⟩
                              obtain ⟨yr, hyr⟩ : ∃ yr, yr = g.yAt r := ⟨_, rfl⟩
                              have HDK := Lib.hid hdk
                              have HYK := Lib.hid hyr
                              rw [← hdk] at y4 hy2 hy3
                              rw [← hyr] at hy1 hy2 ⊢
                              clear hdk hyr
                              have e1 : IntKind.i64.wrap (yr + dk) = yr + dk := IntWalk.i64_in _ (by omega)
                              have e2 : IntKind.i64.wrap (((g.lays r).nf : Int) + 1) = ((g.lays r).nf : Int) + 1 := IntWalk.i64_in _ (by omega)
                              go_upto_if 130 with fail
                              go_cut [7, 8] from 130 to 159 (fun s7 s8 wx => ∃ v2, s7 = .int .i64 (sY.nf : Int) ∧ s8 = .int .i64 (yr + dk) ∧ Hid (RS wx fb (fb + 1) g.W g.H sY.ps v2) ∧ Hid (FrL wr wx fb v1 v2))
                              case first =>
                                by_cases hd : 0 < dk
                                · have hdg : dk > 0 := hd
                                  have HFLL := Lib.hid (HFL.out yr dk HYK.out HDK.out hd)
                                  clear hd
                                  have a2 : wr.cell? ⟨fb, 2, none⟩ = some v1 := R1.out.blk.cell 2
                                  have HKS : Hid (∀ W, Below wr.heap.size wr W → (W.cell? ⟨fb, 2, none⟩ = some v1 ∧ W.cell? ⟨w.heap.size, 0, none⟩ = some (.int .i64 g.W) ∧ W.cell? ⟨w.heap.size, 5, none⟩ = some (.slice (some ⟨b4, o4, none⟩) g.dwn.length c4) ∧ W.cell? ⟨w.heap.size, 6, none⟩ = some (.int .i64 g.q) ∧ W.cell? ⟨b4, o4 + r, none⟩ = some (.int .i64 dk))) := (show ∀ W, _ from fun W hW => ⟨(hW.cell (p := ⟨fb, 2, none⟩) (block_lt_of_cell a2)).trans a2, (hW.cell (p := ⟨w.heap.size, 0, none⟩) (block_lt_of_cell x0)).trans x0, (hW.cell (p := ⟨w.heap.size, 5, none⟩) (block_lt_of_cell x5)).trans x5, (hW.cell (p := ⟨w.heap.size, 6, none⟩) (block_lt_of_cell x6)).trans x6, (hW.cell (p := ⟨b4, o4 + r, none⟩) (block_lt_of_cell y4)).trans y4⟩)
                                  have hbd0 : Below wr.heap.size wr wr.drew := (Below.refl _ _).drew
                                  have hS0 := HKS.out _ hbd0
                                  have HDC : Hid (∀ W, Calls Tryd.prog 24 #[.int .i64 (((g.lays r).nf : Int) + 1)] W fun e w' => e = .returned (.string (decB ((g.lays r).nf + 1))) ∧ Below W.heap.size W w') := (show ∀ W, _ from fun W => by
                                    have := dec_any ((g.lays r).nf + 1) W (by omega)
                                    rwa [show (((g.lays r).nf + 1 : Nat) : Int) = (((g.lays r).nf : Int) + 1) by omega] at this)
                                  have hdz : (decB ((g.lays r).nf + 1)).size ≤ 1000 := by have := decB_size ((g.lays r).nf + 1); omega
                                  have HNM : Hid (fN ((g.lays r).nf + 1) = ⟨#[102]⟩ ++ decB ((g.lays r).nf + 1)) := rfl
                                  obtain ⟨db, hdb⟩ : ∃ db, decB ((g.lays r).nf + 1) = db := ⟨_, rfl⟩
                                  rw [hdb] at hdz HNM HDC
                                  clear hdb hbd0
                                  have hcz : ¬ 9223372036854775807 < 1 + db.size := by omega
                                  go_wp2_with fail
                                  refine wp_region_split (fun W => (W.cell? ⟨fb, 2, none⟩ = some v1 ∧ W.cell? ⟨w.heap.size, 0, none⟩ = some (.int .i64 g.W) ∧ W.cell? ⟨w.heap.size, 5, none⟩ = some (.slice (some ⟨b4, o4, none⟩) g.dwn.length c4) ∧ W.cell? ⟨w.heap.size, 6, none⟩ = some (.int .i64 g.q) ∧ W.cell? ⟨b4, o4 + r, none⟩ = some (.int .i64 dk))) 18 (by kernel_rfl) (by decide) ?_
                                  refine wpG_take 18 0 (v := ?_) rfl (by kernel_rfl) (fun _ _ _ h => h) (Or.inl ⟨by rfl, ?_⟩) (by assumption) ?_
                                  rotate_left
                                  · intro w hSw; (try dsimp only at hSw); go_simp; (try with_reducible rfl)
                                  (try simp only [Act.put, List.getElem_toArray, List.getElem_cons_zero, List.getElem_cons_succ, List.setIfInBounds_toArray, List.set_cons_zero, List.set_cons_succ])
                                  refine wpG_take 18 1 (v := ?_) rfl (by kernel_rfl) (fun _ _ _ h => h) (Or.inl ⟨by rfl, ?_⟩) (by assumption) ?_
                                  rotate_left
                                  · intro w hSw; (try dsimp only at hSw); go_simp; (try with_reducible rfl)
                                  (try simp only [Act.put, List.getElem_toArray, List.getElem_cons_zero, List.getElem_cons_succ, List.setIfInBounds_toArray, List.set_cons_zero, List.set_cons_succ])
                                  refine wpG_take 18 2 (v := ?_) rfl (by kernel_rfl) (fun _ _ _ h => h) (Or.inl ⟨by rfl, ?_⟩) (by assumption) ?_
                                  rotate_left
                                  · intro w hSw; (try dsimp only at hSw); go_simp; (try with_reducible rfl)
                                  (try simp only [Act.put, List.getElem_toArray, List.getElem_cons_zero, List.getElem_cons_succ, List.setIfInBounds_toArray, List.set_cons_zero, List.set_cons_succ])
                                  refine wpG_take 18 5 (v := ?_) rfl (by kernel_rfl) (fun _ _ _ h => h) (Or.inl ⟨by rfl, ?_⟩) (by assumption) ?_
                                  rotate_left
                                  · intro w hSw; (try dsimp only at hSw); go_simp; (try with_reducible rfl)
                                  (try simp only [Act.put, List.getElem_toArray, List.getElem_cons_zero, List.getElem_cons_succ, List.setIfInBounds_toArray, List.set_cons_zero, List.set_cons_succ])
                                  refine wpG_take 18 6 (v := ?_) rfl (by kernel_rfl) (fun _ _ _ h => h) (Or.inl ⟨by rfl, ?_⟩) (by assumption) ?_
                                  rotate_left
                                  · intro w hSw; (try dsimp only at hSw); go_simp; (try with_reducible rfl)
                                  (try simp only [Act.put, List.getElem_toArray, List.getElem_cons_zero, List.getElem_cons_succ, List.setIfInBounds_toArray, List.set_cons_zero, List.set_cons_succ])
                                  refine wpG_take 18 7 (v := ?_) rfl (by kernel_rfl) (fun _ _ _ h => h) (Or.inl ⟨by rfl, ?_⟩) (by assumption) ?_
                                  rotate_left
                                  · intro w hSw; (try dsimp only at hSw); go_simp; (try with_reducible rfl)
                                  (try simp only [Act.put, List.getElem_toArray, List.getElem_cons_zero, List.getElem_cons_succ, List.setIfInBounds_toArray, List.set_cons_zero, List.set_cons_succ])
                                  refine wpG_take 18 8 (v := ?_) rfl (by kernel_rfl) (fun _ _ _ h => h) (Or.inl ⟨by rfl, ?_⟩) (by assumption) ?_
                                  rotate_left
                                  · intro w hSw; (try dsimp only at hSw); go_simp; (try with_reducible rfl)
                                  (try simp only [Act.put, List.getElem_toArray, List.getElem_cons_zero, List.getElem_cons_succ, List.setIfInBounds_toArray, List.set_cons_zero, List.set_cons_succ])
                                  refine wpG_take 18 9 (v := ?_) rfl (by kernel_rfl) (fun _ _ _ h => h) (Or.inl ⟨by rfl, ?_⟩) (by assumption) ?_
                                  rotate_left
                                  · intro w hSw; (try dsimp only at hSw); go_simp; (try with_reducible rfl)
                                  (try simp only [Act.put, List.getElem_toArray, List.getElem_cons_zero, List.getElem_cons_succ, List.setIfInBounds_toArray, List.set_cons_zero, List.set_cons_succ])
                                  refine wpG_take 18 10 (v := ?_) rfl (by kernel_rfl) (fun _ _ _ h => h) (Or.inl ⟨by rfl, ?_⟩) (by assumption) ?_
                                  rotate_left
                                  · intro w hSw; (try dsimp only at hSw); go_simp; (try with_reducible rfl)
                                  (try simp only [Act.put, List.getElem_toArray, List.getElem_cons_zero, List.getElem_cons_succ, List.setIfInBounds_toArray, List.set_cons_zero, List.set_cons_succ])
                                  refine wpG_take 18 11 (v := ?_) rfl (by kernel_rfl) (fun _ _ _ h => h) (Or.inl ⟨by rfl, ?_⟩) (by assumption) ?_
                                  rotate_left
                                  · intro w hSw; (try dsimp only at hSw); go_simp; (try with_reducible rfl)
                                  (try simp only [Act.put, List.getElem_toArray, List.getElem_cons_zero, List.getElem_cons_succ, List.setIfInBounds_toArray, List.set_cons_zero, List.set_cons_succ])
                                  refine wpG_take 18 12 (v := ?_) rfl (by kernel_rfl) (fun _ _ _ h => h) (Or.inl ⟨by rfl, ?_⟩) (by assumption) ?_
                                  rotate_left
                                  · intro w hSw; (try dsimp only at hSw); go_simp; (try with_reducible rfl)
                                  (try simp only [Act.put, List.getElem_toArray, List.getElem_cons_zero, List.getElem_cons_succ, List.setIfInBounds_toArray, List.set_cons_zero, List.set_cons_succ])
                                  refine wpG_take 18 13 (v := ?_) rfl (by kernel_rfl) (fun _ _ _ h => h) (Or.inl ⟨by rfl, ?_⟩) (by assumption) ?_
                                  rotate_left
                                  · intro w hSw; (try dsimp only at hSw); go_simp; (try with_reducible rfl)
                                  (try simp only [Act.put, List.getElem_toArray, List.getElem_cons_zero, List.getElem_cons_succ, List.setIfInBounds_toArray, List.set_cons_zero, List.set_cons_succ])
                                  refine wpG_take 18 14 (v := ?_) rfl (by kernel_rfl) (fun _ _ _ h => h) (Or.inl ⟨by rfl, ?_⟩) (by assumption) ?_
                                  rotate_left
                                  · intro w hSw; (try dsimp only at hSw); go_simp; (try with_reducible rfl)
                                  (try simp only [Act.put, List.getElem_toArray, List.getElem_cons_zero, List.getElem_cons_succ, List.setIfInBounds_toArray, List.set_cons_zero, List.set_cons_succ])
                                  refine wpG_take 18 15 (v := ?_) rfl (by kernel_rfl) (fun _ _ _ h => h) (Or.inl ⟨by rfl, ?_⟩) (by assumption) ?_
                                  rotate_left
                                  · intro w hSw; (try dsimp only at hSw); go_simp; (try with_reducible rfl)
                                  (try simp only [Act.put, List.getElem_toArray, List.getElem_cons_zero, List.getElem_cons_succ, List.setIfInBounds_toArray, List.set_cons_zero, List.set_cons_succ])
                                  refine wpG_one (i := 3) (by kernel_rfl) ?_
                                  refine wpOp_step rfl (fun K hK => ?_)
                                  go_simp
                                  go_at_call 24
                                  (with_reducible refine (HDC.out _).mono ?_)
                                  rintro e w14 ⟨rfl, hb14'⟩
                                  have hb14 : Below wr.heap.size wr w14 := (Below.refl _ wr).drew.trans hb14'
                                  have n14 := HKS.out w14 hb14
                                  (try dsimp only)
                                  refine hK _ _ ⟨n14, ?_⟩
                                  clear hK K hS0 hb14'
                                  (try simp only [Act.put, List.getElem_toArray, List.getElem_cons_zero, List.getElem_cons_succ, List.setIfInBounds_toArray, List.set_cons_zero, List.set_cons_succ])
                                  refine wpG_take 18 4 (v := ?_) rfl (by kernel_rfl) (fun _ _ _ h => h) (Or.inl ⟨by rfl, ?_⟩) (by assumption) ?_
                                  rotate_left
                                  · intro w hSw; (try dsimp only at hSw); go_simp; (try with_reducible rfl)
                                  (try simp only [Act.put, List.getElem_toArray, List.getElem_cons_zero, List.getElem_cons_succ, List.setIfInBounds_toArray, List.set_cons_zero, List.set_cons_succ])
                                  refine wpG_take 18 16 (v := ?_) rfl (by kernel_rfl) (fun _ _ _ h => h) (Or.inl ⟨by rfl, ?_⟩) (by assumption) ?_
                                  rotate_left
                                  · intro w hSw; (try dsimp only at hSw); go_simp; (try with_reducible rfl)
                                  (try simp only [Act.put, List.getElem_toArray, List.getElem_cons_zero, List.getElem_cons_succ, List.setIfInBounds_toArray, List.set_cons_zero, List.set_cons_succ])
                                  have hb15 : Below wr.heap.size wr (w14.alloc (Obj.cells #[Value.string (⟨#[102]⟩ ++ db), Value.int IntKind.i64 2, Value.int IntKind.i64 0, Value.int IntKind.i64 yr, Value.int IntKind.i64 (g.W - g.q), Value.int IntKind.i64 dk] 60)) := hb14.trans ((below_new w14 _).mono hb14.size)
                                  have n15 := HKS.out _ hb15
                                  refine wpG_one (i := 17) (by kernel_rfl) ?_
                                  refine wpOp_step rfl (fun K hK => ?_)
                                  go_simp
                                  refine hK _ _ ⟨n15, ?_⟩
                                  clear hK K n14
                                  (try simp only [Act.put, List.getElem_toArray, List.getElem_cons_zero, List.getElem_cons_succ, List.setIfInBounds_toArray, List.set_cons_zero, List.set_cons_succ])
                                  have hnews : ∀ j u, (pcs ⟨⟨#[102]⟩ ++ db, 2, 0, yr, (g.W - g.q), dk⟩).toList[j]? = some u → (w14.alloc (Obj.cells #[Value.string (⟨#[102]⟩ ++ db), Value.int IntKind.i64 2, Value.int IntKind.i64 0, Value.int IntKind.i64 yr, Value.int IntKind.i64 (g.W - g.q), Value.int IntKind.i64 dk] 60)).cell? ((⟨w14.heap.size, 0, none⟩ : Addr).add j) = some u := World.news_of_block (heap_alloc_new w14 _)
                                  have HNW := Lib.hid hnews
                                  have HB15 := Lib.hid hb15
                                  have HL15 := Lib.hid (R1.out.below hb15)
                                  clear hb14 hb15 n15 hnews
                                  generalize w14.alloc (Obj.cells #[Value.string (⟨#[102]⟩ ++ db), Value.int IntKind.i64 2, Value.int IntKind.i64 0, Value.int IntKind.i64 yr, Value.int IntKind.i64 (g.W - g.q), Value.int IntKind.i64 dk] 60) = W15 at *
                                  generalize w14.heap.size = tb at *
                                  refine ⟨by kernel_rfl, ?_⟩
                                  simp only [List.drop_succ_cons, List.drop_zero]
                                  go_wp2_with ((at_builtin
                                                go_loud (refine wpList_append_lies _ rfl (.tmp 134) (.tmp 150) 26 (by rfl) (fb + 1) 60 i1' _ 6 56 Tryd.underlying26 hi1 hi1z hi1s hi1b rfl (by omega) v1 (g.lays r).ps.length _ (by rfl) HL15.out.row ⟨tb, 0, none⟩ 1 1 (pcs ⟨⟨#[102]⟩ ++ db, 2, 0, yr, (g.W - g.q), dk⟩).toList (by rfl) (by rfl) HNW.out (fun u hu => pcells_one [⟨⟨#[102]⟩ ++ db, 2, 0, yr, (g.W - g.q), dk⟩] u (by unfold pcells; simpa using hu)) (by omega) (by have := HLN.out; simp only [maxLen]; omega) (by have := HLN.out; omega) HL15.out.hi _ rfl ?_)
                                                intro g16 cap16 w16 hown16 hg16 hat16 hlt16
                                                obtain ⟨hRS, hFr, hBf⟩ := rs_push (qs := [⟨⟨#[102]⟩ ++ db, 2, 0, yr, (g.W - g.q), dk⟩]) R1.out HB15.out (by have hh : pcells [⟨⟨#[102]⟩ ++ db, 2, 0, yr, (g.W - g.q), dk⟩] = (pcs ⟨⟨#[102]⟩ ++ db, 2, 0, yr, (g.W - g.q), dk⟩).toList := (by unfold pcells; simp); rw [hh]; exact hown16) (by simp) hg16 hat16
                                                have k2 := hBf.cell 2
                                                have k2f := hBf.frozen 2
                                                obtain ⟨kG, kR, kN, kB⟩ := HFK.out _ _ (F1.out.trans hFr)
                                                have z5 := kG.cell 5
                                                have zd := (HGA.out _ kB).z4 r (by have := HLD.out; omega)
                                                rw [← HDK.out] at zd
                                                clear kG kR kN kB
                                                have HRS := Lib.hid hRS
                                                have HFr := Lib.hid hFr
                                                clear hown16 hg16 hat16 hRS hFr hBf))
                                  go_meet
                                  refine ⟨.slice (some ⟨g16, 0, none⟩) ((g.lays r).ps.length + 1) cap16, ?_, rfl, ?_, HFr.out⟩
                                  · rw [HFLL.out]; simp
                                  · show RS _ _ _ _ _ _ _
                                    rw [HFLL.out, HNM.out]; exact HRS.out
                                · have hdg : ¬ dk > 0 := hd
                                  have HFNN := Lib.hid (HFN.out dk HDK.out hd)
                                  have HD0 : Hid (dk = 0) := (show _ = _ by omega)
                                  clear hd
                                  go_wp2_with fail
                                  go_meet
                                  refine ⟨v1, ?_, ?_, ?_, FrL.refl _ _ _⟩
                                  · rw [HFNN.out]
                                  · rw [HD0.out, Int.add_zero]
                                  · show RS _ _ _ _ _ _ _
                                    rw [HFNN.out]; exact R1.out
                              case rest =>
                                obtain ⟨v2, rfl, rfl, R2, F2⟩ := hcut
                                have F2t := Lib.hid (F1.out.trans F2.out)
                                obtain ⟨hG, hRb, hNb, hb⟩ := HFK.out wc v2 F2t.out
                                have hGr := HGA.out wc hb
                                have w3c : wc.cell? ⟨w.heap.size, 3, none⟩ = some (.slice A2 g.rows.length c2) := hG.cell 3
                                have hbyn := HBY.out.np
                                have hbyf := HBY.out.nf
                                have hbyl := HBY.out.len
                                have HSN : Hid (sY.np = (g.lays r).np) := (show _ = _ by rw [HSY.out]; unfold Lay.fill; split <;> rfl)
                                clear R1 F1 F2 x0 x3 x5 x6 y4 HFL HFN HYR e1 e2
                                by_cases hrm : r = g.rows.length
                                · have hrz : ((r : Int) == (g.rows.length : Int)) = true := by rw [hrm]; simp
                                  have HLST : Hid (sY = g.last) := (show _ = _ by rw [HSY.out, hrm]; rfl)
                                  have HALL : Hid (g.all.length = sY.ps.length + 2 ∧ g.all = sY.ps ++ [g.qa, g.qd]) := (show _ ∧ _ by rw [HLST.out]; exact ⟨by simp [Grid.all], rfl⟩)
                                  have x0 : wc.cell? ⟨w.heap.size, 0, none⟩ = some (.int .i64 g.W) := hG.cell 0
                                  have x1 : wc.cell? ⟨w.heap.size, 1, none⟩ = some (.int .i64 g.H) := hG.cell 1
                                  have x6 : wc.cell? ⟨w.heap.size, 6, none⟩ = some (.int .i64 g.q) := hG.cell 6
                                  have a2 : wc.cell? ⟨fb, 2, none⟩ = some v2 := R2.out.blk.cell 2
                                  have hsl : sY.ps.length ≤ 400 := by omega
                                  clear hrm hG hRb hNb hb hGr
                                  by_cases hbig : 60 < g.all.length
                                  · have hlz : ((sY.ps.length : Int) + 2 > 60) := by have := HALL.out.1; omega
                                    have HBG := Lib.hid hbig
                                    clear hbig
                                    go_wp2_with ((at_builtin
                                                  go_loud (refine wpList_append_lies _ rfl (.tmp 251) (.tmp 275) 26 (by rfl) (fb + 1) 60 i1' _ 6 56 Tryd.underlying26 hi1 hi1z hi1s hi1b rfl (by omega) v2 sY.ps.length _ (by rfl) (R2.out.row.alloc _) ⟨wc.heap.size, 0, none⟩ 2 2 [Value.string ⟨#[113, 97]⟩, Value.int IntKind.i64 3, Value.int IntKind.i64 (g.W - g.q), Value.int IntKind.i64 0, Value.int IntKind.i64 g.q, Value.int IntKind.i64 (g.H - g.q), Value.string ⟨#[113, 100]⟩, Value.int IntKind.i64 4, Value.int IntKind.i64 0, Value.int IntKind.i64 (g.H - g.q), Value.int IntKind.i64 g.W, Value.int IntKind.i64 g.q] (by rfl) (by rfl) (World.news_of_block (heap_alloc_new wc _)) (by simp [Value.oneCell']) (by omega) (by simp only [maxLen]; omega) (by omega) (by have := R2.out.hi; simp; omega) (wc.heap.size + 1) (by simp) ?_)
                                                  intro g16 cap16 w16 hown16 hg16 hat16 hlt16
                                                  have hRSa := rs_push (qs := [g.qa, g.qd]) R2.out (below_new wc _) (by have hh : pcells [g.qa, g.qd] = [Value.string ⟨#[113, 97]⟩, Value.int IntKind.i64 3, Value.int IntKind.i64 (g.W - g.q), Value.int IntKind.i64 0, Value.int IntKind.i64 g.q, Value.int IntKind.i64 (g.H - g.q), Value.string ⟨#[113, 100]⟩, Value.int IntKind.i64 4, Value.int IntKind.i64 0, Value.int IntKind.i64 (g.H - g.q), Value.int IntKind.i64 g.W, Value.int IntKind.i64 g.q] := rfl; rw [hh]; exact hown16) rfl hg16 (by simpa using hat16)
                                                  obtain ⟨hRS, hFr, hBf⟩ := hRSa
                                                  obtain ⟨kG, kR, kN, kB⟩ := HFK.out _ _ (F2t.out.trans hFr)
                                                  have k2 := hBf.cell 2
                                                  have k2f := hBf.frozen 2
                                                  have hsb := (Below.refl fb w16).setCell (p := ⟨fb, 2, none⟩) (Nat.le_refl _) (.slice (some ⟨g16, 0, none⟩) (sY.ps.length + [g.qa, g.qd].length) cap16)
                                                  have kN1 : Blk w16 (w.heap.size + 1 + 1) 28 #[.int .i64 0, .int .i64 0, .slice none 0 0] := (hsb.block _ (by omega)).symm.trans kN
                                                  have kR1 : Blk w16 (w.heap.size + 1) 28 #[.int .i64 0, .int .i64 0, .slice none 0 0] := (hsb.block _ (by omega)).symm.trans kR
                                                  have p0 := hBf.cell 0
                                                  have p1 := hBf.cell 1
                                                  have n0 := kN1.cell 0
                                                  have n1 := kN1.cell 1
                                                  have n2 := kN1.cell 2
                                                  have r0 := kR1.cell 0
                                                  have r1 := kR1.cell 1
                                                  have r2 := kR1.cell 2
                                                  have r0f := kR1.frozen 0
                                                  have r1f := kR1.frozen 1
                                                  have r2f := kR1.frozen 2
                                                  have hrlt := kR1.lt
                                                  have hnlt := kN1.lt
                                                  have hplt := hBf.lt
                                                  have hfr : fb ≠ w.heap.size + 1 := by omega
                                                  have hfn : fb ≠ w.heap.size + 1 + 1 := by omega
                                                  have HRS := Lib.hid hRS
                                                  have HKB := Lib.hid kB
                                                  clear hown16 hg16 hat16 hRS hFr hBf kG kR kN kB kN1 kR1 hsb))
                                    exact bodyPost_ret (v := .tuple #[.agg #[.int .i64 0, .int .i64 0, .slice none 0 0], .int .i64 8]) (by simp [results, Tryd.results7, go_sem, r0, r1, r2, hrlt]) rfl (Or.inr (Or.inl ⟨HCK.out, HBG.out, rfl, ((HKB.out.setCell (by simp) _).setCell (by simp) _).setCell (by simp) _⟩))
                                  · have hlz : ¬ ((sY.ps.length : Int) + 2 > 60) := by have := HALL.out.1; omega
                                    have HBG := Lib.hid hbig
                                    clear hbig
                                    go_wp2_with ((at_builtin
                                                  go_loud (refine wpList_append_lies _ rfl (.tmp 251) (.tmp 275) 26 (by rfl) (fb + 1) 60 i1' _ 6 56 Tryd.underlying26 hi1 hi1z hi1s hi1b rfl (by omega) v2 sY.ps.length _ (by rfl) (R2.out.row.alloc _) ⟨wc.heap.size, 0, none⟩ 2 2 [Value.string ⟨#[113, 97]⟩, Value.int IntKind.i64 3, Value.int IntKind.i64 (g.W - g.q), Value.int IntKind.i64 0, Value.int IntKind.i64 g.q, Value.int IntKind.i64 (g.H - g.q), Value.string ⟨#[113, 100]⟩, Value.int IntKind.i64 4, Value.int IntKind.i64 0, Value.int IntKind.i64 (g.H - g.q), Value.int IntKind.i64 g.W, Value.int IntKind.i64 g.q] (by rfl) (by rfl) (World.news_of_block (heap_alloc_new wc _)) (by simp [Value.oneCell']) (by omega) (by simp only [maxLen]; omega) (by omega) (by have := R2.out.hi; simp; omega) (wc.heap.size + 1) (by simp) ?_)
                                                  intro g16 cap16 w16 hown16 hg16 hat16 hlt16
                                                  have hRSa := rs_push (qs := [g.qa, g.qd]) R2.out (below_new wc _) (by have hh : pcells [g.qa, g.qd] = [Value.string ⟨#[113, 97]⟩, Value.int IntKind.i64 3, Value.int IntKind.i64 (g.W - g.q), Value.int IntKind.i64 0, Value.int IntKind.i64 g.q, Value.int IntKind.i64 (g.H - g.q), Value.string ⟨#[113, 100]⟩, Value.int IntKind.i64 4, Value.int IntKind.i64 0, Value.int IntKind.i64 (g.H - g.q), Value.int IntKind.i64 g.W, Value.int IntKind.i64 g.q] := rfl; rw [hh]; exact hown16) rfl hg16 (by simpa using hat16)
                                                  obtain ⟨hRS, hFr, hBf⟩ := hRSa
                                                  obtain ⟨kG, kR, kN, kB⟩ := HFK.out _ _ (F2t.out.trans hFr)
                                                  have k2 := hBf.cell 2
                                                  have k2f := hBf.frozen 2
                                                  have hsb := (Below.refl fb w16).setCell (p := ⟨fb, 2, none⟩) (Nat.le_refl _) (.slice (some ⟨g16, 0, none⟩) (sY.ps.length + [g.qa, g.qd].length) cap16)
                                                  have kN1 : Blk w16 (w.heap.size + 1 + 1) 28 #[.int .i64 0, .int .i64 0, .slice none 0 0] := (hsb.block _ (by omega)).symm.trans kN
                                                  have kR1 : Blk w16 (w.heap.size + 1) 28 #[.int .i64 0, .int .i64 0, .slice none 0 0] := (hsb.block _ (by omega)).symm.trans kR
                                                  have p0 := hBf.cell 0
                                                  have p1 := hBf.cell 1
                                                  have n0 := kN1.cell 0
                                                  have n1 := kN1.cell 1
                                                  have n2 := kN1.cell 2
                                                  have r0 := kR1.cell 0
                                                  have r1 := kR1.cell 1
                                                  have r2 := kR1.cell 2
                                                  have r0f := kR1.frozen 0
                                                  have r1f := kR1.frozen 1
                                                  have r2f := kR1.frozen 2
                                                  have hrlt := kR1.lt
                                                  have hnlt := kN1.lt
                                                  have hplt := hBf.lt
                                                  have hfr : fb ≠ w.heap.size + 1 := by omega
                                                  have hfn : fb ≠ w.heap.size + 1 + 1 := by omega
                                                  have HRS := Lib.hid hRS
                                                  have HKB := Lib.hid kB
                                                  clear hown16 hg16 hat16 hRS hFr hBf kG kR kN kB kN1 kR1 hsb))
                                    have hO1 := own_far (i := 2) (own_far (i := 1) (own_far (i := 0) HRS.out.row (show w.heap.size + 1 < fb + 1 by omega) (.int .i64 g.W)) (show w.heap.size + 1 < fb + 1 by omega) (.int .i64 g.H)) (show w.heap.size + 1 < fb + 1 by omega) (.slice (some ⟨g16, 0, none⟩) (sY.ps.length + 2) cap16)
                                    rw [← HALL.out.2] at hO1
                                    have HPV := Lib.hid (psV_own hO1)
                                    clear hO1
                                    exact bodyPost_ret (v := .tuple #[.agg #[.int .i64 g.W, .int .i64 g.H, .slice (some ⟨g16, 0, none⟩) (sY.ps.length + 2) cap16], .int .i64 0]) (by simp [results, Tryd.results7, go_sem, r0, r1, r2, p0, p1, hrlt]) rfl (Or.inr (Or.inr ⟨HCK.out, by have := HBG.out; omega, _, rfl, HPV.out, ((HKB.out.setCell (by simp) _).setCell (by simp) _).setCell (by simp) _⟩))
                                · have hrz : ((r : Int) == (g.rows.length : Int)) = false := beq_eq_false_iff_ne.2 (by omega)
                                  have hrl : (r : Int) < (g.rows.length : Int) := by omega
                                  obtain ⟨hh1, hh2⟩ := HY2.out r (by omega)
                                  obtain ⟨rfl, hb2⟩ := hGr.l2 (by omega)
                                  have HLS : Hid (g.lays (r + 1) = g.row sY (yr + dk) (gz g.rows r)) := (show _ = _ by rw [Grid.lays, HSY.out, HYK.out, HDK.out]; rfl)
                                  have HYS : Hid (g.yAt (r + 1) = yr + dk + gz g.rows r) := (show _ = _ by rw [Grid.yAt, HYK.out, HDK.out])
                                  obtain ⟨rh, hrh⟩ : ∃ rh, rh = gz g.rows r := ⟨_, rfl⟩
                                  have HRH := Lib.hid hrh
                                  rw [← hrh] at hh1 hh2 HLS HYS
                                  obtain ⟨yd, hyd⟩ : ∃ yd, yd = yr + dk := ⟨_, rfl⟩
                                  rw [← hyd] at HLS HYS ⊢ hy2
                                  have hyd0 : 0 ≤ yd := by omega
                                  have HYD := Lib.hid hyd
                                  have hyr2 : yd + rh ≤ 8000 := by omega
                                  clear hyd hrh hb hG hRb hNb hGr
                                  have HCS : Hid (∀ k, g.cells sY yd rh (k + 1) = ((g.cells sY yd rh k).fill (g.xAt k) yd (gz g.acr k) rh).page (g.xAt k + gz g.acr k) yd (gz g.cols k) rh ∧ g.xAt (k + 1) = g.xAt k + gz g.acr k + gz g.cols k) := (show ∀ k, _ from fun k => ⟨rfl, by rw [Grid.xAt]; omega⟩)
                                  have HRW : Hid (g.row sY yd rh = (g.cells sY yd rh g.cols.length).fill (g.xAt g.cols.length) yd (gz g.acr g.cols.length) rh) := rfl
                                  have HC0 : Hid (g.cells sY yd rh 0 = sY ∧ g.xAt 0 = 0) := (show _ ∧ _ from ⟨rfl, rfl⟩)
                                  have HBC : Hid (∀ k, k ≤ g.cols.length → LBd (g.cells sY yd rh k) (70 + k) (90 + k)) := (show ∀ k, _ from fun k hk => LBd.cells ⟨by omega, by omega, by omega⟩ yd rh k)
                                  go_wp2_with fail
                                  go_loopg [6, 7, 10, 11] (g.cols.length + 2) (fun gg s6 s7 s10 s11 wi => ∃ (k : Nat) (v3 : Value) (s : Lay) (x : Int), k ≤ g.cols.length + 1 ∧ g.cols.length + 2 - k ≤ gg ∧ s11 = .int .i64 k ∧ s10 = .int .i64 x ∧ s6 = .int .i64 (s.np : Int) ∧ s7 = .int .i64 (s.nf : Int) ∧ Hid ((k ≤ g.cols.length → s = g.cells sY yd rh k ∧ x = g.xAt k) ∧ (k = g.cols.length + 1 → s = g.row sY yd rh)) ∧ Hid (RS wi fb (fb + 1) g.W g.H s.ps v3) ∧ Hid (FrL W3 wi fb (.slice none 0 0) v3))
                                  case atStart => exact ⟨0, v2, sY, 0, Nat.zero_le _, by omega, rfl, rfl, by rw [HSN.out], rfl, (show _ ∧ _ from ⟨fun _ => ⟨HC0.out.1.symm, HC0.out.2.symm⟩, fun h => by omega⟩), R2.out, F2t.out⟩
                                  case round =>
                                    obtain ⟨k, v3, s, x, hk, hgk, rfl, rfl, rfl, rfl, SX, R3, F3⟩ := hrel
                                    obtain ⟨hG, hRb, hNb, hb⟩ := HFK.out wr v3 F3.out
                                    have hGr := HGA.out wr hb
                                    have z2 : wr.cell? ⟨w.heap.size, 2, none⟩ = some (.slice A1 g.cols.length c1) := hG.cell 2
                                    have z3 : wr.cell? ⟨w.heap.size, 3, none⟩ = some (.slice (some ⟨b2, o2, none⟩) g.rows.length c2) := hG.cell 3
                                    have z4 : wr.cell? ⟨w.heap.size, 4, none⟩ = some (.slice A3 g.acr.length c3) := hG.cell 4
                                    have zr : wr.cell? ⟨b2, o2 + r, none⟩ = some (.int .i64 rh) := by rw [HRH.out]; exact hGr.z2 r (by omega)
                                    by_cases hkn : k ≤ g.cols.length
                                    · have hkz : (k : Int) ≤ (g.cols.length : Int) := by omega
                                      have hk0 : (0 : Int) ≤ (k : Int) := by omega
                                      have hka : (k : Int) < (g.acr.length : Int) := by have := HLA.out; omega
                                      obtain ⟨hs1, hx1⟩ := SX.out.1 hkn
                                      have hbc := HBC.out k hkn
                                      rw [← hs1] at hbc
                                      have hcn := hbc.np
                                      have hcf := hbc.nf
                                      have hcl := hbc.len
                                      obtain ⟨⟨hxa, hxb⟩, hxc⟩ := HX.out k hkn
                                      rw [← hx1] at hxa hxb
                                      obtain ⟨rfl, hb3⟩ := hGr.l3 (by have := HLA.out; omega)
                                      obtain ⟨ak, hak⟩ : ∃ ak, ak = gz g.acr k := ⟨_, rfl⟩
                                      have z5 : wr.cell? ⟨b3, o3 + k, none⟩ = some (.int .i64 ak) := by rw [hak]; exact hGr.z3 k (by have := HLA.out; omega)
                                      rw [← hak] at hxb hxc
                                      have HAK := Lib.hid hak
                                      obtain ⟨sF, hsF⟩ : ∃ sF, sF = s.fill x yd ak rh := ⟨_, rfl⟩
                                      have HSF := Lib.hid hsF
                                      have HFL2 : Hid (0 < ak → sF = ⟨s.ps ++ [⟨fN (s.nf + 1), 2, x, yd, ak, rh⟩], s.np, s.nf + 1⟩) := (show _ → _ from fun h => by rw [hsF]; unfold Lay.fill; rw [if_pos ⟨h, by omega⟩])
                                      have HFN2 : Hid (¬ 0 < ak → sF = s) := (show _ → _ from fun h => by rw [hsF]; unfold Lay.fill; rw [if_neg (fun q => h q.1)])
                                      have HBF := Lib.hid (hbc.fill x yd ak rh)
                                      rw [← hsF] at HBF
                                      have HLN : Hid (s.ps.length ≤ 300) := (show _ ≤ _ by omega)
                                      have HEQ : Hid (s = g.cells sY yd rh k ∧ x = g.xAt k) := (show _ ∧ _ from ⟨hs1, hx1⟩)
                                      clear hs1 hx1 hbc hak hsF hG hRb hNb hb hGr
                                      have e1 : IntKind.i64.wrap (x + ak) = x + ak := IntWalk.i64_in _ (by omega)
                                      have e2 : IntKind.i64.wrap ((s.nf : Int) + 1) = (s.nf : Int) + 1 := IntWalk.i64_in _ (by omega)
                                      go_upto_if 177 with fail
                                      go_cut [7, 10] from 177 to 207 (fun s7 s10 wx => ∃ v4, s7 = .int .i64 (sF.nf : Int) ∧ s10 = .int .i64 (x + ak) ∧ Hid (RS wx fb (fb + 1) g.W g.H sF.ps v4) ∧ Hid (FrL wr wx fb v3 v4))
                                      case first =>
                                        by_cases hd : 0 < ak
                                        · have hdg : ak > 0 := hd
                                          have HFLL := Lib.hid (HFL2.out hd)
                                          clear hd
                                          have a2 : wr.cell? ⟨fb, 2, none⟩ = some v3 := R3.out.blk.cell 2
                                          have HKS : Hid (∀ W, Below wr.heap.size wr W → (W.cell? ⟨fb, 2, none⟩ = some v3 ∧ W.cell? ⟨w.heap.size, 3, none⟩ = some (.slice (some ⟨b2, o2, none⟩) g.rows.length c2) ∧ W.cell? ⟨w.heap.size, 4, none⟩ = some (.slice (some ⟨b3, o3, none⟩) g.acr.length c3) ∧ W.cell? ⟨b3, o3 + k, none⟩ = some (.int .i64 ak) ∧ W.cell? ⟨b2, o2 + r, none⟩ = some (.int .i64 rh))) := (show ∀ W, _ from fun W hW => ⟨(hW.cell (p := ⟨fb, 2, none⟩) (block_lt_of_cell a2)).trans a2, (hW.cell (p := ⟨w.heap.size, 3, none⟩) (block_lt_of_cell z3)).trans z3, (hW.cell (p := ⟨w.heap.size, 4, none⟩) (block_lt_of_cell z4)).trans z4, (hW.cell (p := ⟨b3, o3 + k, none⟩) (block_lt_of_cell z5)).trans z5, (hW.cell (p := ⟨b2, o2 + r, none⟩) (block_lt_of_cell zr)).trans zr⟩)
                                          have hbd0 : Below wr.heap.size wr wr.drew := (Below.refl _ _).drew
                                          have hS0 := HKS.out _ hbd0
                                          have HDC : Hid (∀ W, Calls Tryd.prog 24 #[.int .i64 ((s.nf : Int) + 1)] W fun e w' => e = .returned (.string (decB (s.nf + 1))) ∧ Below W.heap.size W w') := (show ∀ W, _ from fun W => by
                                            have := dec_any (s.nf + 1) W (by omega)
                                            rwa [show ((s.nf + 1 : Nat) : Int) = ((s.nf : Int) + 1) by omega] at this)
                                          have hdz : (decB (s.nf + 1)).size ≤ 1000 := by have := decB_size (s.nf + 1); omega
                                          have HNM : Hid (fN (s.nf + 1) = ⟨#[102]⟩ ++ decB (s.nf + 1)) := rfl
                                          obtain ⟨db, hdb⟩ : ∃ db, decB (s.nf + 1) = db := ⟨_, rfl⟩
                                          rw [hdb] at hdz HNM HDC
                                          clear hdb hbd0
                                          have hcz : ¬ 9223372036854775807 < 1 + db.size := by omega
                                          go_wp2_with fail
                                          refine wp_region_split (fun W => (W.cell? ⟨fb, 2, none⟩ = some v3 ∧ W.cell? ⟨w.heap.size, 3, none⟩ = some (.slice (some ⟨b2, o2, none⟩) g.rows.length c2) ∧ W.cell? ⟨w.heap.size, 4, none⟩ = some (.slice (some ⟨b3, o3, none⟩) g.acr.length c3) ∧ W.cell? ⟨b3, o3 + k, none⟩ = some (.int .i64 ak) ∧ W.cell? ⟨b2, o2 + r, none⟩ = some (.int .i64 rh))) 19 (by kernel_rfl) (by decide) ?_
                                          refine wpG_take 19 0 (v := ?_) rfl (by kernel_rfl) (fun _ _ _ h => h) (Or.inl ⟨by rfl, ?_⟩) (by assumption) ?_
                                          rotate_left
                                          · intro w hSw; (try dsimp only at hSw); go_simp; (try with_reducible rfl)
                                          (try simp only [Act.put, List.getElem_toArray, List.getElem_cons_zero, List.getElem_cons_succ, List.setIfInBounds_toArray, List.set_cons_zero, List.set_cons_succ])
                                          refine wpG_take 19 1 (v := ?_) rfl (by kernel_rfl) (fun _ _ _ h => h) (Or.inl ⟨by rfl, ?_⟩) (by assumption) ?_
                                          rotate_left
                                          · intro w hSw; (try dsimp only at hSw); go_simp; (try with_reducible rfl)
                                          (try simp only [Act.put, List.getElem_toArray, List.getElem_cons_zero, List.getElem_cons_succ, List.setIfInBounds_toArray, List.set_cons_zero, List.set_cons_succ])
                                          refine wpG_take 19 2 (v := ?_) rfl (by kernel_rfl) (fun _ _ _ h => h) (Or.inl ⟨by rfl, ?_⟩) (by assumption) ?_
                                          rotate_left
                                          · intro w hSw; (try dsimp only at hSw); go_simp; (try with_reducible rfl)
                                          (try simp only [Act.put, List.getElem_toArray, List.getElem_cons_zero, List.getElem_cons_succ, List.setIfInBounds_toArray, List.set_cons_zero, List.set_cons_succ])
                                          refine wpG_take 19 5 (v := ?_) rfl (by kernel_rfl) (fun _ _ _ h => h) (Or.inl ⟨by rfl, ?_⟩) (by assumption) ?_
                                          rotate_left
                                          · intro w hSw; (try dsimp only at hSw); go_simp; (try with_reducible rfl)
                                          (try simp only [Act.put, List.getElem_toArray, List.getElem_cons_zero, List.getElem_cons_succ, List.setIfInBounds_toArray, List.set_cons_zero, List.set_cons_succ])
                                          refine wpG_take 19 6 (v := ?_) rfl (by kernel_rfl) (fun _ _ _ h => h) (Or.inl ⟨by rfl, ?_⟩) (by assumption) ?_
                                          rotate_left
                                          · intro w hSw; (try dsimp only at hSw); go_simp; (try with_reducible rfl)
                                          (try simp only [Act.put, List.getElem_toArray, List.getElem_cons_zero, List.getElem_cons_succ, List.setIfInBounds_toArray, List.set_cons_zero, List.set_cons_succ])
                                          refine wpG_take 19 7 (v := ?_) rfl (by kernel_rfl) (fun _ _ _ h => h) (Or.inl ⟨by rfl, ?_⟩) (by assumption) ?_
                                          rotate_left
                                          · intro w hSw; (try dsimp only at hSw); go_simp; (try with_reducible rfl)
                                          (try simp only [Act.put, List.getElem_toArray, List.getElem_cons_zero, List.getElem_cons_succ, List.setIfInBounds_toArray, List.set_cons_zero, List.set_cons_succ])
                                          refine wpG_take 19 8 (v := ?_) rfl (by kernel_rfl) (fun _ _ _ h => h) (Or.inl ⟨by rfl, ?_⟩) (by assumption) ?_
                                          rotate_left
                                          · intro w hSw; (try dsimp only at hSw); go_simp; (try with_reducible rfl)
                                          (try simp only [Act.put, List.getElem_toArray, List.getElem_cons_zero, List.getElem_cons_succ, List.setIfInBounds_toArray, List.set_cons_zero, List.set_cons_succ])
                                          refine wpG_take 19 9 (v := ?_) rfl (by kernel_rfl) (fun _ _ _ h => h) (Or.inl ⟨by rfl, ?_⟩) (by assumption) ?_
                                          rotate_left
                                          · intro w hSw; (try dsimp only at hSw); go_simp; (try with_reducible rfl)
                                          (try simp only [Act.put, List.getElem_toArray, List.getElem_cons_zero, List.getElem_cons_succ, List.setIfInBounds_toArray, List.set_cons_zero, List.set_cons_succ])
                                          refine wpG_take 19 10 (v := ?_) rfl (by kernel_rfl) (fun _ _ _ h => h) (Or.inl ⟨by rfl, ?_⟩) (by assumption) ?_
                                          rotate_left
                                          · intro w hSw; (try dsimp only at hSw); go_simp; (try with_reducible rfl)
                                          (try simp only [Act.put, List.getElem_toArray, List.getElem_cons_zero, List.getElem_cons_succ, List.setIfInBounds_toArray, List.set_cons_zero, List.set_cons_succ])
                                          refine wpG_take 19 11 (v := ?_) rfl (by kernel_rfl) (fun _ _ _ h => h) (Or.inl ⟨by rfl, ?_⟩) (by assumption) ?_
                                          rotate_left
                                          · intro w hSw; (try dsimp only at hSw); go_simp; (try with_reducible rfl)
                                          (try simp only [Act.put, List.getElem_toArray, List.getElem_cons_zero, List.getElem_cons_succ, List.setIfInBounds_toArray, List.set_cons_zero, List.set_cons_succ])
                                          refine wpG_take 19 12 (v := ?_) rfl (by kernel_rfl) (fun _ _ _ h => h) (Or.inl ⟨by rfl, ?_⟩) (by assumption) ?_
                                          rotate_left
                                          · intro w hSw; (try dsimp only at hSw); go_simp; (try with_reducible rfl)
                                          (try simp only [Act.put, List.getElem_toArray, List.getElem_cons_zero, List.getElem_cons_succ, List.setIfInBounds_toArray, List.set_cons_zero, List.set_cons_succ])
                                          refine wpG_take 19 13 (v := ?_) rfl (by kernel_rfl) (fun _ _ _ h => h) (Or.inl ⟨by rfl, ?_⟩) (by assumption) ?_
                                          rotate_left
                                          · intro w hSw; (try dsimp only at hSw); go_simp; (try with_reducible rfl)
                                          (try simp only [Act.put, List.getElem_toArray, List.getElem_cons_zero, List.getElem_cons_succ, List.setIfInBounds_toArray, List.set_cons_zero, List.set_cons_succ])
                                          refine wpG_take 19 14 (v := ?_) rfl (by kernel_rfl) (fun _ _ _ h => h) (Or.inl ⟨by rfl, ?_⟩) (by assumption) ?_
                                          rotate_left
                                          · intro w hSw; (try dsimp only at hSw); go_simp; (try with_reducible rfl)
                                          (try simp only [Act.put, List.getElem_toArray, List.getElem_cons_zero, List.getElem_cons_succ, List.setIfInBounds_toArray, List.set_cons_zero, List.set_cons_succ])
                                          refine wpG_take 19 15 (v := ?_) rfl (by kernel_rfl) (fun _ _ _ h => h) (Or.inl ⟨by rfl, ?_⟩) (by assumption) ?_
                                          rotate_left
                                          · intro w hSw; (try dsimp only at hSw); go_simp; (try with_reducible rfl)
                                          (try simp only [Act.put, List.getElem_toArray, List.getElem_cons_zero, List.getElem_cons_succ, List.setIfInBounds_toArray, List.set_cons_zero, List.set_cons_succ])
                                          refine wpG_take 19 16 (v := ?_) rfl (by kernel_rfl) (fun _ _ _ h => h) (Or.inl ⟨by rfl, ?_⟩) (by assumption) ?_
                                          rotate_left
                                          · intro w hSw; (try dsimp only at hSw); go_simp; (try with_reducible rfl)
                                          (try simp only [Act.put, List.getElem_toArray, List.getElem_cons_zero, List.getElem_cons_succ, List.setIfInBounds_toArray, List.set_cons_zero, List.set_cons_succ])
                                          refine wpG_one (i := 3) (by kernel_rfl) ?_
                                          refine wpOp_step rfl (fun K hK => ?_)
                                          go_simp
                                          go_at_call 24
                                          (with_reducible refine (HDC.out _).mono ?_)
                                          rintro e w14 ⟨rfl, hb14'⟩
                                          have hb14 : Below wr.heap.size wr w14 := (Below.refl _ wr).drew.trans hb14'
                                          have n14 := HKS.out w14 hb14
                                          (try dsimp only)
                                          refine hK _ _ ⟨n14, ?_⟩
                                          clear hK K hS0 hb14'
                                          (try simp only [Act.put, List.getElem_toArray, List.getElem_cons_zero, List.getElem_cons_succ, List.setIfInBounds_toArray, List.set_cons_zero, List.set_cons_succ])
                                          refine wpG_take 19 4 (v := ?_) rfl (by kernel_rfl) (fun _ _ _ h => h) (Or.inl ⟨by rfl, ?_⟩) (by assumption) ?_
                                          rotate_left
                                          · intro w hSw; (try dsimp only at hSw); go_simp; (try with_reducible rfl)
                                          (try simp only [Act.put, List.getElem_toArray, List.getElem_cons_zero, List.getElem_cons_succ, List.setIfInBounds_toArray, List.set_cons_zero, List.set_cons_succ])
                                          refine wpG_take 19 17 (v := ?_) rfl (by kernel_rfl) (fun _ _ _ h => h) (Or.inl ⟨by rfl, ?_⟩) (by assumption) ?_
                                          rotate_left
                                          · intro w hSw; (try dsimp only at hSw); go_simp; (try with_reducible rfl)
                                          (try simp only [Act.put, List.getElem_toArray, List.getElem_cons_zero, List.getElem_cons_succ, List.setIfInBounds_toArray, List.set_cons_zero, List.set_cons_succ])
                                          have hb15 : Below wr.heap.size wr (w14.alloc (Obj.cells #[Value.string (⟨#[102]⟩ ++ db), Value.int IntKind.i64 2, Value.int IntKind.i64 x, Value.int IntKind.i64 yd, Value.int IntKind.i64 ak, Value.int IntKind.i64 rh] 60)) := hb14.trans ((below_new w14 _).mono hb14.size)
                                          have n15 := HKS.out _ hb15
                                          refine wpG_one (i := 18) (by kernel_rfl) ?_
                                          refine wpOp_step rfl (fun K hK => ?_)
                                          go_simp
                                          refine hK _ _ ⟨n15, ?_⟩
                                          clear hK K n14
                                          (try simp only [Act.put, List.getElem_toArray, List.getElem_cons_zero, List.getElem_cons_succ, List.setIfInBounds_toArray, List.set_cons_zero, List.set_cons_succ])
                                          have hnews : ∀ j u, (pcs ⟨⟨#[102]⟩ ++ db, 2, x, yd, ak, rh⟩).toList[j]? = some u → (w14.alloc (Obj.cells #[Value.string (⟨#[102]⟩ ++ db), Value.int IntKind.i64 2, Value.int IntKind.i64 x, Value.int IntKind.i64 yd, Value.int IntKind.i64 ak, Value.int IntKind.i64 rh] 60)).cell? ((⟨w14.heap.size, 0, none⟩ : Addr).add j) = some u := World.news_of_block (heap_alloc_new w14 _)
                                          have HNW := Lib.hid hnews
                                          have HB15 := Lib.hid hb15
                                          have HL15 := Lib.hid (R3.out.below hb15)
                                          clear hb14 hb15 n15 hnews
                                          generalize w14.alloc (Obj.cells #[Value.string (⟨#[102]⟩ ++ db), Value.int IntKind.i64 2, Value.int IntKind.i64 x, Value.int IntKind.i64 yd, Value.int IntKind.i64 ak, Value.int IntKind.i64 rh] 60) = W15 at *
                                          generalize w14.heap.size = tb at *
                                          refine ⟨by kernel_rfl, ?_⟩
                                          simp only [List.drop_succ_cons, List.drop_zero]
                                          go_wp2_with ((at_builtin
                                                        go_loud (refine wpList_append_lies _ rfl (.tmp 181) (.tmp 198) 26 (by rfl) (fb + 1) 60 i1' _ 6 56 Tryd.underlying26 hi1 hi1z hi1s hi1b rfl (by omega) v3 s.ps.length _ (by rfl) HL15.out.row ⟨tb, 0, none⟩ 1 1 (pcs ⟨⟨#[102]⟩ ++ db, 2, x, yd, ak, rh⟩).toList (by rfl) (by rfl) HNW.out (fun u hu => pcells_one [⟨⟨#[102]⟩ ++ db, 2, x, yd, ak, rh⟩] u (by unfold pcells; simpa using hu)) (by omega) (by have := HLN.out; simp only [maxLen]; omega) (by have := HLN.out; omega) HL15.out.hi _ rfl ?_)
                                                        intro g16 cap16 w16 hown16 hg16 hat16 hlt16
                                                        obtain ⟨hRS, hFr, hBf⟩ := rs_push (qs := [⟨⟨#[102]⟩ ++ db, 2, x, yd, ak, rh⟩]) R3.out HB15.out (by have hh : pcells [⟨⟨#[102]⟩ ++ db, 2, x, yd, ak, rh⟩] = (pcs ⟨⟨#[102]⟩ ++ db, 2, x, yd, ak, rh⟩).toList := (by unfold pcells; simp); rw [hh]; exact hown16) (by simp) hg16 hat16
                                                        have k2 := hBf.cell 2
                                                        have k2f := hBf.frozen 2
                                                        obtain ⟨kG, kR, kN, kB⟩ := HFK.out _ _ (F3.out.trans hFr)
                                                        have za := kG.cell 4
                                                        have zb := (HGA.out _ kB).z3 k (by have := HLA.out; omega)
                                                        rw [← HAK.out] at zb
                                                        clear kG kR kN kB
                                                        have HRS := Lib.hid hRS
                                                        have HFr := Lib.hid hFr
                                                        clear hown16 hg16 hat16 hRS hFr hBf))
                                          go_meet
                                          refine ⟨.slice (some ⟨g16, 0, none⟩) (s.ps.length + 1) cap16, ?_, rfl, ?_, HFr.out⟩
                                          · rw [HFLL.out]; simp
                                          · show RS _ _ _ _ _ _ _
                                            rw [HFLL.out, HNM.out]; exact HRS.out
                                        · have hdg : ¬ ak > 0 := hd
                                          have HFNN := Lib.hid (HFN2.out hd)
                                          have HD0 : Hid (ak = 0) := (show _ = _ by omega)
                                          clear hd
                                          go_wp2_with fail
                                          go_meet
                                          refine ⟨v3, ?_, ?_, ?_, FrL.refl _ _ _⟩
                                          · rw [HFNN.out]
                                          · rw [HD0.out, Int.add_zero]
                                          · show RS _ _ _ _ _ _ _
                                            rw [HFNN.out]; exact R3.out
                                      case rest =>
                                        obtain ⟨v4, rfl, rfl, R4, F4⟩ := hcut
                                        have F4t := Lib.hid (F3.out.trans F4.out)
                                        obtain ⟨hG, hRb, hNb, hb⟩ := HFK.out wc v4 F4t.out
                                        have hGr := HGA.out wc hb
                                        have u2 : wc.cell? ⟨w.heap.size, 2, none⟩ = some (.slice A1 g.cols.length c1) := hG.cell 2
                                        have u3 : wc.cell? ⟨w.heap.size, 3, none⟩ = some (.slice (some ⟨b2, o2, none⟩) g.rows.length c2) := hG.cell 3
                                        have u5 : wc.cell? ⟨b2, o2 + r, none⟩ = some (.int .i64 rh) := by rw [HRH.out]; exact hGr.z2 r (by omega)
                                        have hfp := HBF.out.np
                                        have hff := HBF.out.nf
                                        have hfl := HBF.out.len
                                        clear z2 z3 z4 z5 zr R3 F3 F4 HFL2 HFN2 HLN e1 e2
                                        by_cases hlt : k < g.cols.length
                                        · have hltz : (k : Int) < (g.cols.length : Int) := by omega
                                          obtain ⟨rfl, hb1⟩ := hGr.l1 (by omega)
                                          obtain ⟨hc1, hc2⟩ := HX2.out k hlt
                                          obtain ⟨ck, hck⟩ : ∃ ck, ck = gz g.cols k := ⟨_, rfl⟩
                                          have u6 : wc.cell? ⟨b1, o1 + k, none⟩ = some (.int .i64 ck) := by rw [hck]; exact hGr.z1 k hlt
                                          have HCK2 := Lib.hid hck
                                          rw [← hck] at hc1 hc2
                                          have HLN : Hid (sF.ps.length ≤ 300) := (show _ ≤ _ by omega)
                                          have e1 : IntKind.i64.wrap (x + ak + ck) = x + ak + ck := IntWalk.i64_in _ (by omega)
                                          have e2 : IntKind.i64.wrap ((sF.np : Int) + 1) = (sF.np : Int) + 1 := IntWalk.i64_in _ (by omega)
                                          have HSFN : Hid (sF.np = s.np) := (show _ = _ by rw [HSF.out]; unfold Lay.fill; split <;> rfl)
                                          have HNX : Hid (g.cells sY yd rh (k + 1) = sF.page (x + ak) yd ck rh ∧ g.xAt (k + 1) = x + ak + ck) := (show _ ∧ _ by
                                            obtain ⟨q1, q2⟩ := HCS.out k
                                            rw [q1, q2, ← HEQ.out.1, ← HEQ.out.2, ← HAK.out, ← HCK2.out, ← HSF.out]
                                            exact ⟨rfl, rfl⟩)
                                          rw [← HSFN.out] at hcn ⊢
                                          clear hck hG hRb hNb hb hGr hcf hcl
                                          have a2 : wc.cell? ⟨fb, 2, none⟩ = some v4 := R4.out.blk.cell 2
                                          have HKS : Hid (∀ W, Below wc.heap.size wc W → (W.cell? ⟨fb, 2, none⟩ = some v4 ∧ W.cell? ⟨w.heap.size, 2, none⟩ = some (.slice (some ⟨b1, o1, none⟩) g.cols.length c1) ∧ W.cell? ⟨w.heap.size, 3, none⟩ = some (.slice (some ⟨b2, o2, none⟩) g.rows.length c2) ∧ W.cell? ⟨b1, o1 + k, none⟩ = some (.int .i64 ck) ∧ W.cell? ⟨b2, o2 + r, none⟩ = some (.int .i64 rh))) := (show ∀ W, _ from fun W hW => ⟨(hW.cell (p := ⟨fb, 2, none⟩) (block_lt_of_cell a2)).trans a2, (hW.cell (p := ⟨w.heap.size, 2, none⟩) (block_lt_of_cell u2)).trans u2, (hW.cell (p := ⟨w.heap.size, 3, none⟩) (block_lt_of_cell u3)).trans u3, (hW.cell (p := ⟨b1, o1 + k, none⟩) (block_lt_of_cell u6)).trans u6, (hW.cell (p := ⟨b2, o2 + r, none⟩) (block_lt_of_cell u5)).trans u5⟩)
                                          have hbd0 : Below wc.heap.size wc wc.drew := (Below.refl _ _).drew
                                          have hS0 := HKS.out _ hbd0
                                          have HDC : Hid (∀ W, Calls Tryd.prog 24 #[.int .i64 ((sF.np : Int) + 1)] W fun e w' => e = .returned (.string (decB (sF.np + 1))) ∧ Below W.heap.size W w') := (show ∀ W, _ from fun W => by
                                            have := dec_any (sF.np + 1) W (by omega)
                                            rwa [show ((sF.np + 1 : Nat) : Int) = ((sF.np : Int) + 1) by omega] at this)
                                          have hdz : (decB (sF.np + 1)).size ≤ 1000 := by have := decB_size (sF.np + 1); omega
                                          have HNM : Hid (pN (sF.np + 1) = ⟨#[112]⟩ ++ decB (sF.np + 1)) := rfl
                                          obtain ⟨db, hdb⟩ : ∃ db, decB (sF.np + 1) = db := ⟨_, rfl⟩
                                          rw [hdb] at hdz HNM HDC
                                          clear hdb hbd0
                                          have hcz : ¬ 9223372036854775807 < 1 + db.size := by omega
                                          go_wp2_with fail
                                          refine wp_region_split (fun W => (W.cell? ⟨fb, 2, none⟩ = some v4 ∧ W.cell? ⟨w.heap.size, 2, none⟩ = some (.slice (some ⟨b1, o1, none⟩) g.cols.length c1) ∧ W.cell? ⟨w.heap.size, 3, none⟩ = some (.slice (some ⟨b2, o2, none⟩) g.rows.length c2) ∧ W.cell? ⟨b1, o1 + k, none⟩ = some (.int .i64 ck) ∧ W.cell? ⟨b2, o2 + r, none⟩ = some (.int .i64 rh))) 19 (by kernel_rfl) (by decide) ?_
                                          refine wpG_take 19 0 (v := ?_) rfl (by kernel_rfl) (fun _ _ _ h => h) (Or.inl ⟨by rfl, ?_⟩) (by assumption) ?_
                                          rotate_left
                                          · intro w hSw; (try dsimp only at hSw); go_simp; (try with_reducible rfl)
                                          (try simp only [Act.put, List.getElem_toArray, List.getElem_cons_zero, List.getElem_cons_succ, List.setIfInBounds_toArray, List.set_cons_zero, List.set_cons_succ])
                                          refine wpG_take 19 1 (v := ?_) rfl (by kernel_rfl) (fun _ _ _ h => h) (Or.inl ⟨by rfl, ?_⟩) (by assumption) ?_
                                          rotate_left
                                          · intro w hSw; (try dsimp only at hSw); go_simp; (try with_reducible rfl)
                                          (try simp only [Act.put, List.getElem_toArray, List.getElem_cons_zero, List.getElem_cons_succ, List.setIfInBounds_toArray, List.set_cons_zero, List.set_cons_succ])
                                          refine wpG_take 19 2 (v := ?_) rfl (by kernel_rfl) (fun _ _ _ h => h) (Or.inl ⟨by rfl, ?_⟩) (by assumption) ?_
                                          rotate_left
                                          · intro w hSw; (try dsimp only at hSw); go_simp; (try with_reducible rfl)
                                          (try simp only [Act.put, List.getElem_toArray, List.getElem_cons_zero, List.getElem_cons_succ, List.setIfInBounds_toArray, List.set_cons_zero, List.set_cons_succ])
                                          refine wpG_take 19 5 (v := ?_) rfl (by kernel_rfl) (fun _ _ _ h => h) (Or.inl ⟨by rfl, ?_⟩) (by assumption) ?_
                                          rotate_left
                                          · intro w hSw; (try dsimp only at hSw); go_simp; (try with_reducible rfl)
                                          (try simp only [Act.put, List.getElem_toArray, List.getElem_cons_zero, List.getElem_cons_succ, List.setIfInBounds_toArray, List.set_cons_zero, List.set_cons_succ])
                                          refine wpG_take 19 6 (v := ?_) rfl (by kernel_rfl) (fun _ _ _ h => h) (Or.inl ⟨by rfl, ?_⟩) (by assumption) ?_
                                          rotate_left
                                          · intro w hSw; (try dsimp only at hSw); go_simp; (try with_reducible rfl)
                                          (try simp only [Act.put, List.getElem_toArray, List.getElem_cons_zero, List.getElem_cons_succ, List.setIfInBounds_toArray, List.set_cons_zero, List.set_cons_succ])
                                          refine wpG_take 19 7 (v := ?_) rfl (by kernel_rfl) (fun _ _ _ h => h) (Or.inl ⟨by rfl, ?_⟩) (by assumption) ?_
                                          rotate_left
                                          · intro w hSw; (try dsimp only at hSw); go_simp; (try with_reducible rfl)
                                          (try simp only [Act.put, List.getElem_toArray, List.getElem_cons_zero, List.getElem_cons_succ, List.setIfInBounds_toArray, List.set_cons_zero, List.set_cons_succ])
                                          refine wpG_take 19 8 (v := ?_) rfl (by kernel_rfl) (fun _ _ _ h => h) (Or.inl ⟨by rfl, ?_⟩) (by assumption) ?_
                                          rotate_left
                                          · intro w hSw; (try dsimp only at hSw); go_simp; (try with_reducible rfl)
                                          (try simp only [Act.put, List.getElem_toArray, List.getElem_cons_zero, List.getElem_cons_succ, List.setIfInBounds_toArray, List.set_cons_zero, List.set_cons_succ])
                                          refine wpG_take 19 9 (v := ?_) rfl (by kernel_rfl) (fun _ _ _ h => h) (Or.inl ⟨by rfl, ?_⟩) (by assumption) ?_
                                          rotate_left
                                          · intro w hSw; (try dsimp only at hSw); go_simp; (try with_reducible rfl)
                                          (try simp only [Act.put, List.getElem_toArray, List.getElem_cons_zero, List.getElem_cons_succ, List.setIfInBounds_toArray, List.set_cons_zero, List.set_cons_succ])
                                          refine wpG_take 19 10 (v := ?_) rfl (by kernel_rfl) (fun _ _ _ h => h) (Or.inl ⟨by rfl, ?_⟩) (by assumption) ?_
                                          rotate_left
                                          · intro w hSw; (try dsimp only at hSw); go_simp; (try with_reducible rfl)
                                          (try simp only [Act.put, List.getElem_toArray, List.getElem_cons_zero, List.getElem_cons_succ, List.setIfInBounds_toArray, List.set_cons_zero, List.set_cons_succ])
                                          refine wpG_take 19 11 (v := ?_) rfl (by kernel_rfl) (fun _ _ _ h => h) (Or.inl ⟨by rfl, ?_⟩) (by assumption) ?_
                                          rotate_left
                                          · intro w hSw; (try dsimp only at hSw); go_simp; (try with_reducible rfl)
                                          (try simp only [Act.put, List.getElem_toArray, List.getElem_cons_zero, List.getElem_cons_succ, List.setIfInBounds_toArray, List.set_cons_zero, List.set_cons_succ])
                                          refine wpG_take 19 12 (v := ?_) rfl (by kernel_rfl) (fun _ _ _ h => h) (Or.inl ⟨by rfl, ?_⟩) (by assumption) ?_
                                          rotate_left
                                          · intro w hSw; (try dsimp only at hSw); go_simp; (try with_reducible rfl)
                                          (try simp only [Act.put, List.getElem_toArray, List.getElem_cons_zero, List.getElem_cons_succ, List.setIfInBounds_toArray, List.set_cons_zero, List.set_cons_succ])
                                          refine wpG_take 19 13 (v := ?_) rfl (by kernel_rfl) (fun _ _ _ h => h) (Or.inl ⟨by rfl, ?_⟩) (by assumption) ?_
                                          rotate_left
                                          · intro w hSw; (try dsimp only at hSw); go_simp; (try with_reducible rfl)
                                          (try simp only [Act.put, List.getElem_toArray, List.getElem_cons_zero, List.getElem_cons_succ, List.setIfInBounds_toArray, List.set_cons_zero, List.set_cons_succ])
                                          refine wpG_take 19 14 (v := ?_) rfl (by kernel_rfl) (fun _ _ _ h => h) (Or.inl ⟨by rfl, ?_⟩) (by assumption) ?_
                                          rotate_left
                                          · intro w hSw; (try dsimp only at hSw); go_simp; (try with_reducible rfl)
                                          (try simp only [Act.put, List.getElem_toArray, List.getElem_cons_zero, List.getElem_cons_succ, List.setIfInBounds_toArray, List.set_cons_zero, List.set_cons_succ])
                                          refine wpG_take 19 15 (v := ?_) rfl (by kernel_rfl) (fun _ _ _ h => h) (Or.inl ⟨by rfl, ?_⟩) (by assumption) ?_
                                          rotate_left
                                          · intro w hSw; (try dsimp only at hSw); go_simp; (try with_reducible rfl)
                                          (try simp only [Act.put, List.getElem_toArray, List.getElem_cons_zero, List.getElem_cons_succ, List.setIfInBounds_toArray, List.set_cons_zero, List.set_cons_succ])
                                          refine wpG_take 19 16 (v := ?_) rfl (by kernel_rfl) (fun _ _ _ h => h) (Or.inl ⟨by rfl, ?_⟩) (by assumption) ?_
                                          rotate_left
                                          · intro w hSw; (try dsimp only at hSw); go_simp; (try with_reducible rfl)
                                          (try simp only [Act.put, List.getElem_toArray, List.getElem_cons_zero, List.getElem_cons_succ, List.setIfInBounds_toArray, List.set_cons_zero, List.set_cons_succ])
                                          refine wpG_one (i := 3) (by kernel_rfl) ?_
                                          refine wpOp_step rfl (fun K hK => ?_)
                                          go_simp
                                          go_at_call 24
                                          (with_reducible refine (HDC.out _).mono ?_)
                                          rintro e w14 ⟨rfl, hb14'⟩
                                          have hb14 : Below wc.heap.size wc w14 := (Below.refl _ wc).drew.trans hb14'
                                          have n14 := HKS.out w14 hb14
                                          (try dsimp only)
                                          refine hK _ _ ⟨n14, ?_⟩
                                          clear hK K hS0 hb14'
                                          (try simp only [Act.put, List.getElem_toArray, List.getElem_cons_zero, List.getElem_cons_succ, List.setIfInBounds_toArray, List.set_cons_zero, List.set_cons_succ])
                                          refine wpG_take 19 4 (v := ?_) rfl (by kernel_rfl) (fun _ _ _ h => h) (Or.inl ⟨by rfl, ?_⟩) (by assumption) ?_
                                          rotate_left
                                          · intro w hSw; (try dsimp only at hSw); go_simp; (try with_reducible rfl)
                                          (try simp only [Act.put, List.getElem_toArray, List.getElem_cons_zero, List.getElem_cons_succ, List.setIfInBounds_toArray, List.set_cons_zero, List.set_cons_succ])
                                          refine wpG_take 19 17 (v := ?_) rfl (by kernel_rfl) (fun _ _ _ h => h) (Or.inl ⟨by rfl, ?_⟩) (by assumption) ?_
                                          rotate_left
                                          · intro w hSw; (try dsimp only at hSw); go_simp; (try with_reducible rfl)
                                          (try simp only [Act.put, List.getElem_toArray, List.getElem_cons_zero, List.getElem_cons_succ, List.setIfInBounds_toArray, List.set_cons_zero, List.set_cons_succ])
                                          have hb15 : Below wc.heap.size wc (w14.alloc (Obj.cells #[Value.string (⟨#[112]⟩ ++ db), Value.int IntKind.i64 1, Value.int IntKind.i64 (x + ak), Value.int IntKind.i64 yd, Value.int IntKind.i64 ck, Value.int IntKind.i64 rh] 60)) := hb14.trans ((below_new w14 _).mono hb14.size)
                                          have n15 := HKS.out _ hb15
                                          refine wpG_one (i := 18) (by kernel_rfl) ?_
                                          refine wpOp_step rfl (fun K hK => ?_)
                                          go_simp
                                          refine hK _ _ ⟨n15, ?_⟩
                                          clear hK K n14
                                          (try simp only [Act.put, List.getElem_toArray, List.getElem_cons_zero, List.getElem_cons_succ, List.setIfInBounds_toArray, List.set_cons_zero, List.set_cons_succ])
                                          have hnews : ∀ j u, (pcs ⟨⟨#[112]⟩ ++ db, 1, (x + ak), yd, ck, rh⟩).toList[j]? = some u → (w14.alloc (Obj.cells #[Value.string (⟨#[112]⟩ ++ db), Value.int IntKind.i64 1, Value.int IntKind.i64 (x + ak), Value.int IntKind.i64 yd, Value.int IntKind.i64 ck, Value.int IntKind.i64 rh] 60)).cell? ((⟨w14.heap.size, 0, none⟩ : Addr).add j) = some u := World.news_of_block (heap_alloc_new w14 _)
                                          have HNW := Lib.hid hnews
                                          have HB15 := Lib.hid hb15
                                          have HL15 := Lib.hid (R4.out.below hb15)
                                          clear hb14 hb15 n15 hnews
                                          generalize w14.alloc (Obj.cells #[Value.string (⟨#[112]⟩ ++ db), Value.int IntKind.i64 1, Value.int IntKind.i64 (x + ak), Value.int IntKind.i64 yd, Value.int IntKind.i64 ck, Value.int IntKind.i64 rh] 60) = W15 at *
                                          generalize w14.heap.size = tb at *
                                          refine ⟨by kernel_rfl, ?_⟩
                                          simp only [List.drop_succ_cons, List.drop_zero]
                                          go_wp2_with ((at_builtin
                                                        go_loud (refine wpList_append_lies _ rfl (.tmp 216) (.tmp 233) 26 (by rfl) (fb + 1) 60 i1' _ 6 56 Tryd.underlying26 hi1 hi1z hi1s hi1b rfl (by omega) v4 sF.ps.length _ (by rfl) HL15.out.row ⟨tb, 0, none⟩ 1 1 (pcs ⟨⟨#[112]⟩ ++ db, 1, (x + ak), yd, ck, rh⟩).toList (by rfl) (by rfl) HNW.out (fun u hu => pcells_one [⟨⟨#[112]⟩ ++ db, 1, (x + ak), yd, ck, rh⟩] u (by unfold pcells; simpa using hu)) (by omega) (by have := HLN.out; simp only [maxLen]; omega) (by have := HLN.out; omega) HL15.out.hi _ rfl ?_)
                                                        intro g16 cap16 w16 hown16 hg16 hat16 hlt16
                                                        obtain ⟨hRS, hFr, hBf⟩ := rs_push (qs := [⟨⟨#[112]⟩ ++ db, 1, (x + ak), yd, ck, rh⟩]) R4.out HB15.out (by have hh : pcells [⟨⟨#[112]⟩ ++ db, 1, (x + ak), yd, ck, rh⟩] = (pcs ⟨⟨#[112]⟩ ++ db, 1, (x + ak), yd, ck, rh⟩).toList := (by unfold pcells; simp); rw [hh]; exact hown16) (by simp) hg16 hat16
                                                        have k2 := hBf.cell 2
                                                        have k2f := hBf.frozen 2
                                                        obtain ⟨kG, kR, kN, kB⟩ := HFK.out _ _ (F4t.out.trans hFr)
                                                        have za := kG.cell 2
                                                        have zb := (HGA.out _ kB).z1 k hlt
                                                        rw [← HCK2.out] at zb
                                                        clear kG kR kN kB
                                                        have HRS := Lib.hid hRS
                                                        have HFr := Lib.hid hFr
                                                        clear hown16 hg16 hat16 hRS hFr hBf))
                                          go_roundg (g.cols.length + 2 - (k + 1))
                                          case measure => omega
                                          case rel =>
                                            refine ⟨k + 1, .slice (some ⟨g16, 0, none⟩) (sF.ps.length + 1) cap16, sF.page (x + ak) yd ck rh, x + ak + ck, by omega, Nat.le_refl _, by go_num, rfl, ?_, ?_, (show _ ∧ _ from ⟨fun _ => ⟨HNX.out.1.symm, HNX.out.2.symm⟩, fun h => by omega⟩), ?_, F4t.out.trans HFr.out⟩
                                            · unfold Lay.page; simp
                                            · rfl
                                            · show RS _ _ _ _ _ _ _
                                              unfold Lay.page
                                              rw [HNM.out]; exact HRS.out
                                        · have hltz : ¬ (k : Int) < (g.cols.length : Int) := by omega
                                          have hke : k = g.cols.length := by omega
                                          have HNX : Hid (g.row sY yd rh = sF) := (show _ = _ by rw [HRW.out, ← hke, ← HEQ.out.1, ← HEQ.out.2, ← HAK.out, ← HSF.out])
                                          have HSFN : Hid (sF.np = s.np) := (show _ = _ by rw [HSF.out]; unfold Lay.fill; split <;> rfl)
                                          clear hG hRb hNb hb hGr
                                          go_wp2_with fail
                                          go_roundg (g.cols.length + 2 - (k + 1))
                                          case measure => omega
                                          case rel =>
                                            refine ⟨k + 1, v4, sF, x + ak, by omega, Nat.le_refl _, by go_num, rfl, by rw [HSFN.out], rfl, (show _ ∧ _ from ⟨fun h => by omega, fun _ => HNX.out.symm⟩), R4.out, F4t.out⟩
                                    · have hkz : ¬ (k : Int) ≤ (g.cols.length : Int) := by omega
                                      have hke : k = g.cols.length + 1 := by omega
                                      have HSR := Lib.hid (SX.out.2 hke)
                                      have e1 : IntKind.i64.wrap (yd + rh) = yd + rh := IntWalk.i64_in _ (by omega)
                                      clear hke hG hRb hNb hb hGr z4
                                      go_wp2_with fail
                                      go_roundg (g.rows.length + 1 - (r + 1))
                                      case measure => omega
                                      case rel =>
                                        refine ⟨r + 1, v3, by omega, Nat.le_refl _, by go_num, by rw [HYS.out], by rw [HLS.out, ← HSR.out], by rw [HLS.out, ← HSR.out], ?_, F3.out⟩
                                        show RS _ _ _ _ _ _ _
                                        rw [HLS.out, ← HSR.out]; exact R3.out
                          · have d2 : (S2 + S4 + g.q != g.H) = true := bne_t h2
                            have HRR : Hid (g.check = 23) := by
                              show _ = _
                              rw [HC4.out, if_pos (.inr h2)]
                            have HP : Hid (∀ w', Below w.heap.size w w' → LayPost w g (.returned (.tuple #[.agg #[.int .i64 0, .int .i64 0, .slice none 0 0], .int .i64 23])) w') := (show ∀ w', _ from fun w' hw => .inl ⟨by rw [HRR.out]; decide, by rw [HRR.out], hw⟩)
                            clear HC4 h1 h2
                            go_wp2_with fail
                            go_quiet ((go_at_call 23; first | (with_reducible exact Calls.quiet_of_same (p1 _)) | (with_reducible exact Calls.quiet_of_same (p2 _)) | (with_reducible exact Calls.quiet_of_same (p3 _)) | (with_reducible exact Calls.quiet_of_same (p4 _))))
                            have HB2 : Hid (Below w.heap.size w (W1.drewN nq)) := ⟨HB1.out.os, HB1.out.tape, HB1.out.output, HB1.out.size, HB1.out.block⟩
                            have HR2 : Hid (Blk (W1.drewN nq) (w.heap.size + 1) 28 #[Value.int IntKind.i64 0, Value.int IntKind.i64 0, Value.slice none 0 0]) := HR1.out
                            have HN2 : Hid (Blk (W1.drewN nq) (w.heap.size + 1 + 1) 28 #[Value.int IntKind.i64 0, Value.int IntKind.i64 0, Value.slice none 0 0]) := HN1.out
                            have s0 := HR2.out.cell 0
                            have s1 := HR2.out.cell 1
                            have s2 := HR2.out.cell 2
                            have t0 := HR2.out.frozen 0
                            have t1 := HR2.out.frozen 1
                            have t2 := HR2.out.frozen 2
                            have u0 := HN2.out.cell 0
                            have u1 := HN2.out.cell 1
                            have u2 := HN2.out.cell 2
                            have hzr := HR2.out.lt
                            go_wp2_with fail
                            exact bodyPost_ret (v := .tuple #[.agg #[.int .i64 0, .int .i64 0, .slice none 0 0], .int .i64 23]) (by simp [results, Tryd.results7, go_sem, s0, s1, s2, hzr]) rfl (HP.out _ (((HB2.out.setCell (by simp) _).setCell (by simp) _).setCell (by simp) _))
                        · have d1 : (S1 + S3 + g.q != g.W) = true := bne_t h1
                          have HRR : Hid (g.check = 23) := by
                            show _ = _
                            rw [HC4.out, if_pos (.inl h1)]
                          have HP : Hid (∀ w', Below w.heap.size w w' → LayPost w g (.returned (.tuple #[.agg #[.int .i64 0, .int .i64 0, .slice none 0 0], .int .i64 23])) w') := (show ∀ w', _ from fun w' hw => .inl ⟨by rw [HRR.out]; decide, by rw [HRR.out], hw⟩)
                          clear HC4 h1
                          go_wp2_with fail
                          go_quiet ((go_at_call 23; first | (with_reducible exact Calls.quiet_of_same (p1 _)) | (with_reducible exact Calls.quiet_of_same (p2 _)) | (with_reducible exact Calls.quiet_of_same (p3 _)) | (with_reducible exact Calls.quiet_of_same (p4 _))))
                          have HB2 : Hid (Below w.heap.size w (W1.drewN nq)) := ⟨HB1.out.os, HB1.out.tape, HB1.out.output, HB1.out.size, HB1.out.block⟩
                          have HR2 : Hid (Blk (W1.drewN nq) (w.heap.size + 1) 28 #[Value.int IntKind.i64 0, Value.int IntKind.i64 0, Value.slice none 0 0]) := HR1.out
                          have HN2 : Hid (Blk (W1.drewN nq) (w.heap.size + 1 + 1) 28 #[Value.int IntKind.i64 0, Value.int IntKind.i64 0, Value.slice none 0 0]) := HN1.out
                          have s0 := HR2.out.cell 0
                          have s1 := HR2.out.cell 1
                          have s2 := HR2.out.cell 2
                          have t0 := HR2.out.frozen 0
                          have t1 := HR2.out.frozen 1
                          have t2 := HR2.out.frozen 2
                          have u0 := HN2.out.cell 0
                          have u1 := HN2.out.cell 1
                          have u2 := HN2.out.cell 2
                          have hzr := HR2.out.lt
                          go_wp2_with fail
                          exact bodyPost_ret (v := .tuple #[.agg #[.int .i64 0, .int .i64 0, .slice none 0 0], .int .i64 23]) (by simp [results, Tryd.results7, go_sem, s0, s1, s2, hzr]) rfl (HP.out _ (((HB2.out.setCell (by simp) _).setCell (by simp) _).setCell (by simp) _))
end Go.Proofs.YtlfeoofchebbkaaDoor
