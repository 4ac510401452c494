/- Layout: a grid is laid out, or the error. -/
import Derived.Test.YtlfeoofchebbkaaDoorRwl
import Derived.Deep.RegionHeld3
namespace Go.Proofs.YtlfeoofchebbkaaDoor
set_option linter.unusedSimpArgs false
set_option linter.unusedVariables false
open Go.RowKit
/-- Pieces of a value. -/
def PsV (W : World) (ps : List Piece) (v : Value) : Prop := ∃ A b c, v = .slice A ps.length c ∧ ps.length ≤ c ∧ Lies A ps.length W.heap.size b 0 ∧ PsAt W b 0 ps
theorem pcells_at : ∀ (l : List Piece) (j : Nat), j < l.length → ∀ i, i < 6 → (pcells l)[j * 6 + i]? = (pcs (gp l j)).toList[i]?
  | [], j, h, _, _ => by simp at h
  | x :: xs, 0, h, i, hi => by
    have : pcells (x :: xs) = (pcs x).toList ++ pcells xs := by unfold pcells; rw [List.flatMap_cons]
    rw [this, Nat.zero_mul, Nat.zero_add, List.getElem?_append_left (by simp [pcs]; omega)]
    rfl
  | x :: xs, j + 1, h, i, hi => by
    have : pcells (x :: xs) = (pcs x).toList ++ pcells xs := by unfold pcells; rw [List.flatMap_cons]
    rw [this, List.getElem?_append_right (by simp [pcs]; omega), show (j + 1) * 6 + i - (pcs x).toList.length = j * 6 + i by simp [pcs]; omega, pcells_at xs j (by simpa using h) i hi]
    rfl
theorem psV_own {W : World} {base : Nat} {v : Value} {ps : List Piece} (h : W.ownsRow base 60 6 v ps.length (pcells ps)) : PsV W ps v := by
  rcases Nat.eq_zero_or_pos ps.length with h0 | h0
  · rcases h.2 with ⟨rfl, _⟩ | ⟨g, cap, cur, rfl, h1, h2, h3, _⟩
    · exact ⟨none, 0, 0, by rw [h0], by omega, fun h => by omega, fun j hj => by omega⟩
    · exact ⟨some ⟨g, 0, none⟩, g, cap, rfl, h3, fun h => by omega, fun j hj => by omega⟩
  · obtain ⟨g, cap, rfl, h1, h2⟩ := h.form h0
    have hcap : ps.length ≤ cap := by
      rcases h.2 with ⟨hv, _⟩ | ⟨g', cap', cur, hv, _, _, hcc, _⟩
      · cases hv
      · cases hv; exact hcc
    refine ⟨some ⟨g, 0, none⟩, g, cap, rfl, hcap, fun _ => ⟨rfl, h2⟩, fun j hj => ?_⟩
    have hc : ∀ i, i < 6 → W.cell? ⟨g, 0 + j * 6 + i, none⟩ = (pcs (gp ps j)).toList[i]? := fun i hi => by
      rw [Nat.zero_add, h.cellAt (j * 6 + i) (by omega), pcells_at ps j hj i hi]
    exact ⟨hc 0 (by omega), hc 1 (by omega), hc 2 (by omega), hc 3 (by omega), hc 4 (by omega), hc 5 (by omega)⟩
theorem gapN_le (l : List Int) : ∀ k, Grid.gapN l k ≤ k
  | 0 => Nat.le_refl _
  | k + 1 => by
    have := gapN_le l k
    rw [Grid.gapN]
    split <;> omega
def LayPost (w : World) (g : Grid) (e : Ending) (w' : World) : Prop :=
  (g.check ≠ 0 ∧ e = .returned (.tuple #[.agg #[.int .i64 0, .int .i64 0, .slice none 0 0], .int .i64 g.check]) ∧ Below w.heap.size w w') ∨
  (g.check = 0 ∧ 60 < g.all.length ∧ e = .returned (.tuple #[.agg #[.int .i64 0, .int .i64 0, .slice none 0 0], .int .i64 8]) ∧ Below w.heap.size w w') ∨
  (g.check = 0 ∧ g.all.length ≤ 60 ∧ ∃ v, e = .returned (.tuple #[.agg #[.int .i64 g.W, .int .i64 g.H, v], .int .i64 0]) ∧ PsV w' g.all v ∧ Below w.heap.size w w')
theorem lays_bd (g : Grid) (hc : g.cols.length ≤ 8) (hr : g.rows.length ≤ 8) : ∀ i, i ≤ g.rows.length → LBd (g.lays i) (8 * i) (10 * i)
  | 0, _ => ⟨Nat.le_refl _, Nat.le_refl _, Nat.le_refl _⟩
  | i + 1, hi => by
    have h1 := lays_bd g hc hr i (by omega)
    have h2 := (h1.fill 0 (g.yAt i) g.right (gz g.dwn i)).row (g := g) (g.yAt i + gz g.dwn i) (gz g.rows i)
    rw [Grid.lays]
    have a := h2.np
    have b := h2.nf
    have c := h2.len
    exact ⟨by omega, by omega, by have := h1.len; omega⟩
set_option maxRecDepth 100000 in
set_option maxHeartbeats 8000000 in
theorem layout_any (g : Grid) (A1 A2 A3 A4 : Option Addr) (b1 o1 c1 b2 o2 c2 b3 o3 c3 b4 o4 c4 : Nat) (w : World) (h : GA w g A1 A2 A3 A4 b1 o1 c1 b2 o2 c2 b3 o3 c3 b4 o4 c4) (m1 : g.cols.length ≤ 8) (m2 : g.rows.length ≤ 8) (m3 : g.acr.length ≤ 10) (m4 : g.dwn.length ≤ 10) :
    Calls Tryd.prog 5 #[.agg #[Value.int IntKind.i64 g.W, Value.int IntKind.i64 g.H, Value.slice A1 g.cols.length c1, Value.slice A2 g.rows.length c2, Value.slice A3 g.acr.length c3, Value.slice A4 g.dwn.length c4, Value.int IntKind.i64 g.q]] w (LayPost w g) := by
  have hB2 : Below w.heap.size w ((w.alloc (Obj.cells #[Value.int IntKind.i64 g.W, Value.int IntKind.i64 g.H, Value.slice A1 g.cols.length c1, Value.slice A2 g.rows.length c2, Value.slice A3 g.acr.length c3, Value.slice A4 g.dwn.length c4, Value.int IntKind.i64 g.q] 24)).alloc (Obj.cells #[Value.int IntKind.i64 0, Value.int IntKind.i64 0, Value.slice none 0 0] 28)) := (below_new _ _).trans ((below_new _ _).mono (by simp))
  have hG : Blk ((w.alloc (Obj.cells #[Value.int IntKind.i64 g.W, Value.int IntKind.i64 g.H, Value.slice A1 g.cols.length c1, Value.slice A2 g.rows.length c2, Value.slice A3 g.acr.length c3, Value.slice A4 g.dwn.length c4, Value.int IntKind.i64 g.q] 24)).alloc (Obj.cells #[Value.int IntKind.i64 0, Value.int IntKind.i64 0, Value.slice none 0 0] 28)) w.heap.size 24 #[Value.int IntKind.i64 g.W, Value.int IntKind.i64 g.H, Value.slice A1 g.cols.length c1, Value.slice A2 g.rows.length c2, Value.slice A3 g.acr.length c3, Value.slice A4 g.dwn.length c4, Value.int IntKind.i64 g.q] := (Below.heap_alloc _ _ _ (by simp)).trans (Blk.new w 24 _)
  have hR : Blk ((w.alloc (Obj.cells #[Value.int IntKind.i64 g.W, Value.int IntKind.i64 g.H, Value.slice A1 g.cols.length c1, Value.slice A2 g.rows.length c2, Value.slice A3 g.acr.length c3, Value.slice A4 g.dwn.length c4, Value.int IntKind.i64 g.q] 24)).alloc (Obj.cells #[Value.int IntKind.i64 0, Value.int IntKind.i64 0, Value.slice none 0 0] 28)) (w.heap.size + 1) 28 #[Value.int IntKind.i64 0, Value.int IntKind.i64 0, Value.slice none 0 0] := by
    have := Blk.new (w.alloc (Obj.cells #[Value.int IntKind.i64 g.W, Value.int IntKind.i64 g.H, Value.slice A1 g.cols.length c1, Value.slice A2 g.rows.length c2, Value.slice A3 g.acr.length c3, Value.slice A4 g.dwn.length c4, Value.int IntKind.i64 g.q] 24)) 28 #[Value.int IntKind.i64 0, Value.int IntKind.i64 0, Value.slice none 0 0]
    rwa [World.size_alloc] at this
  have hsz : (((w.alloc (Obj.cells #[Value.int IntKind.i64 g.W, Value.int IntKind.i64 g.H, Value.slice A1 g.cols.length c1, Value.slice A2 g.rows.length c2, Value.slice A3 g.acr.length c3, Value.slice A4 g.dwn.length c4, Value.int IntKind.i64 g.q] 24)).alloc (Obj.cells #[Value.int IntKind.i64 0, Value.int IntKind.i64 0, Value.slice none 0 0] 28))).heap.size = w.heap.size + 1 + 1 := by simp
  have hcall := checkGrid_any g A1 A2 A3 A4 b1 o1 c1 b2 o2 c2 b3 o3 c3 b4 o4 c4 ((w.alloc (Obj.cells #[Value.int IntKind.i64 g.W, Value.int IntKind.i64 g.H, Value.slice A1 g.cols.length c1, Value.slice A2 g.rows.length c2, Value.slice A3 g.acr.length c3, Value.slice A4 g.dwn.length c4, Value.int IntKind.i64 g.q] 24)).alloc (Obj.cells #[Value.int IntKind.i64 0, Value.int IntKind.i64 0, Value.slice none 0 0] 28)) (h.below hB2) (by omega) (by omega) (by omega) (by omega)
  have HGA : Hid (∀ W, Below w.heap.size w W → GA W g A1 A2 A3 A4 b1 o1 c1 b2 o2 c2 b3 o3 c3 b4 o4 c4) := (show ∀ W, _ from fun W hW => h.below hW)
  have HB2 := Lib.hid hB2
  have HG := Lib.hid hG
  have HR := Lib.hid hR
  clear h hB2 hG hR
  go_enter Tryd.func5, Tryd.ntmps5
  go_wp2_with fail
  generalize ((w.alloc (Obj.cells #[Value.int IntKind.i64 g.W, Value.int IntKind.i64 g.H, Value.slice A1 g.cols.length c1, Value.slice A2 g.rows.length c2, Value.slice A3 g.acr.length c3, Value.slice A4 g.dwn.length c4, Value.int IntKind.i64 g.q] 24)).alloc (Obj.cells #[Value.int IntKind.i64 0, Value.int IntKind.i64 0, Value.slice none 0 0] 28)) = W1 at *
  refine hcall.mono ?_
  rintro e w2 ⟨rfl, hb⟩
  have hsz2 := hb.size
  have HB3 := Lib.hid (HB2.out.trans (hb.mono HB2.out.size))
  have HG3 := Lib.hid (HG.out.below hb HG.out.lt)
  have HR3 := Lib.hid (HR.out.below hb HR.out.lt)
  clear hb hcall HB2 HG HR
  by_cases hck : g.check = 0
  · have HCK := Lib.hid hck
    have hg := Grid.check_good hck
    rw [hck]
    have hlen := Grid.len_all hg
    have hga1 : Grid.gapN g.acr g.acr.length ≤ 10 := Nat.le_trans (gapN_le _ _) m3
    have hgd1 : Grid.gapN g.dwn g.dwn.length ≤ 10 := Nat.le_trans (gapN_le _ _) m4
    have hla := hg.la
    have hld := hg.ld
    have hcA : ∀ W, Below w2.heap.size w2 W → Calls Tryd.prog 17 #[.slice A3 g.acr.length c3] W fun e w' => e = .returned (.int .i64 (Grid.gapN g.acr g.acr.length)) ∧ Below W.heap.size W w' := fun W hW => by
      have hx := HGA.out W (HB3.out.trans (hW.mono HB3.out.size))
      exact gaps_any g.acr A3 b3 o3 c3 W hx.l3 hx.z3 (by omega) (by omega)
    have hcD : ∀ W, Below w2.heap.size w2 W → Calls Tryd.prog 17 #[.slice A4 g.dwn.length c4] W fun e w' => e = .returned (.int .i64 (Grid.gapN g.dwn g.dwn.length)) ∧ Below W.heap.size W w' := fun W hW => by
      have hx := HGA.out W (HB3.out.trans (hW.mono HB3.out.size))
      exact gaps_any g.dwn A4 b4 o4 c4 W hx.l4 hx.z4 (by omega) (by omega)
    have HCA := Lib.hid hcA
    have HCD := Lib.hid hcD
    have HGD := Lib.hid hg
    have HLD := Lib.hid hld
    have HLA := Lib.hid hla
    generalize Grid.gapN g.acr g.acr.length = na at *
    generalize Grid.gapN g.dwn g.dwn.length = nd at *
    have hP : ((g.rows.length * (g.cols.length + na) : Nat) : Int) = (g.rows.length : Int) * ((g.cols.length : Int) + (na : Int)) := by rw [Int.natCast_mul, Int.natCast_add]
    have hPb : g.rows.length * (g.cols.length + na) ≤ 8 * 18 := Nat.mul_le_mul m2 (by omega)
    have ew1 : IntKind.i64.wrap ((g.cols.length : Int) + (na : Int)) = (g.cols.length : Int) + (na : Int) := IntWalk.i64_in _ (by omega)
    have ew2 : IntKind.i64.wrap ((g.rows.length : Int) * ((g.cols.length : Int) + (na : Int))) = ((g.rows.length * (g.cols.length + na) : Nat) : Int) := by rw [← hP]; exact IntWalk.i64_in _ (by omega)
    clear hP
    generalize g.rows.length * (g.cols.length + na) = np at *
    have ew3 : IntKind.i64.wrap ((np : Int) + (nd : Int)) = (np : Int) + (nd : Int) := IntWalk.i64_in _ (by omega)
    have ew4 : IntKind.i64.wrap ((np : Int) + (nd : Int) + 2) = (np : Int) + (nd : Int) + 2 := IntWalk.i64_in _ (by omega)
    have HK : Hid (∀ W, Below w2.heap.size w2 W → (W.cell? ⟨w.heap.size, 2, none⟩ = some (.slice A1 g.cols.length c1) ∧ W.cell? ⟨w.heap.size, 3, none⟩ = some (.slice A2 g.rows.length c2) ∧ W.cell? ⟨w.heap.size, 4, none⟩ = some (.slice A3 g.acr.length c3) ∧ W.cell? ⟨w.heap.size, 5, none⟩ = some (.slice A4 g.dwn.length c4))) := (show ∀ W, _ from fun W hW => by
      have hk := HG3.out.below hW HG3.out.lt
      exact ⟨hk.cell 2, hk.cell 3, hk.cell 4, hk.cell 5⟩)
    have hb0 : Below w2.heap.size w2 w2.drew := (Below.refl _ _).drew
    have hS0 := HK.out w2.drew hb0
    have H0 := Lib.hid hb0
    have HLEN := Lib.hid hlen
    clear hb0 hck hg hlen hcA hcD hla hld
    by_cases hbig : 60 < g.all.length
    · have hgt : (np : Int) + (nd : Int) + 2 > 60 := by have := HLEN.out; omega
      have HBG := Lib.hid hbig
      clear hbig HLEN hga1 hgd1 hPb
      go_wp2_with fail
      go_region_held3 (fun W => (W.cell? ⟨w.heap.size, 2, none⟩ = some (.slice A1 g.cols.length c1) ∧ W.cell? ⟨w.heap.size, 3, none⟩ = some (.slice A2 g.rows.length c2) ∧ W.cell? ⟨w.heap.size, 4, none⟩ = some (.slice A3 g.acr.length c3) ∧ W.cell? ⟨w.heap.size, 5, none⟩ = some (.slice A4 g.dwn.length c4)))
        (first
          | exact hS0
          | exact HK.out _ hb2
          | exact HK.out _ hb1
          | go_keep)
        (first
          | (go_at_call 17; (with_reducible refine (HCD.out _ hb1).mono ?_); rintro e w4 ⟨rfl, hb2'⟩; have hb2 : Below w2.heap.size w2 w4 := hb1.trans (hb2'.mono hb1.size))
          | (go_at_call 17; (with_reducible refine (HCA.out _ H0.out).mono ?_); rintro e w3 ⟨rfl, hb1'⟩; have hb1 : Below w2.heap.size w2 w3 := H0.out.trans hb1'))
      have HB4 := Lib.hid (HB3.out.trans (hb2.mono HB3.out.size))
      have R1 := HR3.out.below hb2 HR3.out.lt
      have s0 : w4.cell? ⟨w.heap.size + 1, 0, none⟩ = some (.int .i64 0) := R1.cell 0
      have s1 : w4.cell? ⟨w.heap.size + 1, 1, none⟩ = some (.int .i64 0) := R1.cell 1
      have s2 : w4.cell? ⟨w.heap.size + 1, 2, none⟩ = some (.slice none 0 0) := R1.cell 2
      have t0 := R1.frozen 0
      have t1 := R1.frozen 1
      have t2 := R1.frozen 2
      have hzr := R1.lt
      have HP : Hid (∀ w', Below w.heap.size w w' → LayPost w g (.returned (.tuple #[.agg #[.int .i64 0, .int .i64 0, .slice none 0 0], .int .i64 8])) w') := (show ∀ w', _ from fun w' hw => .inr (.inl ⟨HCK.out, HBG.out, rfl, hw⟩))
      clear R1 hb1 hb2 hb1' hb2' HK H0 hS0 HCA HCD
      go_wp2_with fail
      exact bodyPost_ret (v := .tuple #[.agg #[.int .i64 0, .int .i64 0, .slice none 0 0], .int .i64 8]) (by simp [results, Tryd.results5, go_sem, s0, s1, s2, hzr]) rfl (HP.out _ (((HB4.out.setCell (by simp) _).setCell (by simp) _).setCell (by simp) _))
    · have hgt : ¬ ((np : Int) + (nd : Int) + 2 > 60) := by have := HLEN.out; omega
      have HBG := Lib.hid hbig
      clear hbig HLEN hga1 hgd1 hPb
      go_wp2_with fail
      go_region_held3 (fun W => (W.cell? ⟨w.heap.size, 2, none⟩ = some (.slice A1 g.cols.length c1) ∧ W.cell? ⟨w.heap.size, 3, none⟩ = some (.slice A2 g.rows.length c2) ∧ W.cell? ⟨w.heap.size, 4, none⟩ = some (.slice A3 g.acr.length c3) ∧ W.cell? ⟨w.heap.size, 5, none⟩ = some (.slice A4 g.dwn.length c4)))
        (first
          | exact hS0
          | exact HK.out _ hb2
          | exact HK.out _ hb1
          | go_keep)
        (first
          | (go_at_call 17; (with_reducible refine (HCD.out _ hb1).mono ?_); rintro e w4 ⟨rfl, hb2'⟩; have hb2 : Below w2.heap.size w2 w4 := hb1.trans (hb2'.mono hb1.size))
          | (go_at_call 17; (with_reducible refine (HCA.out _ H0.out).mono ?_); rintro e w3 ⟨rfl, hb1'⟩; have hb1 : Below w2.heap.size w2 w3 := H0.out.trans hb1'))
      have HB4 := Lib.hid (HB3.out.trans (hb2.mono HB3.out.size))
      have HG4 := Lib.hid (HG3.out.below hb2 HG3.out.lt)
      have HR4 := Lib.hid (HR3.out.below hb2 HR3.out.lt)
      have HZ4 : Hid (w.heap.size + 1 + 1 ≤ w4.heap.size) := (show _ ≤ _ by have := hb2.size; omega)
      clear hb1 hb2 hb1' hb2' HK H0 hS0 HCA HCD HB3 HG3 HR3
      have hbn := below_new w4 (Obj.cells #[.int .i64 g.W, .int .i64 g.H, .slice none 0 0, .int .i64 0, .int .i64 0] 56)
      have HB5 := Lib.hid (HB4.out.trans (hbn.mono HB4.out.size))
      have hG5 := HG4.out.below hbn HG4.out.lt
      have HR5 := Lib.hid (HR4.out.below hbn HR4.out.lt)
      have HL5 := Lib.hid (Blk.new w4 56 #[.int .i64 g.W, .int .i64 g.H, .slice none 0 0, .int .i64 0, .int .i64 0])
      have hz5 : (w4.alloc (Obj.cells #[.int .i64 g.W, .int .i64 g.H, .slice none 0 0, .int .i64 0, .int .i64 0] 56)).heap.size = w4.heap.size + 1 := by simp
      have y0 : w4.cell? ⟨w.heap.size, 0, none⟩ = some (.int .i64 g.W) := HG4.out.cell 0
      have y1 : w4.cell? ⟨w.heap.size, 1, none⟩ = some (.int .i64 g.H) := HG4.out.cell 1
      have x0 := hG5.cell 0
      have x1 := hG5.cell 1
      have x6 := hG5.cell 6
      have HG5 := Lib.hid hG5
      clear hbn hG5 HB4 HG4 HR4
      have er : IntKind.i64.wrap (g.W - g.q) = g.W - g.q := IntWalk.i64_in _ (by have := HGD.out.w1; have := HGD.out.w2; have := HGD.out.q1; have := HGD.out.q2; omega)
      have eb : IntKind.i64.wrap (g.H - g.q) = g.H - g.q := IntWalk.i64_in _ (by have := HGD.out.h1; have := HGD.out.h2; have := HGD.out.q1; have := HGD.out.q2; omega)
      go_wp2_with fail
      generalize w4.alloc (Obj.cells #[.int .i64 g.W, .int .i64 g.H, .slice none 0 0, .int .i64 0, .int .i64 0] 56) = W5 at *
      generalize hlb : w4.heap.size = lb at *
      clear y0 y1 hlb ew1 ew2 ew3 ew4 hgt
      go_quiet (fail)
      have hlb2 : w.heap.size + 1 + 1 ≤ lb := HZ4.out
      have L6 : LS (W5.drewN nq) lb (lb + 1) g.W g.H ⟨[], 0, 0⟩ (.slice none 0 0) := ⟨HL5.out, World.ownsRow_nil _ _ _ _, Nat.lt_succ_self _, Nat.le_of_eq hz5.symm⟩
      have B6 : Below w.heap.size w (W5.drewN nq) := ⟨HB5.out.os, HB5.out.tape, HB5.out.output, HB5.out.size, HB5.out.block⟩
      have HL6 := Lib.hid L6
      have HB6 := Lib.hid B6
      have HG6 : Hid (Blk (W5.drewN nq) w.heap.size 24 _) := HG5.out
      have HR6 : Hid (Blk (W5.drewN nq) (w.heap.size + 1) 28 _) := HR5.out
      clear L6 B6 HL5 HB5 HG5 HR5 HZ4 x0 x1 x6 hz5
      generalize W5.drewN nq = W6 at *
      have HFK : Hid (∀ W v1, FrL W6 W lb (.slice none 0 0) v1 → Blk W w.heap.size 24 #[.int .i64 g.W, .int .i64 g.H, .slice A1 g.cols.length c1, .slice A2 g.rows.length c2, .slice A3 g.acr.length c3, .slice A4 g.dwn.length c4, .int .i64 g.q] ∧ Blk W (w.heap.size + 1) 28 #[.int .i64 0, .int .i64 0, .slice none 0 0] ∧ Below w.heap.size w W) := (show ∀ W v1, _ from fun W v1 hF =>
        ⟨hF.blk HG6.out (by omega) (by simp [Value.ownBlock]), hF.blk HR6.out (by omega) (by simp [Value.ownBlock]), HB6.out.trans (hF.below (base := 0) HB6.out.size (by omega) (fun k hk => by simp [Value.ownBlock] at hk))⟩)
      have HY : Hid (∀ i, i < g.rows.length → (0 ≤ g.yAt i ∧ g.yAt i ≤ 4000) ∧ (0 ≤ gz g.dwn i ∧ gz g.dwn i ≤ 4000) ∧ (1 ≤ gz g.rows i ∧ gz g.rows i ≤ 4000)) := (show ∀ i, _ from fun i hi => by
        have hg := HGD.out
        have h1 := hg.y0 i (by omega)
        have h2 := hg.yle (g.rows.length - i) i (by omega)
        have h3 := hg.rd i (by omega)
        have h4 := hg.rr i hi
        have h5 := hg.h2
        have h6 := hg.q1
        unfold Grid.bottom at h2
        omega)
      have HYS : Hid (∀ i, g.yAt (i + 1) = g.yAt i + gz g.dwn i + gz g.rows i) := (show ∀ i, _ from fun i => rfl)
      have HLS : Hid (∀ i, g.lays (i + 1) = g.row ((g.lays i).fill 0 (g.yAt i) (g.W - g.q) (gz g.dwn i)) (g.yAt i + gz g.dwn i) (gz g.rows i)) := (show ∀ i, _ from fun i => rfl)
      have HBD : Hid (∀ i, i ≤ g.rows.length → LBd (g.lays i) (8 * i) (10 * i)) := (show ∀ i, _ from fun i hi => lays_bd g m1 m2 i hi)
      have x3 : W6.cell? ⟨w.heap.size, 3, none⟩ = some (.slice A2 g.rows.length c2) := HG6.out.cell 3
      go_wp2_with fail
      go_loopg [8, 55] g.rows.length (fun gg s8 s55 wr => ∃ (i : Nat) (v1 : Value), i ≤ g.rows.length ∧ g.rows.length - i ≤ gg ∧ s55 = .int .i64 i ∧ s8 = .int .i64 (g.yAt i) ∧ Hid (LS wr lb (lb + 1) g.W g.H (g.lays i) v1) ∧ Hid (FrL W6 wr lb (.slice none 0 0) v1))
      case atStart => exact ⟨0, _, Nat.zero_le _, by omega, rfl, rfl, HL6.out, FrL.refl _ _ _⟩
      case round =>
        obtain ⟨i, v1, hi, hgi, rfl, rfl, L1, F1⟩ := hrel
        obtain ⟨hG1, hR1, hb1⟩ := HFK.out wr v1 F1.out
        have hGr := HGA.out wr hb1
        have x5 : wr.cell? ⟨w.heap.size, 5, none⟩ = some (.slice A4 g.dwn.length c4) := hG1.cell 5
        have x3' : wr.cell? ⟨w.heap.size, 3, none⟩ = some (.slice A2 g.rows.length c2) := hG1.cell 3
        have hldz : (g.dwn.length : Int) = (g.rows.length : Int) + 1 := by have := HLD.out; omega
        have hi0 : (0 : Int) ≤ (i : Int) := by omega
        by_cases hlt : i < g.rows.length
        · have hltz : (i : Int) < (g.rows.length : Int) := by omega
          have hiz : (i : Int) < (g.dwn.length : Int) := by omega
          obtain ⟨rfl, hb2⟩ := hGr.l2 (by omega)
          obtain ⟨rfl, hb4⟩ := hGr.l4 (by have := HLD.out; omega)
          have y2 : wr.cell? ⟨b2, o2 + i, none⟩ = some (.int .i64 (gz g.rows i)) := hGr.z2 i hlt
          have y4 : wr.cell? ⟨b4, o4 + i, none⟩ = some (.int .i64 (gz g.dwn i)) := hGr.z4 i (by have := HLD.out; omega)
          obtain ⟨z1, z2, z3⟩ := HY.out i hlt
          have HYi := Lib.hid (HYS.out i)
          have HLi := Lib.hid (HLS.out i)
          have hbd := HBD.out i hi
          have hfill := fill_any lb (lb + 1) g.W g.H (g.lays i) v1 0 (g.yAt i) (g.W - g.q) (gz g.dwn i) wr L1.out (by have := hbd.len; omega) (by have := hbd.nf; omega)
          have hbd2 := hbd.fill 0 (g.yAt i) (g.W - g.q) (gz g.dwn i)
          have hbd3 : LBd ((g.lays i).fill 0 (g.yAt i) (g.W - g.q) (gz g.dwn i)) 80 80 := ⟨by have := hbd2.np; omega, by have := hbd2.nf; omega, by have := hbd2.len; omega⟩
          have HRO : Hid (∀ W v2, LS W lb (lb + 1) g.W g.H ((g.lays i).fill 0 (g.yAt i) (g.W - g.q) (gz g.dwn i)) v2 → Below w.heap.size w W → Calls Tryd.prog 19 #[.pointer (some ⟨lb, 0, none⟩), .agg #[.int .i64 g.W, .int .i64 g.H, .slice A1 g.cols.length c1, .slice (some ⟨b2, o2, none⟩) g.rows.length c2, .slice A3 g.acr.length c3, .slice (some ⟨b4, o4, none⟩) g.dwn.length c4, .int .i64 g.q], .int .i64 (g.yAt i + gz g.dwn i), .int .i64 (gz g.rows i)] W fun e w' =>
              e = .returned (.tuple #[]) ∧ ∃ v', LS w' lb (lb + 1) g.W g.H (g.row ((g.lays i).fill 0 (g.yAt i) (g.W - g.q) (gz g.dwn i)) (g.yAt i + gz g.dwn i) (gz g.rows i)) v' ∧ FrL W w' lb v2 v') := (show ∀ W v2, _ from fun W v2 hL hB =>
            row_any g HGD.out A1 (some ⟨b2, o2, none⟩) A3 (some ⟨b4, o4, none⟩) b1 o1 c1 b2 o2 c2 b3 o3 c3 b4 o4 c4 lb (lb + 1) g.W g.H _ v2 _ _ w W hL (HGA.out w (Below.refl _ _)) hB (by omega) hbd3 (by omega))
          have HST : Hid (∀ W v2, FrL wr W lb v1 v2 → (W.cell? ⟨w.heap.size, 0, none⟩ = some (.int .i64 g.W) ∧ W.cell? ⟨w.heap.size, 1, none⟩ = some (.int .i64 g.H) ∧ W.cell? ⟨w.heap.size, 2, none⟩ = some (.slice A1 g.cols.length c1) ∧ W.cell? ⟨w.heap.size, 3, none⟩ = some (.slice (some ⟨b2, o2, none⟩) g.rows.length c2) ∧ W.cell? ⟨w.heap.size, 4, none⟩ = some (.slice A3 g.acr.length c3) ∧ W.cell? ⟨w.heap.size, 5, none⟩ = some (.slice (some ⟨b4, o4, none⟩) g.dwn.length c4) ∧ W.cell? ⟨w.heap.size, 6, none⟩ = some (.int .i64 g.q)) ∧ W.cell? ⟨b4, o4 + i, none⟩ = some (.int .i64 (gz g.dwn i)) ∧ Below w.heap.size w W) := (show ∀ W v2, _ from fun W v2 hF => by
            obtain ⟨k1, k2, k3⟩ := HFK.out W v2 (F1.out.trans hF)
            exact ⟨⟨k1.cell 0, k1.cell 1, k1.cell 2, k1.cell 3, k1.cell 4, k1.cell 5, k1.cell 6⟩, (HGA.out W k3).z4 i (by have := HLD.out; omega), k3⟩)
          clear hbd hbd2 hbd3 hGr hG1 hR1 hb1
          generalize gz g.rows i = rk at *
          generalize gz g.dwn i = dk at *
          generalize hyi : g.yAt i = yi at *
          have HYE := Lib.hid hyi
          clear hyi
          have e1 : IntKind.i64.wrap (yi + dk) = yi + dk := IntWalk.i64_in _ (by omega)
          have e2 : IntKind.i64.wrap (yi + dk + rk) = yi + dk + rk := IntWalk.i64_in _ (by omega)
          go_wp2_with fail
          refine hfill.mono ?_
          rintro e w8 ⟨rfl, v2, hL2, hF2⟩
          obtain ⟨⟨q0, q1, q2, q3, q4, q5, q6⟩, y4', hb8⟩ := HST.out w8 v2 hF2
          have hrow := HRO.out w8 v2 hL2 hb8
          have HF2 := Lib.hid hF2
          clear hfill hL2 hF2 x5 x3' y2 y4 HRO hb8
          go_wp2_with fail
          refine hrow.mono ?_
          rintro e w9 ⟨rfl, v3, hL3, hF3⟩
          have HF3 := Lib.hid (HF2.out.trans hF3)
          have HL3 := Lib.hid hL3
          clear hrow hL3 hF3 HF2 q0 q1 q2 q3 q4 q5 q6 y4'
          go_wp2_with fail
          go_roundg (g.rows.length - (i + 1))
          case measure => omega
          case rel =>
            refine ⟨i + 1, v3, by omega, by omega, by go_num, by rw [HYi.out], ?_, F1.out.trans HF3.out⟩
            show LS _ _ _ _ _ _ _
            rw [HLi.out]; exact HL3.out
        · have hltz : ¬ (i : Int) < (g.rows.length : Int) := by omega
          have he : i = g.rows.length := by omega
          subst he
          obtain ⟨rfl, hb4⟩ := hGr.l4 (by have := HLD.out; omega)
          have y4 : wr.cell? ⟨b4, o4 + g.rows.length, none⟩ = some (.int .i64 (gz g.dwn g.rows.length)) := hGr.z4 _ (by have := HLD.out; omega)
          have hiz : (g.rows.length : Int) < (g.dwn.length : Int) := by omega
          have hbd := HBD.out g.rows.length (Nat.le_refl _)
          have hfill := fill_any lb (lb + 1) g.W g.H (g.lays g.rows.length) v1 0 (g.yAt g.rows.length) (g.W - g.q) (gz g.dwn g.rows.length) wr L1.out (by have := hbd.len; omega) (by have := hbd.nf; omega)
          have HLA2 : Hid (g.last = (g.lays g.rows.length).fill 0 (g.yAt g.rows.length) (g.W - g.q) (gz g.dwn g.rows.length)) := rfl
          rw [← HLA2.out] at hfill
          have hbl := hbd.fill 0 (g.yAt g.rows.length) (g.W - g.q) (gz g.dwn g.rows.length)
          rw [← HLA2.out] at hbl
          have HBL : Hid (g.last.ps.length ≤ 200) := (show _ ≤ _ by have := hbl.len; omega)
          clear hbd hbl hGr hG1 hR1 hb1
          go_wp2_with fail
          refine hfill.mono ?_
          rintro e w8 ⟨rfl, v2, hL2, hF2⟩
          have HF2 := Lib.hid (F1.out.trans hF2)
          have HL2 := Lib.hid hL2
          obtain ⟨hG8, hR8, hb8⟩ := HFK.out w8 v2 HF2.out
          have HG8 := Lib.hid hG8
          have HR8 := Lib.hid hR8
          have HB8 := Lib.hid hb8
          clear hfill hL2 hF2 x5 x3' y4 L1 F1 hG8 hR8 hb8
          obtain ⟨i1', hi1, hi1z, hi1s, hi1b⟩ := info_parts Tryd.info60
          go_wp2_with fail
          have hS0 : (w8.drew.cell? ⟨lb, 2, none⟩ = some v2 ∧ w8.drew.cell? ⟨w.heap.size, 0, none⟩ = some (.int .i64 g.W) ∧ w8.drew.cell? ⟨w.heap.size, 6, none⟩ = some (.int .i64 g.q)) := ⟨HL2.out.blk.cell 2, HG8.out.cell 0, HG8.out.cell 6⟩
          refine wp_region_split1 (fun W => (W.cell? ⟨lb, 2, none⟩ = some v2 ∧ W.cell? ⟨w.heap.size, 0, none⟩ = some (.int .i64 g.W) ∧ W.cell? ⟨w.heap.size, 6, none⟩ = some (.int .i64 g.q))) 18 0 (ve := ?_) (by kernel_rfl) (by decide) (by decide) rfl (by kernel_rfl) (fun _ _ _ h => h) (Or.inl ⟨by rfl, ?_⟩) ?_
          rotate_left
          · intro w; go_simp; (try with_reducible rfl)
          (try simp only [Act.put, List.getElem_toArray, List.getElem_cons_zero, List.getElem_cons_succ, List.setIfInBounds_toArray, List.set_cons_zero, List.set_cons_succ])
          refine wpG_take 18 1 (v := ?_) rfl (by kernel_rfl) (fun _ _ _ h => h) (Or.inl ⟨by rfl, ?_⟩) (by assumption) ?_
          rotate_left
          · intro w hSw; (try dsimp only at hSw); go_simp; (try with_reducible rfl)
          (try simp only [Act.put, List.getElem_toArray, List.getElem_cons_zero, List.getElem_cons_succ, List.setIfInBounds_toArray, List.set_cons_zero, List.set_cons_succ])
          refine wpG_take 18 2 (v := ?_) rfl (by kernel_rfl) (fun _ _ _ h => h) (Or.inl ⟨by rfl, ?_⟩) (by assumption) ?_
          rotate_left
          · intro w hSw; (try dsimp only at hSw); go_simp; (try with_reducible rfl)
          (try simp only [Act.put, List.getElem_toArray, List.getElem_cons_zero, List.getElem_cons_succ, List.setIfInBounds_toArray, List.set_cons_zero, List.set_cons_succ])
          refine wpG_take 18 3 (v := ?_) rfl (by kernel_rfl) (fun _ _ _ h => h) (Or.inl ⟨by rfl, ?_⟩) (by assumption) ?_
          rotate_left
          · intro w hSw; (try dsimp only at hSw); go_simp; (try with_reducible rfl)
          (try simp only [Act.put, List.getElem_toArray, List.getElem_cons_zero, List.getElem_cons_succ, List.setIfInBounds_toArray, List.set_cons_zero, List.set_cons_succ])
          refine wpG_take 18 4 (v := ?_) rfl (by kernel_rfl) (fun _ _ _ h => h) (Or.inl ⟨by rfl, ?_⟩) (by assumption) ?_
          rotate_left
          · intro w hSw; (try dsimp only at hSw); go_simp; (try with_reducible rfl)
          (try simp only [Act.put, List.getElem_toArray, List.getElem_cons_zero, List.getElem_cons_succ, List.setIfInBounds_toArray, List.set_cons_zero, List.set_cons_succ])
          refine wpG_take 18 5 (v := ?_) rfl (by kernel_rfl) (fun _ _ _ h => h) (Or.inl ⟨by rfl, ?_⟩) (by assumption) ?_
          rotate_left
          · intro w hSw; (try dsimp only at hSw); go_simp; (try with_reducible rfl)
          (try simp only [Act.put, List.getElem_toArray, List.getElem_cons_zero, List.getElem_cons_succ, List.setIfInBounds_toArray, List.set_cons_zero, List.set_cons_succ])
          refine wpG_take 18 6 (v := ?_) rfl (by kernel_rfl) (fun _ _ _ h => h) (Or.inl ⟨by rfl, ?_⟩) (by assumption) ?_
          rotate_left
          · intro w hSw; (try dsimp only at hSw); go_simp; (try with_reducible rfl)
          (try simp only [Act.put, List.getElem_toArray, List.getElem_cons_zero, List.getElem_cons_succ, List.setIfInBounds_toArray, List.set_cons_zero, List.set_cons_succ])
          refine wpG_take 18 7 (v := ?_) rfl (by kernel_rfl) (fun _ _ _ h => h) (Or.inl ⟨by rfl, ?_⟩) (by assumption) ?_
          rotate_left
          · intro w hSw; (try dsimp only at hSw); go_simp; (try with_reducible rfl)
          (try simp only [Act.put, List.getElem_toArray, List.getElem_cons_zero, List.getElem_cons_succ, List.setIfInBounds_toArray, List.set_cons_zero, List.set_cons_succ])
          refine wpG_take 18 8 (v := ?_) rfl (by kernel_rfl) (fun _ _ _ h => h) (Or.inl ⟨by rfl, ?_⟩) (by assumption) ?_
          rotate_left
          · intro w hSw; (try dsimp only at hSw); go_simp; (try with_reducible rfl)
          (try simp only [Act.put, List.getElem_toArray, List.getElem_cons_zero, List.getElem_cons_succ, List.setIfInBounds_toArray, List.set_cons_zero, List.set_cons_succ])
          refine wpG_take 18 9 (v := ?_) rfl (by kernel_rfl) (fun _ _ _ h => h) (Or.inl ⟨by rfl, ?_⟩) (by assumption) ?_
          rotate_left
          · intro w hSw; (try dsimp only at hSw); go_simp; (try with_reducible rfl)
          (try simp only [Act.put, List.getElem_toArray, List.getElem_cons_zero, List.getElem_cons_succ, List.setIfInBounds_toArray, List.set_cons_zero, List.set_cons_succ])
          refine wpG_take 18 10 (v := ?_) rfl (by kernel_rfl) (fun _ _ _ h => h) (Or.inl ⟨by rfl, ?_⟩) (by assumption) ?_
          rotate_left
          · intro w hSw; (try dsimp only at hSw); go_simp; (try with_reducible rfl)
          (try simp only [Act.put, List.getElem_toArray, List.getElem_cons_zero, List.getElem_cons_succ, List.setIfInBounds_toArray, List.set_cons_zero, List.set_cons_succ])
          refine wpG_take 18 11 (v := ?_) rfl (by kernel_rfl) (fun _ _ _ h => h) (Or.inl ⟨by rfl, ?_⟩) (by assumption) ?_
          rotate_left
          · intro w hSw; (try dsimp only at hSw); go_simp; (try with_reducible rfl)
          (try simp only [Act.put, List.getElem_toArray, List.getElem_cons_zero, List.getElem_cons_succ, List.setIfInBounds_toArray, List.set_cons_zero, List.set_cons_succ])
          refine wpG_take 18 12 (v := ?_) rfl (by kernel_rfl) (fun _ _ _ h => h) (Or.inl ⟨by rfl, ?_⟩) (by assumption) ?_
          rotate_left
          · intro w hSw; (try dsimp only at hSw); go_simp; (try with_reducible rfl)
          (try simp only [Act.put, List.getElem_toArray, List.getElem_cons_zero, List.getElem_cons_succ, List.setIfInBounds_toArray, List.set_cons_zero, List.set_cons_succ])
          refine wpG_take 18 13 (v := ?_) rfl (by kernel_rfl) (fun _ _ _ h => h) (Or.inl ⟨by rfl, ?_⟩) (by assumption) ?_
          rotate_left
          · intro w hSw; (try dsimp only at hSw); go_simp; (try with_reducible rfl)
          (try simp only [Act.put, List.getElem_toArray, List.getElem_cons_zero, List.getElem_cons_succ, List.setIfInBounds_toArray, List.set_cons_zero, List.set_cons_succ])
          refine wpG_take 18 14 (v := ?_) rfl (by kernel_rfl) (fun _ _ _ h => h) (Or.inl ⟨by rfl, ?_⟩) (by assumption) ?_
          rotate_left
          · intro w hSw; (try dsimp only at hSw); go_simp; (try with_reducible rfl)
          (try simp only [Act.put, List.getElem_toArray, List.getElem_cons_zero, List.getElem_cons_succ, List.setIfInBounds_toArray, List.set_cons_zero, List.set_cons_succ])
          refine wpG_take 18 15 (v := ?_) rfl (by kernel_rfl) (fun _ _ _ h => h) (Or.inl ⟨by rfl, ?_⟩) (by assumption) ?_
          rotate_left
          · intro w hSw; (try dsimp only at hSw); go_simp; (try with_reducible rfl)
          (try simp only [Act.put, List.getElem_toArray, List.getElem_cons_zero, List.getElem_cons_succ, List.setIfInBounds_toArray, List.set_cons_zero, List.set_cons_succ])
          refine wpG_take 18 16 (v := ?_) rfl (by kernel_rfl) (fun _ _ _ h => h) (Or.inl ⟨by rfl, ?_⟩) (by assumption) ?_
          rotate_left
          · intro w hSw; (try dsimp only at hSw); go_simp; (try with_reducible rfl)
          (try simp only [Act.put, List.getElem_toArray, List.getElem_cons_zero, List.getElem_cons_succ, List.setIfInBounds_toArray, List.set_cons_zero, List.set_cons_succ])
          have hbn := below_new w8 (Obj.cells #[Value.string ⟨#[113, 97]⟩, Value.int IntKind.i64 3, Value.int IntKind.i64 (g.W - g.q), Value.int IntKind.i64 0, Value.int IntKind.i64 g.q, Value.int IntKind.i64 (g.H - g.q), Value.string ⟨#[113, 100]⟩, Value.int IntKind.i64 4, Value.int IntKind.i64 0, Value.int IntKind.i64 (g.H - g.q), Value.int IntKind.i64 g.W, Value.int IntKind.i64 g.q] 60)
          have hb15 : Below w8.heap.size w8 ((w8.alloc (Obj.cells #[Value.string ⟨#[113, 97]⟩, Value.int IntKind.i64 3, Value.int IntKind.i64 (g.W - g.q), Value.int IntKind.i64 0, Value.int IntKind.i64 g.q, Value.int IntKind.i64 (g.H - g.q), Value.string ⟨#[113, 100]⟩, Value.int IntKind.i64 4, Value.int IntKind.i64 0, Value.int IntKind.i64 (g.H - g.q), Value.int IntKind.i64 g.W, Value.int IntKind.i64 g.q] 60)).drew) := ⟨hbn.os, hbn.tape, hbn.output, hbn.size, hbn.block⟩
          have hL15 : LS ((w8.alloc (Obj.cells #[Value.string ⟨#[113, 97]⟩, Value.int IntKind.i64 3, Value.int IntKind.i64 (g.W - g.q), Value.int IntKind.i64 0, Value.int IntKind.i64 g.q, Value.int IntKind.i64 (g.H - g.q), Value.string ⟨#[113, 100]⟩, Value.int IntKind.i64 4, Value.int IntKind.i64 0, Value.int IntKind.i64 (g.H - g.q), Value.int IntKind.i64 g.W, Value.int IntKind.i64 g.q] 60)).drew) lb (lb + 1) g.W g.H g.last v2 := HL2.out.below hb15
          have hG15 : Blk ((w8.alloc (Obj.cells #[Value.string ⟨#[113, 97]⟩, Value.int IntKind.i64 3, Value.int IntKind.i64 (g.W - g.q), Value.int IntKind.i64 0, Value.int IntKind.i64 g.q, Value.int IntKind.i64 (g.H - g.q), Value.string ⟨#[113, 100]⟩, Value.int IntKind.i64 4, Value.int IntKind.i64 0, Value.int IntKind.i64 (g.H - g.q), Value.int IntKind.i64 g.W, Value.int IntKind.i64 g.q] 60)).drew) w.heap.size 24 _ := Blk.below (w := w8) HG8.out hb15 HG8.out.lt
          have hR15 : Blk ((w8.alloc (Obj.cells #[Value.string ⟨#[113, 97]⟩, Value.int IntKind.i64 3, Value.int IntKind.i64 (g.W - g.q), Value.int IntKind.i64 0, Value.int IntKind.i64 g.q, Value.int IntKind.i64 (g.H - g.q), Value.string ⟨#[113, 100]⟩, Value.int IntKind.i64 4, Value.int IntKind.i64 0, Value.int IntKind.i64 (g.H - g.q), Value.int IntKind.i64 g.W, Value.int IntKind.i64 g.q] 60)).drew) (w.heap.size + 1) 28 _ := Blk.below (w := w8) HR8.out hb15 HR8.out.lt
          have n15 : (((w8.alloc (Obj.cells #[Value.string ⟨#[113, 97]⟩, Value.int IntKind.i64 3, Value.int IntKind.i64 (g.W - g.q), Value.int IntKind.i64 0, Value.int IntKind.i64 g.q, Value.int IntKind.i64 (g.H - g.q), Value.string ⟨#[113, 100]⟩, Value.int IntKind.i64 4, Value.int IntKind.i64 0, Value.int IntKind.i64 (g.H - g.q), Value.int IntKind.i64 g.W, Value.int IntKind.i64 g.q] 60)).drew).cell? ⟨lb, 2, none⟩ = some v2 ∧ ((w8.alloc (Obj.cells #[Value.string ⟨#[113, 97]⟩, Value.int IntKind.i64 3, Value.int IntKind.i64 (g.W - g.q), Value.int IntKind.i64 0, Value.int IntKind.i64 g.q, Value.int IntKind.i64 (g.H - g.q), Value.string ⟨#[113, 100]⟩, Value.int IntKind.i64 4, Value.int IntKind.i64 0, Value.int IntKind.i64 (g.H - g.q), Value.int IntKind.i64 g.W, Value.int IntKind.i64 g.q] 60)).drew).cell? ⟨w.heap.size, 0, none⟩ = some (.int .i64 g.W) ∧ ((w8.alloc (Obj.cells #[Value.string ⟨#[113, 97]⟩, Value.int IntKind.i64 3, Value.int IntKind.i64 (g.W - g.q), Value.int IntKind.i64 0, Value.int IntKind.i64 g.q, Value.int IntKind.i64 (g.H - g.q), Value.string ⟨#[113, 100]⟩, Value.int IntKind.i64 4, Value.int IntKind.i64 0, Value.int IntKind.i64 (g.H - g.q), Value.int IntKind.i64 g.W, Value.int IntKind.i64 g.q] 60)).drew).cell? ⟨w.heap.size, 6, none⟩ = some (.int .i64 g.q)) := ⟨hL15.blk.cell 2, hG15.cell 0, hG15.cell 6⟩
          refine wpG_one (i := 17) (by kernel_rfl) ?_
          refine wpOp_step rfl (fun K hK => ?_)
          go_simp
          refine hK _ _ ⟨n15, ?_⟩
          clear hK K
          (try simp only [Act.put, List.getElem_toArray, List.getElem_cons_zero, List.getElem_cons_succ, List.setIfInBounds_toArray, List.set_cons_zero, List.set_cons_succ])
          have hnews : ∀ j u, ([Value.string ⟨#[113, 97]⟩, Value.int IntKind.i64 3, Value.int IntKind.i64 (g.W - g.q), Value.int IntKind.i64 0, Value.int IntKind.i64 g.q, Value.int IntKind.i64 (g.H - g.q), Value.string ⟨#[113, 100]⟩, Value.int IntKind.i64 4, Value.int IntKind.i64 0, Value.int IntKind.i64 (g.H - g.q), Value.int IntKind.i64 g.W, Value.int IntKind.i64 g.q] : List Value)[j]? = some u → ((w8.alloc (Obj.cells #[Value.string ⟨#[113, 97]⟩, Value.int IntKind.i64 3, Value.int IntKind.i64 (g.W - g.q), Value.int IntKind.i64 0, Value.int IntKind.i64 g.q, Value.int IntKind.i64 (g.H - g.q), Value.string ⟨#[113, 100]⟩, Value.int IntKind.i64 4, Value.int IntKind.i64 0, Value.int IntKind.i64 (g.H - g.q), Value.int IntKind.i64 g.W, Value.int IntKind.i64 g.q] 60)).drew).cell? ((⟨w8.heap.size, 0, none⟩ : Addr).add j) = some u := World.news_of_block (w := (w8.alloc (Obj.cells #[Value.string ⟨#[113, 97]⟩, Value.int IntKind.i64 3, Value.int IntKind.i64 (g.W - g.q), Value.int IntKind.i64 0, Value.int IntKind.i64 g.q, Value.int IntKind.i64 (g.H - g.q), Value.string ⟨#[113, 100]⟩, Value.int IntKind.i64 4, Value.int IntKind.i64 0, Value.int IntKind.i64 (g.H - g.q), Value.int IntKind.i64 g.W, Value.int IntKind.i64 g.q] 60)).drew) (heap_alloc_new w8 _)
          have HB15 := Lib.hid (HB8.out.trans (hb15.mono HB8.out.size))
          have HL15 := Lib.hid hL15
          have HR15 := Lib.hid hR15
          have HNW := Lib.hid hnews
          have hsz15 : ((w8.alloc (Obj.cells #[Value.string ⟨#[113, 97]⟩, Value.int IntKind.i64 3, Value.int IntKind.i64 (g.W - g.q), Value.int IntKind.i64 0, Value.int IntKind.i64 g.q, Value.int IntKind.i64 (g.H - g.q), Value.string ⟨#[113, 100]⟩, Value.int IntKind.i64 4, Value.int IntKind.i64 0, Value.int IntKind.i64 (g.H - g.q), Value.int IntKind.i64 g.W, Value.int IntKind.i64 g.q] 60)).drew).heap.size = w8.heap.size + 1 := by simp
          clear hbn hb15 hL15 hG15 hR15 n15 hnews hS0
          generalize (w8.alloc (Obj.cells #[Value.string ⟨#[113, 97]⟩, Value.int IntKind.i64 3, Value.int IntKind.i64 (g.W - g.q), Value.int IntKind.i64 0, Value.int IntKind.i64 g.q, Value.int IntKind.i64 (g.H - g.q), Value.string ⟨#[113, 100]⟩, Value.int IntKind.i64 4, Value.int IntKind.i64 0, Value.int IntKind.i64 (g.H - g.q), Value.int IntKind.i64 g.W, Value.int IntKind.i64 g.q] 60)).drew = W15 at *
          generalize hwz : w8.heap.size = tb at *
          refine ⟨by kernel_rfl, ?_⟩
          simp only [List.drop_succ_cons, List.drop_zero]
          have hr0 := HR15.out.cell 0
          have hr1 := HR15.out.cell 1
          have hr2 := HR15.out.cell 2
          go_wp2_with ((at_builtin
                        go_loud (refine wpList_append_lies _ rfl (.tmp 101) (.tmp 113) 26 (by rfl) (lb + 1) 60 i1' _ 6 56 Tryd.underlying26 hi1 hi1z hi1s hi1b rfl (by omega) v2 g.last.ps.length _ (by rfl) HL15.out.row ⟨tb, 0, none⟩ 2 2 [Value.string ⟨#[113, 97]⟩, Value.int IntKind.i64 3, Value.int IntKind.i64 (g.W - g.q), Value.int IntKind.i64 0, Value.int IntKind.i64 g.q, Value.int IntKind.i64 (g.H - g.q), Value.string ⟨#[113, 100]⟩, Value.int IntKind.i64 4, Value.int IntKind.i64 0, Value.int IntKind.i64 (g.H - g.q), Value.int IntKind.i64 g.W, Value.int IntKind.i64 g.q] (by rfl) (by rfl) HNW.out (by simp [Value.oneCell']) (by omega) (by have := HBL.out; simp only [maxLen]; omega) (by have := HBL.out; omega) HL15.out.hi _ rfl ?_)
                        intro g16 cap16 w16 hown16 hg16 hat16 hlt16
                        have hne : v2.ownBlock ≠ some lb := fun e => by have := (HL15.out.row.lt lb e).1; omega
                        have hne2 : v2.ownBlock ≠ some (w.heap.size + 1) := fun e => by have := (HL15.out.row.lt _ e).1; omega
                        have hB16 := HL15.out.blk.grown hg16 (fun e => hne e.symm)
                        have hR16 := HR15.out.grown hg16 (fun e => hne2 e.symm)
                        have k0 := hB16.cell 0
                        have k1 := hB16.cell 1
                        have k2 := hB16.cell 2
                        have k2f := hB16.frozen 2
                        have r0 := hR16.cell 0
                        have r1 := hR16.cell 1
                        have r2 := hR16.cell 2
                        have r0f := hR16.frozen 0
                        have r1f := hR16.frozen 1
                        have r2f := hR16.frozen 2
                        have hrlt := hR16.lt
                        have hllt := hB16.lt
                        have hlbr : lb ≠ w.heap.size + 1 := by omega
                        have HO16 := Lib.hid hown16
                        have HB16 := Lib.hid (HB15.out.grown hg16 HB15.out.size (fun t ht => by have := (HL15.out.row.lt t ht).1; omega))
                        clear hown16 hg16 hat16 hB16 hR16 hne hne2 hr0 hr1 hr2))
          have hO1 := own_far (i := 2) (own_far (i := 1) (own_far (i := 0) (own_far (i := 2) HO16.out (show lb < lb + 1 by omega) (.slice (some ⟨g16, 0, none⟩) (g.last.ps.length + 2) cap16)) (show w.heap.size + 1 < lb + 1 by omega) (.int .i64 g.W)) (show w.heap.size + 1 < lb + 1 by omega) (.int .i64 g.H)) (show w.heap.size + 1 < lb + 1 by omega) (.slice (some ⟨g16, 0, none⟩) (g.last.ps.length + 2) cap16)
          have hal : g.all.length = g.last.ps.length + 2 := by simp [Grid.all]
          have hpc : pcells g.all = pcells g.last.ps ++ [Value.string ⟨#[113, 97]⟩, Value.int IntKind.i64 3, Value.int IntKind.i64 (g.W - g.q), Value.int IntKind.i64 0, Value.int IntKind.i64 g.q, Value.int IntKind.i64 (g.H - g.q), Value.string ⟨#[113, 100]⟩, Value.int IntKind.i64 4, Value.int IntKind.i64 0, Value.int IntKind.i64 (g.H - g.q), Value.int IntKind.i64 g.W, Value.int IntKind.i64 g.q] := by rw [Grid.all, pcells_append]; rfl
          rw [← hpc, ← hal] at hO1
          have HPV := Lib.hid (psV_own hO1)
          have HBF := Lib.hid ((((HB16.out.setCell (p := ⟨lb, 2, none⟩) (show w.heap.size ≤ lb by omega) (.slice (some ⟨g16, 0, none⟩) (g.last.ps.length + 2) cap16)).setCell (p := ⟨w.heap.size + 1, 0, none⟩) (Nat.le_succ _) (.int .i64 g.W)).setCell (p := ⟨w.heap.size + 1, 1, none⟩) (Nat.le_succ _) (.int .i64 g.H)).setCell (p := ⟨w.heap.size + 1, 2, none⟩) (Nat.le_succ _) (.slice (some ⟨g16, 0, none⟩) (g.last.ps.length + 2) cap16))
          rw [hal] at HPV
          clear hO1 hpc
          exact bodyPost_ret (v := .tuple #[.agg #[.int .i64 g.W, .int .i64 g.H, .slice (some ⟨g16, 0, none⟩) (g.last.ps.length + 2) cap16], .int .i64 0]) (by simp [results, Tryd.results5, go_sem, r0, r1, r2, k0, k1, k2, hrlt, hllt, hlbr]) rfl (.inr (.inr ⟨HCK.out, by have := HBG.out; omega, _, rfl, HPV.out, HBF.out⟩))
  · have hsb := bne_t hck
    have HCK := Lib.hid hck
    have R1 := HR3.out
    have s0 : w2.cell? ⟨w.heap.size + 1, 0, none⟩ = some (.int .i64 0) := R1.cell 0
    have s1 : w2.cell? ⟨w.heap.size + 1, 1, none⟩ = some (.int .i64 0) := R1.cell 1
    have s2 : w2.cell? ⟨w.heap.size + 1, 2, none⟩ = some (.slice none 0 0) := R1.cell 2
    have t0 := R1.frozen 0
    have t1 := R1.frozen 1
    have t2 := R1.frozen 2
    have hzr := R1.lt
    have HP : Hid (∀ w', Below w.heap.size w w' → LayPost w g (.returned (.tuple #[.agg #[.int .i64 0, .int .i64 0, .slice none 0 0], .int .i64 g.check])) w') := (show ∀ w', _ from fun w' hw => .inl ⟨HCK.out, rfl, hw⟩)
    generalize g.check = ck at *
    clear hck R1
    go_wp2_with fail
    exact bodyPost_ret (v := .tuple #[.agg #[.int .i64 0, .int .i64 0, .slice none 0 0], .int .i64 ck]) (by simp [results, Tryd.results5, go_sem, s0, s1, s2, hzr]) rfl (HP.out _ (((HB3.out.setCell (by simp) _).setCell (by simp) _).setCell (by simp) _))
end Go.Proofs.YtlfeoofchebbkaaDoor
