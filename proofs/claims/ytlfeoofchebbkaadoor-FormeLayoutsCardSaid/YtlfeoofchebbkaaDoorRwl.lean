/- (*layout).row: a row of pages and gaps. -/
import Derived.Test.YtlfeoofchebbkaaDoorFil
namespace Go.Proofs.YtlfeoofchebbkaaDoor
set_option linter.unusedSimpArgs false
set_option linter.unusedVariables false
open Go.RowKit
/-- Bounds of what is laid. -/
structure LBd (s : Lay) (a b : Nat) : Prop where
  np : s.np ≤ a
  nf : s.nf ≤ b
  len : s.ps.length ≤ a + b
theorem LBd.fill {s : Lay} {a b : Nat} (h : LBd s a b) (x y w q : Int) : LBd (s.fill x y w q) a (b + 1) := by
  unfold Lay.fill
  have := h.np
  have := h.nf
  have := h.len
  split
  · exact ⟨by assumption, by simp only; omega, by simp only [List.length_append, List.length_singleton]; omega⟩
  · exact ⟨by assumption, by omega, by omega⟩
theorem LBd.page {s : Lay} {a b : Nat} (h : LBd s a b) (x y w q : Int) : LBd (s.page x y w q) (a + 1) b := by
  unfold Lay.page
  have := h.np
  have := h.nf
  have := h.len
  exact ⟨by simp only; omega, by assumption, by simp only [List.length_append, List.length_singleton]; omega⟩
theorem LBd.cells {g : Grid} {s : Lay} {a b : Nat} (h : LBd s a b) (y q : Int) : ∀ k, LBd (g.cells s y q k) (a + k) (b + k)
  | 0 => h
  | k + 1 => by
    have := ((LBd.cells (g := g) h y q k).fill (g.xAt k) y (gz g.acr k) q).page (g.xAt k + gz g.acr k) y (gz g.cols k) q
    exact this
theorem LBd.row {g : Grid} {s : Lay} {a b : Nat} (h : LBd s a b) (y q : Int) : LBd (g.row s y q) (a + g.cols.length) (b + g.cols.length + 1) := (LBd.cells h y q _).fill _ _ _ _
theorem LS.below {W W' : World} {lb base : Nat} {gW gH : Int} {s : Lay} {v : Value} (h : LS W lb base gW gH s v) (hb : Below W.heap.size W W') : LS W' lb base gW gH s v :=
  ⟨h.blk.below hb h.blk.lt, h.row.kept (row := none) ⟨hb.os, hb.tape, hb.output, hb.size, fun q hq _ => hb.block q hq⟩ (Classical.em _), h.lo, Nat.le_trans h.hi hb.size⟩
set_option maxRecDepth 100000 in
set_option maxHeartbeats 4000000 in
theorem row_any (g : Grid) (hg : g.Good) (A1 A2 A3 A4 : Option Addr) (b1 o1 c1 b2 o2 c2 b3 o3 c3 b4 o4 c4 : Nat) (lb base : Nat) (gW gH : Int) (s : Lay) (v : Value) (y hh : Int) (w0 w : World) (h : LS w lb base gW gH s v)
    (hga : GA w0 g A1 A2 A3 A4 b1 o1 c1 b2 o2 c2 b3 o3 c3 b4 o4 c4) (hbw : Below w0.heap.size w0 w) (hlb : w0.heap.size ≤ lb) (hs : LBd s 80 80) (hn : g.cols.length ≤ 10) :
    Calls Tryd.prog 19 #[.pointer (some ⟨lb, 0, none⟩), .agg #[.int .i64 g.W, .int .i64 g.H, .slice A1 g.cols.length c1, .slice A2 g.rows.length c2, .slice A3 g.acr.length c3, .slice A4 g.dwn.length c4, .int .i64 g.q], .int .i64 y, .int .i64 hh] w fun e w' =>
      e = .returned (.tuple #[]) ∧ ∃ v', LS w' lb base gW gH (g.row s y hh) v' ∧ FrL w w' lb v v' := by
  have hB := below_new w (Obj.cells #[Value.int IntKind.i64 g.W, Value.int IntKind.i64 g.H, Value.slice A1 g.cols.length c1, Value.slice A2 g.rows.length c2, Value.slice A3 g.acr.length c3, Value.slice A4 g.dwn.length c4, Value.int IntKind.i64 g.q] 24)
  have hK := Blk.new w 24 #[Value.int IntKind.i64 g.W, Value.int IntKind.i64 g.H, Value.slice A1 g.cols.length c1, Value.slice A2 g.rows.length c2, Value.slice A3 g.acr.length c3, Value.slice A4 g.dwn.length c4, Value.int IntKind.i64 g.q]
  have HLS0 := Lib.hid (h.below hB)
  have HB0 := Lib.hid (hbw.trans (hB.mono hbw.size))
  have hbz : base ≤ w.heap.size := h.hi
  have hlo : lb < base := h.lo
  have HOW : Hid (∀ k, v.ownBlock = some k → base ≤ k ∧ k < w.heap.size) := (show ∀ k, _ from fun k hk => ⟨(h.row.lt k hk).1, (h.row.lt k hk).2⟩)
  have HFF : Hid (FrL w (w.alloc (Obj.cells #[Value.int IntKind.i64 g.W, Value.int IntKind.i64 g.H, Value.slice A1 g.cols.length c1, Value.slice A2 g.rows.length c2, Value.slice A3 g.acr.length c3, Value.slice A4 g.dwn.length c4, Value.int IntKind.i64 g.q] 24)) lb v v) := ⟨hB.os, hB.tape, hB.output, hB.size, fun k hk _ _ => hB.block k hk, .inl rfl⟩
  have HGA : Hid (∀ W, Below w0.heap.size w0 W → GA W g A1 A2 A3 A4 b1 o1 c1 b2 o2 c2 b3 o3 c3 b4 o4 c4) := (show ∀ W, _ from fun W hW => hga.below hW)
  have HX : Hid (∀ k, k < g.cols.length → (0 ≤ g.xAt k ∧ g.xAt k ≤ 4000) ∧ (0 ≤ gz g.acr k ∧ gz g.acr k ≤ 4000) ∧ (1 ≤ gz g.cols k ∧ gz g.cols k ≤ 4000)) := (show ∀ k, _ from fun k hk => by
    have h1 := hg.x0 k (by omega)
    have h2 := hg.xle (g.cols.length - k) k (by omega)
    have h3 := hg.ra k (by omega)
    have h4 := hg.rc k hk
    have h5 := hg.w2
    have h6 := hg.q1
    unfold Grid.right at h2
    omega)
  have HXS : Hid (∀ k, g.xAt (k + 1) = g.xAt k + (gz g.acr k + gz g.cols k)) := (show ∀ k, _ from fun k => rfl)
  have HCS : Hid (∀ k, g.cells s y hh (k + 1) = ((g.cells s y hh k).fill (g.xAt k) y (gz g.acr k) hh).page (g.xAt k + gz g.acr k) y (gz g.cols k) hh) := (show ∀ k, _ from fun k => rfl)
  have HRW : Hid (g.row s y hh = (g.cells s y hh g.cols.length).fill (g.xAt g.cols.length) y (gz g.acr g.cols.length) hh) := rfl
  have HBD : Hid (∀ k, LBd (g.cells s y hh k) (80 + k) (80 + k)) := (show ∀ k, _ from fun k => LBd.cells hs y hh k)
  have HLA := Lib.hid hg.la
  have HX0 : Hid (g.xAt 0 = 0 ∧ g.cells s y hh 0 = s) := (show _ ∧ _ from ⟨rfl, rfl⟩)
  clear hga hbw h hs hg hB
  go_enter Tryd.func19, Tryd.ntmps19
  go_wp2_with fail
  generalize w.alloc (Obj.cells #[Value.int IntKind.i64 g.W, Value.int IntKind.i64 g.H, Value.slice A1 g.cols.length c1, Value.slice A2 g.rows.length c2, Value.slice A3 g.acr.length c3, Value.slice A4 g.dwn.length c4, Value.int IntKind.i64 g.q] 24) = W0 at *
  have HK := Lib.hid hK
  clear hK
  generalize hrb : w.heap.size = rb at *
  have HRB := Lib.hid hrb
  clear hrb
  go_loopg [8, 14] g.cols.length (fun gg s8 s14 wr => ∃ (k : Nat) (v1 : Value), k ≤ g.cols.length ∧ g.cols.length - k ≤ gg ∧ s14 = .int .i64 k ∧ s8 = .int .i64 (g.xAt k) ∧ Hid (LS wr lb base gW gH (g.cells s y hh k) v1) ∧ Hid (FrL W0 wr lb v v1))
  case atStart => exact ⟨0, v, Nat.zero_le _, by omega, rfl, by rw [HX0.out.1], by show LS _ _ _ _ _ _ _; rw [HX0.out.2]; exact HLS0.out, FrL.refl _ _ _⟩
  case round =>
    obtain ⟨k, v1, hk, hgk, rfl, rfl, L1, F1⟩ := hrel
    have hne1 : v.ownBlock ≠ some rb := fun e => by have := (HOW.out rb e).2; omega
    have hKr := F1.out.blk HK.out (by omega) hne1
    have hbr : Below w0.heap.size w0 wr := HB0.out.trans (F1.out.below (base := base) HB0.out.size hlb (fun k hk => by have := (HOW.out k hk).1; omega))
    have HGr := Lib.hid (HGA.out wr hbr)
    have x2 : wr.cell? ⟨rb, 2, none⟩ = some (.slice A1 g.cols.length c1) := hKr.cell 2
    have x4 : wr.cell? ⟨rb, 4, none⟩ = some (.slice A3 g.acr.length c3) := hKr.cell 4
    have hlaz : (g.acr.length : Int) = (g.cols.length : Int) + 1 := by have := HLA.out; omega
    have HBR := Lib.hid hbr
    clear hbr
    by_cases hlt : k < g.cols.length
    · have hltz : (k : Int) < (g.cols.length : Int) := by omega
      have hk0 : (0 : Int) ≤ (k : Int) := by omega
      have hkz : (k : Int) < (g.acr.length : Int) := by omega
      obtain ⟨rfl, hb1⟩ := HGr.out.l1 (by omega)
      obtain ⟨rfl, hb3⟩ := HGr.out.l3 (by have := HLA.out; omega)
      have y1 : wr.cell? ⟨b1, o1 + k, none⟩ = some (.int .i64 (gz g.cols k)) := HGr.out.z1 k hlt
      have y3 : wr.cell? ⟨b3, o3 + k, none⟩ = some (.int .i64 (gz g.acr k)) := HGr.out.z3 k (by have := HLA.out; omega)
      obtain ⟨z1, z2, z3⟩ := HX.out k hlt
      have HXk := Lib.hid (HXS.out k)
      have HCk := Lib.hid (HCS.out k)
      have hbd := HBD.out k
      have hfill := fill_any lb base gW gH (g.cells s y hh k) v1 (g.xAt k) y (gz g.acr k) hh wr L1.out (by have := hbd.len; omega) (by have := hbd.nf; omega)
      have hbd2 := hbd.fill (g.xAt k) y (gz g.acr k) hh
      have hpage := fun v2 W (hL : LS W lb base gW gH ((g.cells s y hh k).fill (g.xAt k) y (gz g.acr k) hh) v2) => page_any lb base gW gH _ v2 (g.xAt k + gz g.acr k) y (gz g.cols k) hh W hL (by have := hbd2.len; omega) (by have := hbd2.np; omega)
      have HPG := Lib.hid hpage
      clear hpage hbd hbd2
      have HGW : Hid (∀ W, FrL wr W lb v1 v1 → True) := (show ∀ W, _ from fun _ _ => trivial)
      have HST : Hid (∀ W v2, FrL wr W lb v1 v2 → W.cell? ⟨rb, 4, none⟩ = some (.slice (some ⟨b3, o3, none⟩) g.acr.length c3) ∧ W.cell? ⟨b3, o3 + k, none⟩ = some (.int .i64 (gz g.acr k))) := (show ∀ W v2, _ from fun W v2 hF => by
        have hF2 := F1.out.trans hF
        have hK2 := hF2.blk HK.out (by omega) hne1
        have hb2 : Below w0.heap.size w0 W := HB0.out.trans (hF2.below (base := base) HB0.out.size hlb (fun k hk => by have := (HOW.out k hk).1; omega))
        exact ⟨hK2.cell 4, (HGA.out W hb2).z3 k (by have := HLA.out; omega)⟩)
      generalize hxk : g.xAt k = xk at *
      generalize gz g.acr k = ak at *
      generalize gz g.cols k = ck at *
      have e1 : IntKind.i64.wrap (xk + ak) = xk + ak := IntWalk.i64_in _ (by omega)
      have e2 : IntKind.i64.wrap (ak + ck) = ak + ck := IntWalk.i64_in _ (by omega)
      have e3 : IntKind.i64.wrap (xk + (ak + ck)) = xk + (ak + ck) := IntWalk.i64_in _ (by omega)
      have HXK := Lib.hid hxk
      clear hKr HGr HGW hxk
      go_wp2_with fail
      refine hfill.mono ?_
      rintro e w1 ⟨rfl, v2, hL2, hF2⟩
      obtain ⟨x4', y3'⟩ := HST.out w1 v2 hF2
      have hpg := HPG.out v2 w1 hL2
      have HF2 := Lib.hid hF2
      clear hfill hL2 hF2 x2 x4 y1 y3 HPG
      go_wp2_with fail
      refine hpg.mono ?_
      rintro e w2 ⟨rfl, v3, hL3, hF3⟩
      have HF3 := Lib.hid (HF2.out.trans hF3)
      obtain ⟨x4, y3⟩ := HST.out w2 v3 HF3.out
      have HL3 := Lib.hid hL3
      clear hpg hL3 hF3 x4' y3' HF2
      go_wp2_with fail
      go_roundg (g.cols.length - (k + 1))
      case measure => omega
      case rel =>
        refine ⟨k + 1, v3, by omega, by omega, by go_num, by rw [HXk.out], ?_, F1.out.trans HF3.out⟩
        show LS _ _ _ _ _ _ _
        rw [HCk.out]; exact HL3.out
    · have hltz : ¬ (k : Int) < (g.cols.length : Int) := by omega
      have he : k = g.cols.length := by omega
      subst he
      obtain ⟨rfl, hb3⟩ := HGr.out.l3 (by have := HLA.out; omega)
      have y3 : wr.cell? ⟨b3, o3 + g.cols.length, none⟩ = some (.int .i64 (gz g.acr g.cols.length)) := HGr.out.z3 _ (by have := HLA.out; omega)
      have hbd := HBD.out g.cols.length
      have hfill := fill_any lb base gW gH (g.cells s y hh g.cols.length) v1 (g.xAt g.cols.length) y (gz g.acr g.cols.length) hh wr L1.out (by have := hbd.len; omega) (by have := hbd.nf; omega)
      have hk0 : (0 : Int) ≤ (g.cols.length : Int) := by omega
      have hkz : (g.cols.length : Int) < (g.acr.length : Int) := by omega
      clear hbd hKr HGr
      go_wp2_with fail
      refine hfill.mono ?_
      rintro e w1 ⟨rfl, v2, hL2, hF2⟩
      have HL2 := Lib.hid hL2
      have HF2 := Lib.hid hF2
      clear hfill hL2 hF2 x2 x4 y3
      go_wp2_with fail
      go_end0
      refine ⟨rfl, v2, ?_, HFF.out.trans (F1.out.trans HF2.out)⟩
      rw [HRW.out]; exact HL2.out
end Go.Proofs.YtlfeoofchebbkaaDoor
