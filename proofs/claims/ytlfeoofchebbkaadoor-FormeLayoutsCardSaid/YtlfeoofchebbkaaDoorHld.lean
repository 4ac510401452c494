/- Held: how pieces are held. -/
import Derived.Test.YtlfeoofchebbkaaDoorLad
namespace Go.Proofs.YtlfeoofchebbkaaDoor
set_option linter.unusedSimpArgs false
set_option linter.unusedVariables false
open Go.RowKit
def heldA (f : Forme) (r : Real) (j : Nat) : Int := if (across f r.ws).thr j = 60 * f.W then 1 else 0
def heldD (f : Forme) (r : Real) (j : Nat) : Int := if (down f r.hs).thr j = 60 * f.H then 2 else 0
def HeldPost (w : World) (f : Forme) (r : Real) (e : Ending) (w' : World) : Prop :=
  ((checkR f r).2 ≠ 0 ∧ e = .returned (.tuple #[.slice none 0 0, .int .i64 (checkR f r).2]) ∧ Below w.heap.size w w') ∨
  ((checkR f r).2 = 0 ∧ ∃ g, e = .returned (.tuple #[.slice (some ⟨g, 0, none⟩) f.ps.length f.ps.length, .int .i64 0]) ∧ w.heap.size ≤ g ∧ w'.rowIs g 3 f.ps.length (fun j => .int .i64 (heldA f r j + heldD f r j)) ∧ Below w.heap.size w w')
theorem checkR_zero {f : Forme} {r : Real} (h : (checkR f r).2 = 0) : Okay f r ∧ (across f r.ws).maxT ≤ 60 * f.W ∧ (down f r.hs).maxT ≤ 60 * f.H := by
  unfold checkR at h
  by_cases h1 : (shapedF f r).2 ≠ 0
  · rw [if_pos h1] at h; exact absurd h h1
  · rw [if_neg h1] at h
    by_cases h2 : (across f r.ws).maxT ≤ 60 * f.W ∧ (down f r.hs).maxT ≤ 60 * f.H
    · exact ⟨shaped_zero (by omega), h2⟩
    · rw [if_neg h2] at h; cases h
theorem own_base {w : World} {base : Nat} {e : TypeId} {size n : Nat} {A : Option Addr} {c b : Nat} {xs : List Value} (h : w.ownsRow base e size (.slice A n c) n xs) (hl : Lies A n w.heap.size b 0) (hn : 0 < n) : base ≤ b := by
  obtain ⟨rfl, _⟩ := hl hn
  exact (h.lt b rfl).1
theorem heldA_01 (f : Forme) (r : Real) (j : Nat) : heldA f r j = 0 ∨ heldA f r j = 1 := by unfold heldA; split <;> simp
/-- across and down, with where the new blocks lie. -/
def DirPost' (w : World) (D : Dir) (bz oz : Nat) (e : Ending) (w' : World) : Prop :=
  ∃ (dg : Nat) (Aa Ab Az : Option Addr) (ca cb cz ba oa bb ob : Nat), e = .returned (.pointer (some ⟨dg, 0, none⟩)) ∧ DAt w' w'.heap.size dg D Aa Ab Az ca cb cz ba oa bb ob bz oz ∧ Below w.heap.size w w' ∧
    w.heap.size ≤ dg ∧ (0 < D.n → w.heap.size ≤ ba ∧ w.heap.size ≤ bb)
theorem dat_of' {w w' : World} {dg n : Nat} {l m : List (Int × Int)} {va vb : Value} {Az : Option Addr} {cz bz oz : Nat} {zs : List Int} {side : Int} (hD : Blk w' dg 86 #[va, vb, .slice Az n cz, .int .i64 side])
    (h1 : w'.ownsRow w.heap.size 88 2 va n (prs l)) (h2 : w'.ownsRow w.heap.size 88 2 vb n (prs m)) (hl : l.length = n) (hm : m.length = n) (hz : zs.length = n) (lz : Lies Az n w'.heap.size bz oz) (pz : ZsAt w' bz oz zs) :
    ∃ (Aa Ab : Option Addr) (ca cb ba bb : Nat), DAt w' w'.heap.size dg { al := l, be := m, sz := zs, side := side } Aa Ab Az ca cb cz ba 0 bb 0 bz oz ∧ (0 < n → w.heap.size ≤ ba ∧ w.heap.size ≤ bb) := by
  obtain ⟨Aa, ca, ba, rfl, la, pa⟩ := own_form h1
  obtain ⟨Ab, cb, bb, rfl, lb, pb⟩ := own_form h2
  subst hz
  refine ⟨Aa, Ab, ca, cb, ba, bb, ⟨hD.lt, hD.cell 0, hD.cell 1, hD.cell 2, hD.cell 3, la, lb, lz, fun i hi => ?_, fun i hi => ?_, fun i hi => ?_, fun i hi => ?_, fun i hi => pz i hi⟩, fun hn => ⟨own_base h1 la hn, own_base h2 lb hn⟩⟩
  · rw [Nat.zero_add]; exact pa _ _ (prs_get (by rw [hl]; exact hi)).1
  · rw [Nat.zero_add]; exact pa _ _ (prs_get (by rw [hl]; exact hi)).2
  · rw [Nat.zero_add]; exact pb _ _ (prs_get (by rw [hm]; exact hi)).1
  · rw [Nat.zero_add]; exact pb _ _ (prs_get (by rw [hm]; exact hi)).2
theorem across_dir' (f : Forme) (r : Real) (A A1 A2 A3 : Option Addr) (b off b1 o1 b2 o2 b3 o3 c c1 c2 c3 : Nat) (w : World) (h : FR w w.heap.size f r A A1 A2 A3 b off b1 o1 b2 o2 b3 o3) (hf : f.Right) (hw : r.ws.length = f.ps.length) :
    Calls Tryd.prog 28 #[.agg #[.int .i64 f.W, .int .i64 f.H, .slice A f.ps.length c], .agg #[.slice A1 r.ws.length c1, .slice A2 r.hs.length c2, .slice A3 r.ts.length c3]] w (DirPost' w (across f r.ws) b1 o1) := by
  have hfew := hf.few
  refine (across_any f A A1 A2 A3 b off c _ c1 _ c2 _ c3 w h.la h.ps (by omega) (fun i hi => by rw [gp_get hi]; exact hf.inn _ (List.getElem_mem hi)) hf.w2 hf.h2).mono ?_
  rintro e w' ⟨dg, va, vb, rfl, hg, hD, h1, h2, hb⟩
  rw [hw] at hD
  have hr' := h.rr.below hb
  obtain ⟨Aa, Ab, ca, cb, ba, bb, hd, hx⟩ := dat_of' (zs := r.ws) hD h1 h2 (by simp) (by simp) hw (by rw [← hw]; exact hr'.l1.mono hb.size) hr'.z1
  exact ⟨dg, Aa, Ab, A1, ca, cb, c1, ba, 0, bb, 0, rfl, hd, hb, hg, fun hn => hx (by rw [← hw]; exact hn)⟩
theorem down_dir' (f : Forme) (r : Real) (A A1 A2 A3 : Option Addr) (b off b1 o1 b2 o2 b3 o3 c c1 c2 c3 : Nat) (w : World) (h : FR w w.heap.size f r A A1 A2 A3 b off b1 o1 b2 o2 b3 o3) (hf : f.Right) (hw : r.hs.length = f.ps.length) :
    Calls Tryd.prog 29 #[.agg #[.int .i64 f.W, .int .i64 f.H, .slice A f.ps.length c], .agg #[.slice A1 r.ws.length c1, .slice A2 r.hs.length c2, .slice A3 r.ts.length c3]] w (DirPost' w (down f r.hs) b2 o2) := by
  have hfew := hf.few
  refine (down_any f A A1 A2 A3 b off c _ c1 _ c2 _ c3 w h.la h.ps (by omega) (fun i hi => by rw [gp_get hi]; exact hf.inn _ (List.getElem_mem hi)) hf.w2 hf.h2).mono ?_
  rintro e w' ⟨dg, va, vb, rfl, hg, hD, h1, h2, hb⟩
  rw [hw] at hD
  have hr' := h.rr.below hb
  obtain ⟨Aa, Ab, ca, cb, ba, bb, hd, hx⟩ := dat_of' (zs := r.hs) hD h1 h2 (by simp) (by simp) hw (by rw [← hw]; exact hr'.l2.mono hb.size) hr'.z2
  exact ⟨dg, Aa, Ab, A2, ca, cb, c2, ba, 0, bb, 0, rfl, hd, hb, hg, fun hn => hx (by rw [← hw]; exact hn)⟩
/-- A block that a direction does not lie in. -/
def Avoids (g dg n ba bb bz : Nat) : Prop := g ≠ dg ∧ (0 < n → g ≠ ba ∧ g ≠ bb ∧ g ≠ bz)
theorem DAt.avoid {w w' : World} {B g r : Nat} {D : Dir} {Aa Ab Az : Option Addr} {ca cb cz ba oa bb ob bz oz : Nat} (h : DAt w B g D Aa Ab Az ca cb cz ba oa bb ob bz oz) (hg : w.grownBy w' (some r)) (ha : Avoids r g D.n ba bb bz) (hB : B ≤ w.heap.size) :
    DAt w' B g D Aa Ab Az ca cb cz ba oa bb ob bz oz := by
  have key : ∀ b o, b < B → b ≠ r → w'.cell? ⟨b, o, none⟩ = w.cell? ⟨b, o, none⟩ := fun b o hb hne => World.cell?_of_block (a := ⟨b, o, none⟩) (hg.block b (by omega) (by simpa using hne))
  obtain ⟨h1, h2⟩ := ha
  exact { h with
    c0 := (key _ _ h.gB (Ne.symm h1)).trans h.c0, c1 := (key _ _ h.gB (Ne.symm h1)).trans h.c1, c2 := (key _ _ h.gB (Ne.symm h1)).trans h.c2, c3 := (key _ _ h.gB (Ne.symm h1)).trans h.c3
    pb := fun i hi => (key _ _ (h.la (by omega)).2 (Ne.symm (h2 (by omega)).1)).trans (h.pb i hi), pe := fun i hi => (key _ _ (h.la (by omega)).2 (Ne.symm (h2 (by omega)).1)).trans (h.pe i hi)
    pl := fun i hi => (key _ _ (h.lb (by omega)).2 (Ne.symm (h2 (by omega)).2.1)).trans (h.pl i hi), ph := fun i hi => (key _ _ (h.lb (by omega)).2 (Ne.symm (h2 (by omega)).2.1)).trans (h.ph i hi)
    pz := fun i hi => (key _ _ (h.lz (by omega)).2 (Ne.symm (h2 (by omega)).2.2)).trans (h.pz i hi) }
theorem DAt.up {w w' : World} {B B' g : Nat} {D : Dir} {Aa Ab Az : Option Addr} {ca cb cz ba oa bb ob bz oz : Nat} (h : DAt w B g D Aa Ab Az ca cb cz ba oa bb ob bz oz) (hb : Below B w w') (hB : B ≤ B') :
    DAt w' B' g D Aa Ab Az ca cb cz ba oa bb ob bz oz :=
  { h.keep (w' := w') (fun b o hbb => hb.cell (p := ⟨b, o, none⟩) hbb) with gB := Nat.lt_of_lt_of_le h.gB hB, la := h.la.mono hB, lb := h.lb.mono hB, lz := h.lz.mono hB }
set_option maxRecDepth 100000 in
set_option maxHeartbeats 4000000 in
theorem held_any (f : Forme) (r : Real) (A A1 A2 A3 : Option Addr) (b off b1 o1 b2 o2 b3 o3 c c1 c2 c3 : Nat) (w : World) (h : FR w w.heap.size f r A A1 A2 A3 b off b1 o1 b2 o2 b3 o3) (hnm : NameOk f.ps) (hc : f.ps.length ≤ c) (hm : f.ps.length ≤ 9223372036854775807)
    (hc1 : r.ws.length ≤ c1) (hc2 : r.hs.length ≤ c2) (hc3 : r.ts.length ≤ c3) :
    Calls Tryd.prog 10 #[.agg #[.int .i64 f.W, .int .i64 f.H, .slice A f.ps.length c], .agg #[.slice A1 r.ws.length c1, .slice A2 r.hs.length c2, .slice A3 r.ts.length c3]] w (HeldPost w f r) := by
  have H := Lib.hid h
  clear h
  go_enter Tryd.func10, Tryd.ntmps10
  go_wp2_with fail
  obtain ⟨B0, F0, T0, Z0⟩ := boxes w f (.slice A f.ps.length c) (.slice A1 r.ws.length c1) (.slice A2 r.hs.length c2) (.slice A3 r.ts.length c3)
  generalize (w.alloc (.cells #[.int .i64 f.W, .int .i64 f.H, .slice A f.ps.length c] 28)).alloc (.cells #[.slice A1 r.ws.length c1, .slice A2 r.hs.length c2, .slice A3 r.ts.length c3] 43) = W0 at *
  have hFR := (H.out.below B0).mono B0.size
  refine (checkReal_any f r A A1 A2 A3 b off b1 o1 b2 o2 b3 o3 c c1 c2 c3 W0 hFR hnm hc hm hc1 hc2 hc3).mono ?_
  rintro e w1 ⟨rfl, e1⟩
  have HB1 := Lib.hid (B0.trans (e1.mono B0.size))
  have HF1 := Lib.hid (F0.below e1 (by omega))
  have HT1 := Lib.hid (T0.below e1 (by omega))
  have hz1 : w.heap.size + 1 < w1.heap.size := by have := e1.size; omega
  clear B0 F0 T0 Z0 hFR e1
  by_cases hE : (checkR f r).2 = 0
  · obtain ⟨hok, hfa, hfd⟩ := checkR_zero hE
    have HOK := Lib.hid hok
    have h1 := bne_f hE
    have HE := Lib.hid hE
    clear hE hok hfa hfd
    generalize hsp : checkR f r = sp at *
    have HSP := Lib.hid hsp
    clear hsp
    obtain ⟨a0, a1, a2⟩ := HF1.out
    obtain ⟨d0, d1, d2⟩ := HT1.out
    have hfew := HOK.out.right.few
    have hmk := run_make_row' (P := Tryd.prog) 22 3 (.int .i64 0) 8 Tryd.underlying22 Tryd.info3 rfl .i64 .i64 f.ps.length (by omega) (by omega)
    go_wp2_with fail
    have HR2 := Lib.hid (World.rowIs_made w1 (.int .i64 0) f.ps.length 3)
    have HB2 := Lib.hid (HB1.out.alloc HB1.out.size (Obj.cells (madeCells #[Value.int IntKind.i64 0] f.ps.length) 3))
    have F2 := HF1.out.below (below_new w1 (Obj.cells (madeCells #[Value.int IntKind.i64 0] f.ps.length) 3)) (by omega)
    have T2 := HT1.out.below (below_new w1 (Obj.cells (madeCells #[Value.int IntKind.i64 0] f.ps.length) 3)) (by omega)
    have hg0 : w.heap.size ≤ w1.heap.size := by omega
    have hz2 : w.heap.size + 1 < (w1.alloc (Obj.cells (madeCells #[Value.int IntKind.i64 0] f.ps.length) 3)).heap.size := by simp; omega
    clear HF1 HT1 HB1 a0 a1 a2 d0 d1 d2 hmk h1
    generalize w1.alloc (Obj.cells (madeCells #[Value.int IntKind.i64 0] f.ps.length) 3) = W2 at *
    generalize w1.heap.size = g0 at *
    have HF2 := Lib.hid F2
    have HT2 := Lib.hid T2
    obtain ⟨a0, a1, a2⟩ := F2
    obtain ⟨d0, d1, d2⟩ := T2
    have hcA := fun (W : World) (hW : Below W2.heap.size W2 W) => across_dir' f r A A1 A2 A3 b off b1 o1 b2 o2 b3 o3 c c1 c2 c3 W ((H.out.below (HB2.out.trans (hW.mono HB2.out.size))).mono (Nat.le_trans HB2.out.size hW.size)) HOK.out.right HOK.out.ws.len
    have hcD := fun (W : World) (hW : Below W2.heap.size W2 W) => down_dir' f r A A1 A2 A3 b off b1 o1 b2 o2 b3 o3 c c1 c2 c3 W ((H.out.below (HB2.out.trans (hW.mono HB2.out.size))).mono (Nat.le_trans HB2.out.size hW.size)) HOK.out.right HOK.out.hs.len
    have HCA := Lib.hid hcA
    have HCD := Lib.hid hcD
    clear hcA hcD
    have hS0 : (W2.drew.cell? ⟨w.heap.size, 0, none⟩ = some (.int .i64 f.W) ∧ W2.drew.cell? ⟨w.heap.size, 1, none⟩ = some (.int .i64 f.H) ∧ W2.drew.cell? ⟨w.heap.size, 2, none⟩ = some (.slice A f.ps.length c) ∧ W2.drew.cell? ⟨w.heap.size + 1, 0, none⟩ = some (.slice A1 r.ws.length c1) ∧ W2.drew.cell? ⟨w.heap.size + 1, 1, none⟩ = some (.slice A2 r.hs.length c2) ∧ W2.drew.cell? ⟨w.heap.size + 1, 2, none⟩ = some (.slice A3 r.ts.length c3)) := ⟨a0, a1, a2, d0, d1, d2⟩
    go_region_held3 (fun W => (W.cell? ⟨w.heap.size, 0, none⟩ = some (.int .i64 f.W) ∧ W.cell? ⟨w.heap.size, 1, none⟩ = some (.int .i64 f.H) ∧ W.cell? ⟨w.heap.size, 2, none⟩ = some (.slice A f.ps.length c) ∧ W.cell? ⟨w.heap.size + 1, 0, none⟩ = some (.slice A1 r.ws.length c1) ∧ W.cell? ⟨w.heap.size + 1, 1, none⟩ = some (.slice A2 r.hs.length c2) ∧ W.cell? ⟨w.heap.size + 1, 2, none⟩ = some (.slice A3 r.ts.length c3)))
      (first
        | exact hS0
        | go_keep
        | (obtain ⟨x0, x1, x2⟩ := HF2.out.below (hb4 : Below W2.heap.size W2 _) (by omega); obtain ⟨y0, y1, y2⟩ := HT2.out.below hb4 (by omega); exact ⟨x0, x1, x2, y0, y1, y2⟩)
        | (obtain ⟨x0, x1, x2⟩ := HF2.out.below (hb5 : Below W2.heap.size W2 _) (by omega); obtain ⟨y0, y1, y2⟩ := HT2.out.below hb5 (by omega); exact ⟨x0, x1, x2, y0, y1, y2⟩))
      (first
        | (go_at_call 28; refine (HCA.out _ ((Below.refl _ _).drew)).mono ?_; rintro e w4 ⟨dg1, Aa, Ab, Az, ca, cb, cz, ba, oa, bb, ob, rfl, hD1, hb4', hx1, hy1⟩; have hb4 : Below W2.heap.size W2 w4 := ((Below.refl _ _).drew).trans hb4')
        | (go_at_call 29; refine (HCD.out _ hb4).mono ?_; rintro e w5 ⟨dg2, Ba, Bb, Bz, da, db, dz, ea, pa, eb, pb, rfl, hD2, hb5', hx2, hy2⟩; have hb5 : Below W2.heap.size W2 w5 := hb4.trans (hb5'.mono hb4.size)))
    have hn1 := across_n HOK.out.ws
    have hn2 := down_n HOK.out.hs
    have hl1 := (H.out.rr.l1)
    have hl2 := (H.out.rr.l2)
    have hg0' : g0 < W2.heap.size := HR2.out.lt
    have hs4 : W2.heap.size ≤ w4.heap.size := hb4'.size
    have hs5 : w4.heap.size ≤ w5.heap.size := hb5'.size
    have hp : 0 < f.ps.length := by have := (across_full HOK.out.w HOK.out.ws).some; omega
    have av1 : Avoids g0 dg1 (across f r.ws).n ba bb b1 := by
      refine ⟨?_, fun hh => ?_⟩
      · have : W2.heap.size ≤ dg1 := hx1
        omega
      · have h6 := hy1 hh
        have h7 := (hl1 (by rw [HOK.out.ws.len]; omega)).2
        have h8 : W2.heap.size ≤ ba := h6.1
        have h9 : W2.heap.size ≤ bb := h6.2
        omega
    have av2 : Avoids g0 dg2 (down f r.hs).n ea eb b2 := by
      refine ⟨by omega, fun hh => ?_⟩
      have h6 := hy2 hh
      have h7 := (hl2 (by rw [HOK.out.hs.len]; omega)).2
      omega
    have AV1 := Lib.hid av1
    have AV2 := Lib.hid av2
    have HD1 := Lib.hid (hD1.up (hb5'.trans ((below_new w5 (Obj.cells #[Value.pointer (some { block := dg1, off := 0 }), Value.pointer (some { block := dg2, off := 0 })] 68)).mono hb5'.size)) (Nat.le_trans hs5 (below_new w5 (Obj.cells #[Value.pointer (some { block := dg1, off := 0 }), Value.pointer (some { block := dg2, off := 0 })] 68)).size))
    have HD2 := Lib.hid (hD2.up (below_new w5 (Obj.cells #[Value.pointer (some { block := dg1, off := 0 }), Value.pointer (some { block := dg2, off := 0 })] 68)) (below_new w5 (Obj.cells #[Value.pointer (some { block := dg1, off := 0 }), Value.pointer (some { block := dg2, off := 0 })] 68)).size)
    have HP := Lib.hid (Blk.new w5 68 #[Value.pointer (some { block := dg1, off := 0 }), Value.pointer (some { block := dg2, off := 0 })])
    have hW := (((Below.refl W2.heap.size W2).drew).trans hb4').trans (hb5'.mono hs4) |>.trans ((below_new w5 (Obj.cells #[Value.pointer (some { block := dg1, off := 0 }), Value.pointer (some { block := dg2, off := 0 })] 68)).mono (by omega))
    have HR6 := Lib.hid (HR2.out.of_block (hW.block g0 hg0'))
    have HB6 := Lib.hid (HB2.out.trans (hW.mono HB2.out.size))
    have hpne : g0 ≠ w5.heap.size := by omega
    clear hD1 hD2 hb4' hb5' hb4 hb5 hS0 HCA HCD a0 a1 a2 d0 d1 d2 hW av1 av2 hx1 hx2 hy1 hy2 HR2 HB2 HF2 HT2 hl1 hl2
    go_wp2_with fail
    generalize w5.alloc (Obj.cells #[Value.pointer (some { block := dg1, off := 0 }), Value.pointer (some { block := dg2, off := 0 })] 68) = W6 at *
    generalize w5.heap.size = pg at *
    have w1' := HOK.out.right.w1
    have w2' := HOK.out.right.w2
    have w3' := HOK.out.right.h1
    have w4' := HOK.out.right.h2
    go_loopg [34] 2 (fun gg s34 wr => ∃ k : Nat, k ≤ 2 ∧ 2 - k ≤ gg ∧ s34 = .int .i64 k ∧ Hid (wr.rowIs g0 3 f.ps.length (fun j => .int .i64 (if k = 0 then 0 else if k = 1 then heldA f r j else heldA f r j + heldD f r j))) ∧ Hid (W6.grownBy wr (some g0)))
    case atStart => exact ⟨0, by omega, by omega, rfl, HR6.out, World.grownBy.refl _ _⟩
    case round =>
      obtain ⟨k, hk, hgk, rfl, R, G⟩ := hrel
      clear HR6
      rcases (show k = 0 ∨ k = 1 ∨ k = 2 by omega) with rfl | rfl | rfl
      · have hlt0 : (0 : Int) < 2 := by omega
        simp only [if_true] at R

        have HDr := Lib.hid (HD1.out.avoid G.out AV1.out (Nat.le_refl _))
        have hpr := (HP.out.grown G.out (by simpa using Ne.symm hpne)).cell 0
        have hnn : (across f r.ws).n = f.ps.length := HOK.out.ws.len
        have hwf := across_wf HOK.out.right.toLaid HOK.out.ws
        have hth := through_any (across f r.ws) hwf (by omega) (across_T HOK.out.right.toLaid HOK.out.uw) (fun i hi => Dir.T_small (Dir.mir_wf hwf) (fun i _ => sz_le HOK.out.uw.b (by omega) i) (by show 0 ≤ f.W; omega) (by show f.W ≤ 4000; omega) i hi) _ dg1 Aa Ab Az ca cb cz ba oa bb ob b1 o1 wr HDr.out G.out.size (by show 0 ≤ f.W; omega) (by show f.W ≤ 4000; omega)
        have hsd : (across f r.ws).side = f.W := rfl
        have HTH := Lib.hid hth
        clear hth hwf
        go_wp2_with fail
        refine HTH.out.mono ?_
        rintro e w7 ⟨gT, rfl, hgT, RT, b7⟩
        rw [hnn] at RT
        have HRT := Lib.hid RT
        have hgne : g0 ≠ gT := by have := R.out.lt; omega
        have HR7 := Lib.hid (R.out.of_block (b7.block g0 R.out.lt))
        have HG7 := Lib.hid (grown_trans' G.out (grown_of_below b7 (some g0)))
        clear HTH RT b7 HDr hpr
        rw [hnn]
        go_wp2_with fail
        obtain ⟨wo, rfl⟩ : ∃ wo : World, wo = wr := ⟨_, rfl⟩
        obtain ⟨gko, rfl⟩ : ∃ x : Nat, x = gk := ⟨_, rfl⟩
        go_loopg [42] f.ps.length (fun gg s42 wi => ∃ i : Nat, i ≤ f.ps.length ∧ f.ps.length - i ≤ gg ∧ s42 = .int .i64 i ∧ Hid (wi.rowIs g0 3 f.ps.length (fun j => .int .i64 (if j < i then heldA f r j else (0 : Int)))) ∧ Hid (wi.rowIs gT 3 f.ps.length (fun j => .int .i64 ((across f r.ws).thr j))) ∧ Hid (W6.grownBy wi (some g0)))
        case atStart => exact ⟨0, Nat.zero_le _, by omega, rfl, HR7.out.congr (fun j hj => by simp), HRT.out, HG7.out⟩
        case round =>
          obtain ⟨i, hi, hgi, rfl, RI, RTI, GI⟩ := hrel
          clear HR7 HRT HG7 R G
          by_cases hli : i < f.ps.length
          · have hlz : (i : Int) < (f.ps.length : Int) := by omega
            have hi0 : (0 : Int) ≤ (i : Int) := by omega
            have q1 := RTI.out.cell hli
            have HDi := Lib.hid (HD1.out.avoid GI.out AV1.out (Nat.le_refl _))
            have hpq : Hid (heldA f r i = if (across f r.ws).thr i = 60 * f.W then 1 else 0) := by show _ = _; unfold heldA; simp
            have hrm := room_any (across f r.ws) _ dg1 Aa Ab Az ca cb cz ba oa bb ob b1 o1 wr HDi.out (by show 0 ≤ f.W; omega) (by show f.W ≤ 4000; omega)
            rw [hsd] at hrm
            have r1 : wr.cell? ⟨g0, i, none⟩ = some (.int .i64 ((0 : Int))) := by
              have := RI.out.cell hli; rw [if_neg (by omega)] at this; exact this
            have f1 := RI.out.frozen i
            have HRM := Lib.hid hrm
            clear hrm HDi hsd
            generalize (across f r.ws).thr i = th at *
            by_cases ht : th = 60 * f.W
            · have htb : (th == 60 * f.W) = true := by simp [ht]
              have HTH := Lib.hid ht
              clear ht
              go_wp2_with fail
              refine HRM.out.mono ?_
              rintro e w8 ⟨rfl, rfl⟩
              clear HRM
              go_wp2_with fail
              go_still_tail 8, (by kernel_rfl)
              change wpList _ _ _ _ _ wr.drew
              go_wp2_with fail
              go_roundg (f.ps.length - (i + 1))
              case measure => omega
              case rel =>
                refine ⟨i + 1, by omega, by omega, by go_num, ?_, (RTI.out.setOther (a := ⟨g0, i, none⟩) (Ne.symm hgne) _).drew, grown_drew' (grown_setCell' GI.out _ _)⟩
                show World.rowIs _ _ _ _ _
                refine (RI.out.set i _).drew.congr fun j hj => ?_
                by_cases e : j = i
                · rw [if_pos e, e, if_pos (by omega), hpq.out, if_pos HTH.out]
                  rfl
                · rw [if_neg e]
                  by_cases e2 : j < i
                  · rw [if_pos e2, if_pos (by omega)]
                  · rw [if_neg e2, if_neg (by omega)]
            · have htb : (th == 60 * f.W) = false := by simp [ht]
              have HTH := Lib.hid ht
              clear ht
              go_wp2_with fail
              refine HRM.out.mono ?_
              rintro e w8 ⟨rfl, rfl⟩
              clear HRM
              go_wp2_with fail
              go_roundg (f.ps.length - (i + 1))
              case measure => omega
              case rel =>
                refine ⟨i + 1, by omega, by omega, by go_num, ?_, RTI.out, GI.out⟩
                show World.rowIs _ _ _ _ _
                refine RI.out.congr fun j hj => ?_
                by_cases e : j < i
                · rw [if_pos e, if_pos (by omega)]
                · rw [if_neg e]
                  by_cases e2 : j = i
                  · subst e2
                    rw [if_pos (by omega), hpq.out, if_neg HTH.out]
                  · rw [if_neg (by omega)]
          · have hlz : ¬ (i : Int) < (f.ps.length : Int) := by omega
            have he : i = f.ps.length := by omega
            have RR := Lib.hid (RI.out.congr (g := fun j => .int .i64 (heldA f r j)) fun j hj => by rw [if_pos (by omega)])
            clear RI RTI
            go_wp2_with fail
            go_roundg (2 - (0 + 1))
            case measure => omega
            case rel => exact ⟨0 + 1, by omega, by omega, by first | rfl | go_num, RR.out, GI.out⟩
      · have hlt0 : (1 : Int) < 2 := by omega
        have R := Lib.hid (R.out.congr (g := fun j => .int .i64 (heldA f r j)) fun j hj => by rw [if_neg (by omega), if_pos rfl])

        have HDr := Lib.hid (HD2.out.avoid G.out AV2.out (Nat.le_refl _))
        have hpr := (HP.out.grown G.out (by simpa using Ne.symm hpne)).cell 1
        have hnn : (down f r.hs).n = f.ps.length := HOK.out.hs.len
        have hwf := down_wf HOK.out.right.toLaid HOK.out.hs
        have hth := through_any (down f r.hs) hwf (by omega) (down_T HOK.out.right.toLaid HOK.out.uh) (fun i hi => Dir.T_small (Dir.mir_wf hwf) (fun i _ => sz_le HOK.out.uh.b (by omega) i) (by show 0 ≤ f.H; omega) (by show f.H ≤ 4000; omega) i hi) _ dg2 Ba Bb Bz da db dz ea pa eb pb b2 o2 wr HDr.out G.out.size (by show 0 ≤ f.H; omega) (by show f.H ≤ 4000; omega)
        have hsd : (down f r.hs).side = f.H := rfl
        have HTH := Lib.hid hth
        clear hth hwf
        go_wp2_with fail
        refine HTH.out.mono ?_
        rintro e w7 ⟨gT, rfl, hgT, RT, b7⟩
        rw [hnn] at RT
        have HRT := Lib.hid RT
        have hgne : g0 ≠ gT := by have := R.out.lt; omega
        have HR7 := Lib.hid (R.out.of_block (b7.block g0 R.out.lt))
        have HG7 := Lib.hid (grown_trans' G.out (grown_of_below b7 (some g0)))
        clear HTH RT b7 HDr hpr
        rw [hnn]
        go_wp2_with fail
        obtain ⟨wo, rfl⟩ : ∃ wo : World, wo = wr := ⟨_, rfl⟩
        obtain ⟨gko, rfl⟩ : ∃ x : Nat, x = gk := ⟨_, rfl⟩
        go_loopg [42] f.ps.length (fun gg s42 wi => ∃ i : Nat, i ≤ f.ps.length ∧ f.ps.length - i ≤ gg ∧ s42 = .int .i64 i ∧ Hid (wi.rowIs g0 3 f.ps.length (fun j => .int .i64 (if j < i then heldA f r j + heldD f r j else heldA f r j))) ∧ Hid (wi.rowIs gT 3 f.ps.length (fun j => .int .i64 ((down f r.hs).thr j))) ∧ Hid (W6.grownBy wi (some g0)))
        case atStart => exact ⟨0, Nat.zero_le _, by omega, rfl, HR7.out.congr (fun j hj => by simp), HRT.out, HG7.out⟩
        case round =>
          obtain ⟨i, hi, hgi, rfl, RI, RTI, GI⟩ := hrel
          clear HR7 HRT HG7 R G
          by_cases hli : i < f.ps.length
          · have hlz : (i : Int) < (f.ps.length : Int) := by omega
            have hi0 : (0 : Int) ≤ (i : Int) := by omega
            have q1 := RTI.out.cell hli
            have HDi := Lib.hid (HD2.out.avoid GI.out AV2.out (Nat.le_refl _))
            have hpq : Hid (heldA f r i + heldD f r i = heldA f r i + if (down f r.hs).thr i = 60 * f.H then 2 else 0) := by show _ = _; unfold heldD; simp
            have hrm := room_any (down f r.hs) _ dg2 Ba Bb Bz da db dz ea pa eb pb b2 o2 wr HDi.out (by show 0 ≤ f.H; omega) (by show f.H ≤ 4000; omega)
            rw [hsd] at hrm
            have r1 : wr.cell? ⟨g0, i, none⟩ = some (.int .i64 (heldA f r i)) := by
              have := RI.out.cell hli; rw [if_neg (by omega)] at this; exact this
            have f1 := RI.out.frozen i
            have HRM := Lib.hid hrm
            clear hrm HDi hsd
            generalize (down f r.hs).thr i = th at *
            by_cases ht : th = 60 * f.H
            · have htb : (th == 60 * f.H) = true := by simp [ht]
              have HTH := Lib.hid ht
              clear ht
              go_wp2_with fail
              refine HRM.out.mono ?_
              rintro e w8 ⟨rfl, rfl⟩
              clear HRM
              go_wp2_with fail
              go_still_tail 8, (by kernel_rfl)
              change wpList _ _ _ _ _ wr.drew
              go_wp2_with fail
              go_roundg (f.ps.length - (i + 1))
              case measure => omega
              case rel =>
                refine ⟨i + 1, by omega, by omega, by go_num, ?_, (RTI.out.setOther (a := ⟨g0, i, none⟩) (Ne.symm hgne) _).drew, grown_drew' (grown_setCell' GI.out _ _)⟩
                show World.rowIs _ _ _ _ _
                refine (RI.out.set i _).drew.congr fun j hj => ?_
                by_cases e : j = i
                · rw [if_pos e, e, if_pos (by omega), hpq.out, if_pos HTH.out]
                  rcases heldA_01 f r i with h | h <;> rw [h] <;> rfl
                · rw [if_neg e]
                  by_cases e2 : j < i
                  · rw [if_pos e2, if_pos (by omega)]
                  · rw [if_neg e2, if_neg (by omega)]
            · have htb : (th == 60 * f.H) = false := by simp [ht]
              have HTH := Lib.hid ht
              clear ht
              go_wp2_with fail
              refine HRM.out.mono ?_
              rintro e w8 ⟨rfl, rfl⟩
              clear HRM
              go_wp2_with fail
              go_roundg (f.ps.length - (i + 1))
              case measure => omega
              case rel =>
                refine ⟨i + 1, by omega, by omega, by go_num, ?_, RTI.out, GI.out⟩
                show World.rowIs _ _ _ _ _
                refine RI.out.congr fun j hj => ?_
                by_cases e : j < i
                · rw [if_pos e, if_pos (by omega)]
                · rw [if_neg e]
                  by_cases e2 : j = i
                  · subst e2
                    rw [if_pos (by omega), hpq.out, if_neg HTH.out, Int.add_zero]
                  · rw [if_neg (by omega)]
          · have hlz : ¬ (i : Int) < (f.ps.length : Int) := by omega
            have he : i = f.ps.length := by omega
            have RR := Lib.hid (RI.out.congr (g := fun j => .int .i64 (heldA f r j + heldD f r j)) fun j hj => by rw [if_pos (by omega)])
            clear RI RTI
            go_wp2_with fail
            go_roundg (2 - (1 + 1))
            case measure => omega
            case rel => exact ⟨1 + 1, by omega, by omega, by first | rfl | go_num, RR.out, GI.out⟩
      · have hlt0 : ¬ (2 : Int) < 2 := by omega
        have RR := Lib.hid (R.out.congr (g := fun j => .int .i64 (heldA f r j + heldD f r j)) fun j hj => by rw [if_neg (by omega), if_neg (by omega)])
        clear R
        go_wp2_with fail
        go_ret2
        exact .inr ⟨by rw [HSP.out]; exact HE.out, g0, rfl, hg0, RR.out, HB6.out.trans ⟨G.out.os, G.out.tape, G.out.output, G.out.size, fun j hj => G.out.block j (by have := HB6.out.size; omega) (by simp; omega)⟩⟩
  · have h1 := bne_t hE
    have HE := Lib.hid hE
    clear hE
    generalize hsp : checkR f r = sp at *
    have HSP := Lib.hid hsp
    clear hsp
    go_wp2_with fail
    go_ret2
    exact .inl ⟨by rw [HSP.out]; exact HE.out, by rw [HSP.out]; rfl, HB1.out⟩
end Go.Proofs.YtlfeoofchebbkaaDoor
