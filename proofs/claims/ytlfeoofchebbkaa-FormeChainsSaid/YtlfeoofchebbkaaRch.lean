/- ref.CheckChain returns the length of a chain, or the errors, of right sizes. -/
import Derived.Test.YtlfeoofchebbkaaChn
import Derived.Test.YtlfeoofchebbkaaLw
import Derived.Deep.DeepCutAuto
import Derived.Outline
import Derived.Lib.QuietBelow
namespace Go.Proofs.Ytlfeoofchebbkaa
set_option linter.unusedSimpArgs false
set_option linter.unusedVariables false
open Go.RowKit Go.Sort
theorem within49_b {bv : Bool} {n lo hi : Int} (h : win n lo hi = bv) (w : World) : Calls Try.prog 49 #[.int .i64 n, .int .i64 lo, .int .i64 hi] w fun e w' => e = .returned (.bool bv) ∧ w' = w :=
  (within49_any n lo hi w).mono fun _ _ ⟨h1, h2⟩ => ⟨by rw [h1, h], h2.symm⟩
theorem PAt.far {w : World} {b off : Nat} {p : Piece} (h : PAt w b off p) {a : Addr} (ha : a.block ≠ b) (v : Value) : PAt (w.setCell a v) b off p := by
  obtain ⟨h0, h1, h2, h3, h4, h5⟩ := h
  exact ⟨(World.cell?_setCell_far _ _ _ _ ha).trans h0, (World.cell?_setCell_far _ _ _ _ ha).trans h1, (World.cell?_setCell_far _ _ _ _ ha).trans h2, (World.cell?_setCell_far _ _ _ _ ha).trans h3, (World.cell?_setCell_far _ _ _ _ ha).trans h4, (World.cell?_setCell_far _ _ _ _ ha).trans h5⟩
theorem acr_be {G : Forme} (zs : List Int) {j : Nat} (hj : j < G.ps.length) : (across G zs).b j = (gp G.ps j).x ∧ (across G zs).e j = (gp G.ps j).x + (gp G.ps j).w := by
  constructor <;> simp only [Dir.b, Dir.e, across, getD_map _ _ _ _ hj] <;> rw [gp_get hj]
theorem down_be' {G : Forme} (zs : List Int) {j : Nat} (hj : j < G.ps.length) : (down G zs).b j = (gp G.ps j).y ∧ (down G zs).e j = (gp G.ps j).y + (gp G.ps j).h := by
  constructor <;> simp only [Dir.b, Dir.e, down, getD_map _ _ _ _ hj] <;> rw [gp_get hj]
/-- A chain's question, as the reference asks it: a forme G (seen across) with sizes. -/
structure ChD (w W : World) (n m : Nat) (D : Dir) (zs : List Int) (dn : Bool) (G : Forme) (sz : List Int) (Ac A4 Az : Option Addr) (bc oc cc b4 o4 c4 bz oz cz : Nat) : Prop where
  B : Below w.heap.size w W
  F : Blk W w.heap.size 37 #[.int .i64 G.W, .int .i64 G.H, .slice A4 n c4]
  P : Blk W (w.heap.size + 1 + 1) 72 #[.slice Ac m cc, .bool dn]
  la : Lies A4 n W.heap.size b4 o4
  ps : PsAt W b4 o4 G.ps
  nG : G.ps.length = n
  lz : Lies Az n W.heap.size bz oz
  zz : ZsAt W bz oz sz
  ns : sz.length = n
  lc : Lies Ac m W.heap.size bc oc
  zc : ZsAt W bc oc zs
  nz : zs.length = m
  D : D = across G sz
  L : G.Laid
  zb : ∀ i, i < n → 0 ≤ gz sz i ∧ gz sz i ≤ 480000
section
variable {w W W' : World} {n m : Nat} {D : Dir} {zs : List Int} {dn : Bool} {G : Forme} {sz : List Int} {Ac A4 Az : Option Addr} {bc oc cc b4 o4 c4 bz oz cz : Nat}
theorem ChD.below (h : ChD w W n m D zs dn G sz Ac A4 Az bc oc cc b4 o4 c4 bz oz cz) (hb : Below W.heap.size W W') : ChD w W' n m D zs dn G sz Ac A4 Az bc oc cc b4 o4 c4 bz oz cz :=
  { h with
    B := h.B.trans (hb.mono h.B.size), F := h.F.below hb h.F.lt, P := h.P.below hb h.P.lt, la := h.la.mono hb.size, ps := fun j hj => (h.ps j hj).below hb (h.la (by have := h.nG; omega)).2
    lz := h.lz.mono hb.size, zz := fun j hj => (hb.cell (p := ⟨bz, _, none⟩) (h.lz (by have := h.ns; omega)).2).trans (h.zz j hj), lc := h.lc.mono hb.size, zc := fun j hj => (hb.cell (p := ⟨bc, _, none⟩) (h.lc (by have := h.nz; omega)).2).trans (h.zc j hj) }
theorem ChD.drewN (h : ChD w W n m D zs dn G sz Ac A4 Az bc oc cc b4 o4 c4 bz oz cz) (k : Nat) : ChD w (W.drewN k) n m D zs dn G sz Ac A4 Az bc oc cc b4 o4 c4 bz oz cz := h.below (below_drewN (Below.refl _ _) k)
theorem ChD.piece (h : ChD w W n m D zs dn G sz Ac A4 Az bc oc cc b4 o4 c4 bz oz cz) {z : Nat} (hz : z < n) : (gp G.ps z).inn G.W G.H := by
  have := h.nG
  rw [gp_get (by omega)]; exact h.L.inn _ (List.getElem_mem _)
theorem ChD.sml (h : ChD w W n m D zs dn G sz Ac A4 Az bc oc cc b4 o4 c4 bz oz cz) {z : Nat} (hz : z < n) : Sml (gp G.ps z) := by
  obtain ⟨h1, h2, h3, h4, h5, h6⟩ := h.piece hz
  have := h.L.w2
  have := h.L.h2
  unfold Sml; omega
end
set_option maxRecDepth 100000 in
set_option maxHeartbeats 8000000 in
theorem refChain_any (f : Forme) (r : Real) (zs : List Int) (dn : Bool) (A A1 A2 A3 Ac : Option Addr) (b off b1 o1 b2 o2 b3 o3 bc oc c c1 c2 c3 cc : Nat) (w : World) (h : FR w w.heap.size f r A A1 A2 A3 b off b1 o1 b2 o2 b3 o3) (hok : Okay f r)
    (hA : Lies Ac zs.length w.heap.size bc oc) (hz : ZsAt w bc oc zs) (hl : zs.length ≤ 100) :
    Calls Try.prog 51 #[.agg #[.int .i64 f.W, .int .i64 f.H, .slice A f.ps.length c], .agg #[.slice A1 r.ws.length c1, .slice A2 r.hs.length c2, .slice A3 r.ts.length c3], .agg #[.slice Ac zs.length cc, .bool dn]] w fun e w' => e = .returned (.tuple #[.int .i64 (chainC (dirOf f r dn) f.ps.length zs).1, .int .i64 (chainC (dirOf f r dn) f.ps.length zs).2]) ∧ Below w.heap.size w w' := by
  have hk4 : ∀ i, i < f.ps.length → 1 ≤ (gp f.ps i).kind ∧ (gp f.ps i).kind ≤ 4 := fun i hi => by rw [gp_get hi]; exact hok.right.kind _ (List.getElem_mem hi)
  have hfew := hok.right.few
  have hn1 : r.ws.length = f.ps.length := hok.ws.len
  have hn2 : r.hs.length = f.ps.length := hok.hs.len
  have hn3 : r.ts.length = f.ps.length := hok.ts
  have HC0 : Hid (chainC (dirOf f r dn) f.ps.length zs = if zs.length = 0 then (0, 10) else if missB f.ps.length zs = true then (0, 6) else restC (dirOf f r dn) zs) := rfl
  generalize hcv : chainC (dirOf f r dn) f.ps.length zs = cv at *
  clear hcv
  have HN1 := Lib.hid hn1
  have HN2 := Lib.hid hn2
  rw [hn1, hn2, hn3]
  clear hn1 hn2 hn3
  obtain ⟨B0, F0, T0, P0, Z0⟩ := boxesT w #[.int .i64 f.W, .int .i64 f.H, .slice A f.ps.length c] #[.slice A1 f.ps.length c1, .slice A2 f.ps.length c2, .slice A3 f.ps.length c3] #[.slice Ac zs.length cc, .bool dn] 37 39 72
  have HH := Lib.hid h
  have HOK := Lib.hid hok
  have HAc := Lib.hid hA
  have HZc := Lib.hid hz
  have HK4 := Lib.hid hk4
  clear h hok hA hz hk4
  go_enter Try.func51, Try.ntmps51
  go_upto_region 1 with (fail)
  generalize ((w.alloc (.cells #[.int .i64 f.W, .int .i64 f.H, .slice A f.ps.length c] 37)).alloc (.cells #[.slice A1 f.ps.length c1, .slice A2 f.ps.length c2, .slice A3 f.ps.length c3] 39)).alloc (.cells #[.slice Ac zs.length cc, .bool dn] 72) = W0 at *
  have HB0 := Lib.hid B0
  have HF0 := Lib.hid F0
  have HT0 := Lib.hid T0
  have HP0 := Lib.hid P0
  have HFR0 := Lib.hid ((HH.out.below B0).mono B0.size)
  have hz0 : w.heap.size + 1 + 1 < W0.heap.size := by omega
  clear B0 F0 T0 P0 Z0
  have f0 : W0.cell? ⟨w.heap.size, 0, none⟩ = some (.int .i64 f.W) := HF0.out.cell 0
  have f1 : W0.cell? ⟨w.heap.size, 1, none⟩ = some (.int .i64 f.H) := HF0.out.cell 1
  have f2 : W0.cell? ⟨w.heap.size, 2, none⟩ = some (.slice A f.ps.length c) := HF0.out.cell 2
  have t0 : W0.cell? ⟨w.heap.size + 1, 0, none⟩ = some (.slice A1 f.ps.length c1) := HT0.out.cell 0
  have t1 : W0.cell? ⟨w.heap.size + 1, 1, none⟩ = some (.slice A2 f.ps.length c2) := HT0.out.cell 1
  have p0 : W0.cell? ⟨w.heap.size + 1 + 1, 0, none⟩ = some (.slice Ac zs.length cc) := HP0.out.cell 0
  have p1 : W0.cell? ⟨w.heap.size + 1 + 1, 1, none⟩ = some (.bool dn) := HP0.out.cell 1
  generalize hnn : f.ps.length = n at *
  have HN := Lib.hid hnn
  clear hnn
  generalize hmm : zs.length = m at *
  have HM := Lib.hid hmm
  clear hmm
  go_upto_if 16 with (fail)
  go_cut [8] (fun s8 wx => ∃ (G : Forme) (sz : List Int) (A4 Az : Option Addr) (b4 o4 c4 bz oz cz : Nat), s8 = .slice Az n cz ∧ Hid (ChD w wx n m (dirOf f r dn) zs dn G sz Ac A4 Az bc oc cc b4 o4 c4 bz oz cz))
  case first =>
    as_aux_lemma =>
    cases dn with
    | false =>
      have hch : ChD w W0 n m (dirOf f r false) zs false f r.ws Ac A A1 bc oc cc b off c b1 o1 c1 :=
        ⟨HB0.out, HF0.out, HP0.out, by have := HFR0.out.la; rwa [HN.out] at this, HFR0.out.ps, HN.out, by have := HFR0.out.rr.l1; rwa [HN1.out] at this, HFR0.out.rr.z1, HN1.out,
          fun hm => ⟨(HAc.out hm).1, Nat.lt_of_lt_of_le (HAc.out hm).2 HB0.out.size⟩, fun j hj => (HB0.out.cell (p := ⟨bc, _, none⟩) (HAc.out (by have := HM.out; omega)).2).trans (HZc.out j hj), HM.out, rfl, HOK.out.right.toLaid, fun i hi => by
            have hi' : i < r.ws.length := by rw [HN1.out]; exact hi
            have h1 := HOK.out.ws.lo _ (List.getElem_mem hi')
            have h2 := HOK.out.wb _ (List.getElem_mem hi')
            rw [← gz_get hi'] at h1 h2
            omega⟩
      have HCH := Lib.hid hch
      clear hch
      clear f0 f1 f2 t1 p0 p1
      go_wp2_with fail
      go_meet
      exact ⟨f, r.ws, A, A1, b, off, c, b1, o1, c1, rfl, HCH.out⟩
    | true =>
      have HSW : Hid (∀ W, Below W0.heap.size W0 W → W0.heap.size ≤ W.heap.size → Calls Try.prog 89 #[.agg #[.int .i64 f.W, .int .i64 f.H, .slice A n c]] W (CopyFPost W f.swapK)) := (show ∀ W, _ from fun W hW hs => by
        have h1 := HFR0.out.below hW
        have := swapped_any f A b off c W (h1.la.mono hs) h1.ps (by rw [HN.out]; exact HK4.out) (by rw [HN.out]; omega)
        rwa [HN.out] at this)
      have HK : Hid (∀ W, Below W0.heap.size W0 W → (W.cell? ⟨w.heap.size, 0, none⟩ = some (.int .i64 f.W) ∧ W.cell? ⟨w.heap.size, 1, none⟩ = some (.int .i64 f.H) ∧ W.cell? ⟨w.heap.size, 2, none⟩ = some (.slice A n c) ∧ W.cell? ⟨w.heap.size + 1, 1, none⟩ = some (.slice A2 n c2))) := (show ∀ W, _ from fun W hW => by
        have hx := HF0.out.below hW HF0.out.lt
        exact ⟨hx.cell 0, hx.cell 1, hx.cell 2, (HT0.out.below hW HT0.out.lt).cell 1⟩)
      have h0 : Below W0.heap.size W0 W0.drew := (Below.refl _ _).drew
      have H0 := Lib.hid h0
      obtain ⟨m0, m1, m2, hS0⟩ := HK.out W0.drew h0
      have n0 := hS0
      have hnK : f.swapK.ps.length = n := by rw [← HN.out]; simp [Forme.swapK]
      have HNK := Lib.hid hnK
      clear h0 hnK
      go_wp2_with fail
      clear f0 f1 f2 t0 t1 p0 p1
      refine wp_region_split (fun W => W.cell? ⟨w.heap.size + 1, 1, none⟩ = some (.slice A2 n c2)) 5 (by kernel_rfl) (by decide) ?_
      refine wpG_take 5 2 (v := ?_) rfl (by kernel_rfl) (fun _ _ _ h => h) (Or.inl ⟨by rfl, ?_⟩) (by assumption) ?_
      rotate_left
      · intro w hSw; (try dsimp only at hSw); go_simp; (try with_reducible rfl)
      (try simp only [Act.put, List.getElem_toArray, List.getElem_cons_zero, List.getElem_cons_succ, List.setIfInBounds_toArray, List.set_cons_zero, List.set_cons_succ])
      refine wpG_take 5 3 (v := ?_) rfl (by kernel_rfl) (fun _ _ _ h => h) (Or.inl ⟨by rfl, ?_⟩) (by assumption) ?_
      rotate_left
      · intro w hSw; (try dsimp only at hSw); go_simp; (try with_reducible rfl)
      (try simp only [Act.put, List.getElem_toArray, List.getElem_cons_zero, List.getElem_cons_succ, List.setIfInBounds_toArray, List.set_cons_zero, List.set_cons_succ])
      refine wpG_one (i := 0) (by kernel_rfl) ?_
      refine wpOp_step rfl (fun K hK => ?_)
      go_simp
      refine hK _ _ ⟨n0, ?_⟩
      clear hK K
      (try simp only [Act.put, List.getElem_toArray, List.getElem_cons_zero, List.getElem_cons_succ, List.setIfInBounds_toArray, List.set_cons_zero, List.set_cons_succ])
      refine wpG_one (i := 1) (by kernel_rfl) ?_
      refine wpOp_step rfl (fun K hK => ?_)
      go_simp
      go_at_call 89
      (with_reducible refine (HSW.out _ H0.out (Nat.le_refl _)).mono ?_)
      rintro e w4 ⟨v4, rfl, ⟨A', b', c', rfl, k4, l4, p4, q4⟩, hb4'⟩
      have hb4 : Below W0.heap.size W0 w4 := H0.out.trans hb4'
      have n4 := (HK.out w4 hb4).2.2.2
      have n5 : (((w4.setCell ⟨w.heap.size, 0, none⟩ (.int .i64 f.swapK.W)).setCell ⟨w.heap.size, 1, none⟩ (.int .i64 f.swapK.H)).setCell ⟨w.heap.size, 2, none⟩ (.slice A' f.swapK.ps.length c')).cell? ⟨w.heap.size + 1, 1, none⟩ = some (.slice A2 n c2) :=
        (World.cell?_setCell_far _ _ _ _ (show w.heap.size ≠ w.heap.size + 1 by omega)).trans ((World.cell?_setCell_far _ _ _ _ (show w.heap.size ≠ w.heap.size + 1 by omega)).trans ((World.cell?_setCell_far _ _ _ _ (show w.heap.size ≠ w.heap.size + 1 by omega)).trans n4))
      have hx4 : Blk w4 w.heap.size 37 #[.int .i64 f.W, .int .i64 f.H, .slice A n c] := HF0.out.below hb4 HF0.out.lt
      have s0 := hx4.cell 0
      have s1 := hx4.cell 1
      have s2 := hx4.cell 2
      have u0 := hx4.frozen 0
      have u1 := hx4.frozen 1
      have u2 := hx4.frozen 2
      have hz4 := hx4.lt
      (try dsimp only)
      refine hK _ _ ⟨n4, ?_⟩
      clear hK K
      (try simp only [Act.put, List.getElem_toArray, List.getElem_cons_zero, List.getElem_cons_succ, List.setIfInBounds_toArray, List.set_cons_zero, List.set_cons_succ])
      refine wpG_one (i := 4) (by kernel_rfl) ?_
      refine wpOp_step rfl (fun K hK => ?_)
      go_simp
      refine hK _ _ ⟨n5, ?_⟩
      clear hK K
      (try simp only [Act.put, List.getElem_toArray, List.getElem_cons_zero, List.getElem_cons_succ, List.setIfInBounds_toArray, List.set_cons_zero, List.set_cons_succ])
      refine ⟨by kernel_rfl, ?_⟩
      simp only [List.drop_succ_cons, List.drop_zero]
      have hbw : Below w.heap.size w (((w4.setCell ⟨w.heap.size, 0, none⟩ (.int .i64 f.H)).setCell ⟨w.heap.size, 1, none⟩ (.int .i64 f.W)).setCell ⟨w.heap.size, 2, none⟩ (.slice A' f.swapK.ps.length c')) :=
        ((((HB0.out.trans (hb4.mono HB0.out.size)).setCell (by simp) _).setCell (by simp) _).setCell (by simp) _)
      have hsz : ∀ v0 v1 v2, (((w4.setCell ⟨w.heap.size, 0, none⟩ v0).setCell ⟨w.heap.size, 1, none⟩ v1).setCell ⟨w.heap.size, 2, none⟩ v2).heap.size = w4.heap.size := by intros; simp [World.setCell]
      rw [HNK.out] at l4 q4 hbw k4
      have hch : ChD w (((w4.setCell ⟨w.heap.size, 0, none⟩ (.int .i64 f.H)).setCell ⟨w.heap.size, 1, none⟩ (.int .i64 f.W)).setCell ⟨w.heap.size, 2, none⟩ (.slice A' n c')) n m (dirOf f r true) zs true f.swapK r.hs Ac A' A2 bc oc cc b' 0 c' b2 o2 c2 :=
        ⟨hbw, ((hx4.set_ 0 _).set_ 1 _).set_ 2 _,
          (Below.heap_setCell _ _ _ _ (by show w.heap.size + 1 + 1 ≠ w.heap.size; omega)).trans ((Below.heap_setCell _ _ _ _ (by show w.heap.size + 1 + 1 ≠ w.heap.size; omega)).trans ((Below.heap_setCell _ _ _ _ (by show w.heap.size + 1 + 1 ≠ w.heap.size; omega)).trans (HP0.out.below hb4 HP0.out.lt))),
          by rw [hsz]; exact l4, fun j hj => by
            have hb' := (q4 (by have := HNK.out; omega)).1
            have hne : w.heap.size ≠ b' := by have hdw : W0.drew.heap.size = W0.heap.size := rfl; omega
            exact (((p4 j hj).far hne _).far hne _).far hne _, HNK.out,
          fun hn0 => by
            have h1 := HH.out.rr.l2 (by rw [HN2.out]; exact hn0)
            exact ⟨h1.1, Nat.lt_of_lt_of_le h1.2 hbw.size⟩,
          fun j hj => (hbw.cell (p := ⟨b2, _, none⟩) (HH.out.rr.l2 (by omega)).2).trans (HH.out.rr.z2 j hj), HN2.out,
          fun hm => ⟨(HAc.out hm).1, Nat.lt_of_lt_of_le (HAc.out hm).2 hbw.size⟩, fun j hj => (hbw.cell (p := ⟨bc, _, none⟩) (HAc.out (by have := HM.out; omega)).2).trans (HZc.out j hj), HM.out, (swapK_across f r.hs).symm, HOK.out.right.toLaid.swapK, fun i hi => by
            have hi' : i < r.hs.length := by rw [HN2.out]; exact hi
            have h1 := HOK.out.hs.lo _ (List.getElem_mem hi')
            have h2 := HOK.out.hb _ (List.getElem_mem hi')
            rw [← gz_get hi'] at h1 h2
            omega⟩
      have HCH := Lib.hid hch
      have hnK := HNK.out
      clear hch hsz l4 p4 q4 k4 hbw hb4 hb4' hS0 HK HSW hx4 n0 m0 m1 m2
      go_wp2_with fail
      rw [hnK]
      clear hnK n4 n5
      go_meet
      exact ⟨f.swapK, r.hs, A', A2, b', 0, c', b2, o2, c2, rfl, HCH.out⟩
  case rest =>
    as_aux_lemma =>
    obtain ⟨G, sz, A4, Az, b4, o4, c4, bz, oz, cz, rfl, HD⟩ := hcut
    have hn60 : n ≤ 60 := hfew
    have hD0 : Hid (dirOf f r dn = dirOf f r dn) := rfl
    generalize dirOf f r dn = D at *
    clear f0 f1 f2 t0 t1 p0 p1 HB0 HF0 HT0 HP0 HFR0 HK4 HOK HH HAc HZc HN HN1 HN2 hD0 hz0
    have p0 : wc.cell? ⟨w.heap.size + 1 + 1, 0, none⟩ = some (.slice Ac m cc) := HD.out.P.cell 0
    by_cases hm0 : m = 0
    · subst hm0
      have HCz : Hid (cv = (0, 10)) := by show _ = _; rw [HC0.out]; rfl
      clear HC0
      go_wp2_with fail
      go_ret2
      rw [HCz.out]
      exact ⟨rfl, HD.out.B⟩
    · have hmn : ((m : Int) == 0) = false := by simpa using hm0
      have HC1 : Hid (cv = if missB n zs = true then (0, 6) else restC D zs) := by show _ = _; rw [HC0.out, if_neg hm0]
      clear HC0
      obtain ⟨rfl, hbc⟩ := HD.out.lc (by omega)
      go_wp2_with fail
      clear p0
      go_loopg [9] m (fun gg s9 wr => ∃ k : Nat, k ≤ m ∧ m - k ≤ gg ∧ s9 = .int .i64 k ∧ Hid (ChD w wr n m D zs dn G sz (some ⟨bc, oc, none⟩) A4 Az bc oc cc b4 o4 c4 bz oz cz) ∧ Hid (∀ j, j < k → notIn n (gz zs j) = false))
      case atStart => exact ⟨0, Nat.zero_le _, by omega, rfl, HD.out, fun j hj => absurd hj (Nat.not_lt_zero _)⟩
      case round =>
        as_aux_lemma =>
        obtain ⟨k, hk, hgk, rfl, HR, E⟩ := hrel
        have p0 : wr.cell? ⟨w.heap.size + 1 + 1, 0, none⟩ = some (.slice (some ⟨bc, oc, none⟩) m cc) := HR.out.P.cell 0
        by_cases hlt : k < m
        · have hltz : (k : Int) < (m : Int) := by omega
          have hk0 : (0 : Int) ≤ (k : Int) := by omega
          have q := HR.out.zc k (by have := HM.out; omega)
          have f2 : wr.cell? ⟨w.heap.size, 2, none⟩ = some (.slice A4 n c4) := HR.out.F.cell 2
          have HZK : Hid (∀ j, j = k → gz zs j = gz zs k) := (show ∀ j, _ from fun j e => by rw [e])
          have i1 : IntKind.i64.wrap ((n : Int) - 1) = (n : Int) - 1 := IntWalk.i64_in _ (by omega)
          generalize gz zs k = zk at *
          cases hq : win zk 0 ((n : Int) - 1) with
          | true =>
            have HNI : Hid (notIn n zk = false) := by show _ = _; unfold notIn; rw [hq]; rfl
            go_wp2_with fail
            go_quiet ((go_at_call 49; (with_reducible exact Calls.quiet_of_same (within49_b hq _))))
            go_wp2_with fail
            go_roundg (m - (k + 1))
            case measure => omega
            case rel =>
              refine ⟨k + 1, by omega, by omega, by go_num, HR.out.drewN _, (show ∀ j, _ from fun j hj => ?_)⟩
              by_cases e : j = k
              · rw [HZK.out j e]; exact HNI.out
              · exact E.out j (by omega)
          | false =>
            have HNI : Hid (notIn n zk = true) := by show _ = _; unfold notIn; rw [hq]; rfl
            go_wp2_with fail
            go_quiet ((go_at_call 49; (with_reducible exact Calls.quiet_of_same (within49_b hq _))))
            go_wp2_with fail
            go_ret2
            rw [HC1.out, if_pos (by
              unfold missB
              rw [HM.out, idx_hit (pr := fun j => notIn n (gz zs j)) (k := k) (by show notIn n (gz zs k) = true; rw [HZK.out k rfl]; exact HNI.out) E.out hlt]
              exact decide_eq_true (by omega))]
            exact ⟨rfl, below_drewN HR.out.B _⟩
        · have hltz : ¬ (k : Int) < (m : Int) := by omega
          have he : k = m := by omega
          subst he
          have hmf : missB n zs = false := by
            unfold missB
            rw [HM.out, idx_none (pr := fun j => notIn n (gz zs j)) E.out]
            rfl
          have HMIS0 := Lib.hid (missB_f hmf)
          have HMIS : Hid (∀ j, j < k → ∃ z : Nat, gz zs j = z ∧ z < n) := (show ∀ j, _ from fun j hj => HMIS0.out j (by rw [HM.out]; exact hj))
          have HC : Hid (cv = restC D zs) := by show _ = _; rw [HC1.out, if_neg (by rw [hmf]; decide)]
          clear HC1 HMIS0 hmf HD
          obtain ⟨z, hzk, hzn⟩ := HMIS.out (k - 1) (by omega)
          obtain ⟨za, hza, hzan⟩ := HMIS.out 0 (by omega)
          have q := HR.out.zc (k - 1) (by have := HM.out; omega)
          have HZL := Lib.hid hzk
          have HZA := Lib.hid hza
          rw [hzk] at q
          have f2 : wr.cell? ⟨w.heap.size, 2, none⟩ = some (.slice A4 n c4) := HR.out.F.cell 2
          obtain ⟨rfl, hb4⟩ := HR.out.la (by omega)
          obtain ⟨y0, y1, y2, y3, y4, y5⟩ := HR.out.ps z (by have := HR.out.nG; omega)
          obtain ⟨v1, v2, v3, v4, v5, v6⟩ := HR.out.sml hzn
          obtain ⟨ub, ue⟩ := acr_be (G := G) sz (j := z) (by have := HR.out.nG; omega)
          obtain ⟨ub0, -⟩ := acr_be (G := G) sz (j := za) (by have := HR.out.nG; omega)
          have HUE : Hid (D.e z = (gp G.ps z).x + (gp G.ps z).w) := by show _ = _; rw [HR.out.D]; exact ue
          have HUB : Hid (D.b za = (gp G.ps za).x) := by show _ = _; rw [HR.out.D]; exact ub0
          have HSD : Hid (D.side = G.W) := by show _ = _; rw [HR.out.D]; rfl
          have HLD : Hid (∀ i j, i < n → j < n → D.leads i j = nbB (gp G.ps i) (gp G.ps j)) := (show ∀ i j, _ from fun i j hi hj => by rw [HR.out.D]; exact across_leads sz (by have := HR.out.nG; omega) (by have := HR.out.nG; omega))
          have HSZ : Hid (∀ i, i < n → D.s i = gz sz i) := (show ∀ i, _ from fun i hi => by rw [HR.out.D]; rfl)
          clear hzk hza ub ue ub0
          generalize gp G.ps z = y at *
          have i1 : (0 : Int) ≤ (k : Int) - 1 := by omega
          have i1' : (1 : Int) ≤ (k : Int) := by omega
          have i2 : (k : Int) - 1 < (k : Int) := by omega
          have i3 : ((k : Int) - 1).toNat = k - 1 := by omega
          have i4 : IntKind.i64.wrap ((k : Int) - 1) = (k : Int) - 1 := IntWalk.i64_in _ (by omega)
          have hz0 : (0 : Int) ≤ (z : Int) := by omega
          have hz1 : (z : Int) < (n : Int) := by omega
          have hKK : ∀ W, Below wr.heap.size wr W → (W.cell? ⟨w.heap.size, 2, none⟩ = some (.slice (some ⟨b4, o4, none⟩) n c4) ∧ W.cell? ⟨w.heap.size + 1 + 1, 0, none⟩ = some (.slice (some ⟨bc, oc, none⟩) k cc) ∧ W.cell? ⟨bc, oc + (k - 1), none⟩ = some (.int .i64 (z : Int)) ∧ W.cell? ⟨b4, o4 + z * 6, none⟩ = some (.string y.name) ∧ W.cell? ⟨b4, o4 + z * 6 + 1, none⟩ = some (.int .i64 y.kind) ∧ W.cell? ⟨b4, o4 + z * 6 + 2, none⟩ = some (.int .i64 y.x) ∧ W.cell? ⟨b4, o4 + z * 6 + 3, none⟩ = some (.int .i64 y.y) ∧ W.cell? ⟨b4, o4 + z * 6 + 4, none⟩ = some (.int .i64 y.w) ∧ W.cell? ⟨b4, o4 + z * 6 + 5, none⟩ = some (.int .i64 y.h)) := fun W hW =>
            ⟨(hW.cell (p := ⟨w.heap.size, _, none⟩) HR.out.F.lt).trans f2, (hW.cell (p := ⟨w.heap.size + 1 + 1, _, none⟩) HR.out.P.lt).trans p0, (hW.cell (p := ⟨bc, _, none⟩) (HR.out.lc (by omega)).2).trans q, (hW.cell (p := ⟨b4, _, none⟩) hb4).trans y0, (hW.cell (p := ⟨b4, _, none⟩) hb4).trans y1, (hW.cell (p := ⟨b4, _, none⟩) hb4).trans y2, (hW.cell (p := ⟨b4, _, none⟩) hb4).trans y3, (hW.cell (p := ⟨b4, _, none⟩) hb4).trans y4, (hW.cell (p := ⟨b4, _, none⟩) hb4).trans y5⟩
          have HK := Lib.hid hKK
          clear hKK
          have hS0 := HK.out wr.drew (Below.refl _ _).drew
          go_upto_region 11 with (fail)
          clear f2 p0 q y0 y1 y2 y3 y4 y5
          refine wp_region_split (fun W => (W.cell? ⟨w.heap.size, 2, none⟩ = some (.slice (some ⟨b4, o4, none⟩) n c4) ∧ W.cell? ⟨w.heap.size + 1 + 1, 0, none⟩ = some (.slice (some ⟨bc, oc, none⟩) k cc) ∧ W.cell? ⟨bc, oc + (k - 1), none⟩ = some (.int .i64 (z : Int)) ∧ W.cell? ⟨b4, o4 + z * 6, none⟩ = some (.string y.name) ∧ W.cell? ⟨b4, o4 + z * 6 + 1, none⟩ = some (.int .i64 y.kind) ∧ W.cell? ⟨b4, o4 + z * 6 + 2, none⟩ = some (.int .i64 y.x) ∧ W.cell? ⟨b4, o4 + z * 6 + 3, none⟩ = some (.int .i64 y.y) ∧ W.cell? ⟨b4, o4 + z * 6 + 4, none⟩ = some (.int .i64 y.w) ∧ W.cell? ⟨b4, o4 + z * 6 + 5, none⟩ = some (.int .i64 y.h))) 13 (by kernel_rfl) (by decide) ?_
          refine wpG_take 13 0 (v := ?_) rfl (by kernel_rfl) (fun _ _ _ h => h) (Or.inl ⟨by rfl, ?_⟩) (by assumption) ?_
          rotate_left
          · intro w hSw; (try dsimp only at hSw); go_simp; (try with_reducible rfl)
          (try simp only [Act.put, List.getElem_toArray, List.getElem_cons_zero, List.getElem_cons_succ, List.setIfInBounds_toArray, List.set_cons_zero, List.set_cons_succ])
          refine wpG_take 13 1 (v := ?_) rfl (by kernel_rfl) (fun _ _ _ h => h) (Or.inl ⟨by rfl, ?_⟩) (by assumption) ?_
          rotate_left
          · intro w hSw; (try dsimp only at hSw); go_simp; (try with_reducible rfl)
          (try simp only [Act.put, List.getElem_toArray, List.getElem_cons_zero, List.getElem_cons_succ, List.setIfInBounds_toArray, List.set_cons_zero, List.set_cons_succ])
          refine wpG_take 13 2 (v := ?_) rfl (by kernel_rfl) (fun _ _ _ h => h) (Or.inl ⟨by rfl, ?_⟩) (by assumption) ?_
          rotate_left
          · intro w hSw; (try dsimp only at hSw); go_simp; (try with_reducible rfl)
          (try simp only [Act.put, List.getElem_toArray, List.getElem_cons_zero, List.getElem_cons_succ, List.setIfInBounds_toArray, List.set_cons_zero, List.set_cons_succ])
          refine wpG_take 13 3 (v := ?_) rfl (by kernel_rfl) (fun _ _ _ h => h) (Or.inl ⟨by rfl, ?_⟩) (by assumption) ?_
          rotate_left
          · intro w hSw; (try dsimp only at hSw); go_simp; (try with_reducible rfl)
          (try simp only [Act.put, List.getElem_toArray, List.getElem_cons_zero, List.getElem_cons_succ, List.setIfInBounds_toArray, List.set_cons_zero, List.set_cons_succ])
          refine wpG_take 13 4 (v := ?_) rfl (by kernel_rfl) (fun _ _ _ h => h) (Or.inl ⟨by rfl, ?_⟩) (by assumption) ?_
          rotate_left
          · intro w hSw; (try dsimp only at hSw); go_simp; (try with_reducible rfl)
          (try simp only [Act.put, List.getElem_toArray, List.getElem_cons_zero, List.getElem_cons_succ, List.setIfInBounds_toArray, List.set_cons_zero, List.set_cons_succ])
          refine wpG_take 13 5 (v := ?_) rfl (by kernel_rfl) (fun _ _ _ h => h) (Or.inl ⟨by rfl, ?_⟩) (by assumption) ?_
          rotate_left
          · intro w hSw; (try dsimp only at hSw); go_simp; (try with_reducible rfl)
          (try simp only [Act.put, List.getElem_toArray, List.getElem_cons_zero, List.getElem_cons_succ, List.setIfInBounds_toArray, List.set_cons_zero, List.set_cons_succ])
          refine wpG_take 13 6 (v := ?_) rfl (by kernel_rfl) (fun _ _ _ h => h) (Or.inl ⟨by rfl, ?_⟩) (by assumption) ?_
          rotate_left
          · intro w hSw; (try dsimp only at hSw); go_simp; (try with_reducible rfl)
          (try simp only [Act.put, List.getElem_toArray, List.getElem_cons_zero, List.getElem_cons_succ, List.setIfInBounds_toArray, List.set_cons_zero, List.set_cons_succ])
          refine wpG_take 13 7 (v := ?_) rfl (by kernel_rfl) (fun _ _ _ h => h) (Or.inl ⟨by rfl, ?_⟩) (by assumption) ?_
          rotate_left
          · intro w hSw; (try dsimp only at hSw); go_simp; (try with_reducible rfl)
          (try simp only [Act.put, List.getElem_toArray, List.getElem_cons_zero, List.getElem_cons_succ, List.setIfInBounds_toArray, List.set_cons_zero, List.set_cons_succ])
          refine wpG_take 13 8 (v := ?_) rfl (by kernel_rfl) (fun _ _ _ h => h) (Or.inl ⟨by rfl, ?_⟩) (by assumption) ?_
          rotate_left
          · intro w hSw; (try dsimp only at hSw); go_simp; (try with_reducible rfl)
          (try simp only [Act.put, List.getElem_toArray, List.getElem_cons_zero, List.getElem_cons_succ, List.setIfInBounds_toArray, List.set_cons_zero, List.set_cons_succ])
          refine wpG_take 13 9 (v := ?_) rfl (by kernel_rfl) (fun _ _ _ h => h) (Or.inl ⟨by rfl, ?_⟩) (by assumption) ?_
          rotate_left
          · intro w hSw; (try dsimp only at hSw); go_simp; (try with_reducible rfl)
          (try simp only [Act.put, List.getElem_toArray, List.getElem_cons_zero, List.getElem_cons_succ, List.setIfInBounds_toArray, List.set_cons_zero, List.set_cons_succ])
          refine wpG_take 13 10 (v := ?_) rfl (by kernel_rfl) (fun _ _ _ h => h) (Or.inl ⟨by rfl, ?_⟩) (by assumption) ?_
          rotate_left
          · intro w hSw; (try dsimp only at hSw); go_simp; (try with_reducible rfl)
          (try simp only [Act.put, List.getElem_toArray, List.getElem_cons_zero, List.getElem_cons_succ, List.setIfInBounds_toArray, List.set_cons_zero, List.set_cons_succ])
          refine wpG_take 13 11 (v := ?_) rfl (by kernel_rfl) (fun _ _ _ h => h) (Or.inl ⟨by rfl, ?_⟩) (by assumption) ?_
          rotate_left
          · intro w hSw; (try dsimp only at hSw); go_simp; (try with_reducible rfl)
          (try simp only [Act.put, List.getElem_toArray, List.getElem_cons_zero, List.getElem_cons_succ, List.setIfInBounds_toArray, List.set_cons_zero, List.set_cons_succ])
          refine wpG_one (i := 12) (by kernel_rfl) ?_
          refine wpOp_step rfl (fun K hK => ?_)
          go_simp
          refine hK _ _ ⟨HK.out _ ((Below.refl _ _).drew.alloc (Nat.le_refl _) _), ?_⟩
          clear hK K
          (try simp only [Act.put, List.getElem_toArray, List.getElem_cons_zero, List.getElem_cons_succ, List.setIfInBounds_toArray, List.set_cons_zero, List.set_cons_succ])
          refine ⟨by kernel_rfl, ?_⟩
          simp only [List.drop_succ_cons, List.drop_zero]
          clear hS0
          go_upto_region 12 with (fail)
          have hB1 : Below wr.heap.size wr ((wr.alloc (Obj.cells #[.string y.name, .int .i64 y.kind, .int .i64 y.x, .int .i64 y.y, .int .i64 y.w, .int .i64 y.h] 70)).drew) := (below_new _ _).drew
          have hP1 : PAt ((wr.alloc (Obj.cells #[.string y.name, .int .i64 y.kind, .int .i64 y.x, .int .i64 y.y, .int .i64 y.w, .int .i64 y.h] 70)).drew) wr.heap.size 0 y := PAt_new wr 70 y
          have hD1 := HR.out.below hB1
          generalize ((wr.alloc (Obj.cells #[.string y.name, .int .i64 y.kind, .int .i64 y.x, .int .i64 y.y, .int .i64 y.w, .int .i64 y.h] 70)).drew) = W1 at *
          generalize wr.heap.size = lb at *
          have HD1 := Lib.hid hD1
          clear hB1 hD1 HK HR
          obtain ⟨-, -, l2, -, l4, -⟩ := hP1
          have g0 : W1.cell? ⟨w.heap.size, 0, none⟩ = some (.int .i64 G.W) := HD1.out.F.cell 0
          have g2 : W1.cell? ⟨w.heap.size, 2, none⟩ = some (.slice (some ⟨b4, o4, none⟩) n c4) := HD1.out.F.cell 2
          have p0 : W1.cell? ⟨w.heap.size + 1 + 1, 0, none⟩ = some (.slice (some ⟨bc, oc, none⟩) k cc) := HD1.out.P.cell 0
          have q0 := HD1.out.zc 0 (by have := HM.out; omega)
          rw [HZA.out, Nat.add_zero] at q0
          have hza0 : (0 : Int) ≤ (za : Int) := by omega
          have hza1 : (za : Int) < (n : Int) := by omega
          have hk0 : (0 : Int) < (k : Int) := by omega
          obtain ⟨-, -, x2, -, -, -⟩ := HD1.out.ps za (by have := HD1.out.nG; omega)
          have e1 : wrap64 (y.x + y.w) = y.x + y.w := IntWalk.wrap64_in _ (by omega)
          clear i1 i1' i2 i3 i4 v1 v2 v3 v4 v5 v6
          generalize (gp G.ps za).x = xa at *
          by_cases hb0 : xa = 0
          · have hx1 := bne_f hb0
            have HB00 : Hid (D.b za = 0) := by show _ = _; rw [HUB.out]; exact hb0
            clear hb0
            by_cases he : y.x + y.w = G.W
            · have hx2 := bne_f he
              have HEE : Hid (D.e z = D.side) := by show _ = _; rw [HUE.out, HSD.out]; exact he
              clear he
              go_wp2_with fail
              go_quiet (fail)
              have HD2 := Lib.hid (HD1.out.drewN nq)
              generalize W1.drewN nq = W2 at *
              clear HD1 g0 g2 p0 q0 x2 l2 l4 HUE HUB HSD
              go_wp2_with fail
              clear e1 hx1 hx2
              go_loopg [11, 12] k (fun gg s11 s12 wr => ∃ i : Nat, i ≤ k ∧ k - i ≤ gg ∧ s12 = .int .i64 i ∧ s11 = .int .i64 (chLen D zs i) ∧ Hid (ChD w wr n k D zs dn G sz (some ⟨bc, oc, none⟩) (some ⟨b4, o4, none⟩) Az bc oc cc b4 o4 c4 bz oz cz) ∧ Hid (∀ j, j < i → linkB D zs j = true))
              case atStart => exact ⟨0, Nat.zero_le _, by omega, rfl, rfl, HD2.out, fun j hj => absurd hj (Nat.not_lt_zero _)⟩
              case round =>
                as_aux_lemma =>
                obtain ⟨i, hi, hgi, rfl, rfl, HR, EL⟩ := hrel
                have p0 : wr.cell? ⟨w.heap.size + 1 + 1, 0, none⟩ = some (.slice (some ⟨bc, oc, none⟩) k cc) := HR.out.P.cell 0
                by_cases hlt2 : i < k
                · have hiz : (i : Int) < (k : Int) := by omega
                  have hi0 : (0 : Int) ≤ (i : Int) := by omega
                  obtain ⟨zi, hzi, hzin⟩ := HMIS.out i hlt2
                  have HZI := Lib.hid hzi
                  have q1 := HR.out.zc i (by have := HM.out; omega)
                  rw [hzi] at q1
                  have hziz : (zi : Int) < (n : Int) := by omega
                  have hzi0 : (0 : Int) ≤ (zi : Int) := by omega
                  obtain ⟨rfl, hbz⟩ := HR.out.lz (by omega)
                  have zz := HR.out.zz zi (by have := HR.out.ns; omega)
                  have hzb := HR.out.zb zi hzin
                  have hDn : D.n = n := by rw [HR.out.D]; exact HR.out.ns
                  have hlen := chLen_bound (D := D) (zs := zs) (m := k) (fun j hj => by have h1 := HR.out.zb j (by omega); have h2 := HSZ.out j (by omega); omega) (fun j hj => by rw [hDn]; exact HMIS.out j hj) i hi
                  have HCL : Hid (chLen D zs (i + 1) = chLen D zs i + gz sz zi) := (show chLen D zs i + D.s (gz zs i).toNat = _ by rw [hzi, Int.toNat_natCast, HSZ.out zi hzin])
                  have e1 : IntKind.i64.wrap (chLen D zs i + gz sz zi) = chLen D zs i + gz sz zi := IntWalk.i64_in _ (by omega)
                  clear hzb hlen hDn hzi
                  by_cases hi00 : 0 < i
                  · have hgt : (0 : Int) < (i : Int) := by omega
                    obtain ⟨zp, hzp, hzpn⟩ := HMIS.out (i - 1) (by omega)
                    have q2 := HR.out.zc (i - 1) (by have := HM.out; omega)
                    rw [hzp] at q2
                    have hzpz : (zp : Int) < (n : Int) := by omega
                    have hzp0 : (0 : Int) ≤ (zp : Int) := by omega
                    have i1 : (0 : Int) ≤ (i : Int) - 1 := by omega
                    have i1' : (1 : Int) ≤ (i : Int) := by omega
                    have i2 : (i : Int) - 1 < (k : Int) := by omega
                    have i3 : ((i : Int) - 1).toNat = i - 1 := by omega
                    have i4 : IntKind.i64.wrap ((i : Int) - 1) = (i : Int) - 1 := IntWalk.i64_in _ (by omega)
                    have f2 : wr.cell? ⟨w.heap.size, 2, none⟩ = some (.slice (some ⟨b4, o4, none⟩) n c4) := HR.out.F.cell 2
                    obtain ⟨c0, c1', c2', c3', c4', c5⟩ := HR.out.ps zi (by have := HR.out.nG; omega)
                    obtain ⟨d0, d1, d2, d3, d4, d5⟩ := HR.out.ps zp (by have := HR.out.nG; omega)
                    have HLK : Hid (linkB D zs i = nbB (gp G.ps zp) (gp G.ps zi)) := by
                      show _ = _
                      unfold linkB
                      rw [if_neg (by omega), hzp, HZI.out, Int.toNat_natCast, Int.toNat_natCast]
                      exact HLD.out zp zi hzpn hzin
                    have HNB := Lib.hid (neighbours_any (gp G.ps zp) (gp G.ps zi))
                    have HSM := Lib.hid (HR.out.sml hzpn)
                    have HSI := Lib.hid (HR.out.sml hzin)
                    clear hzp
                    generalize gp G.ps zp = pm at *
                    generalize gp G.ps zi = pi at *
                    cases hnb : nbB pm pi with
                    | true =>
                      go_upto_region 18 with (fail)
                      have xf := cell_regrown f2
                      have xp := cell_regrown p0
                      have xq := cell_regrown q1
                      have xr := cell_regrown q2
                      have y0 := cell_regrown d0
                      have y1 := cell_regrown d1
                      have y2 := cell_regrown d2
                      have y3 := cell_regrown d3
                      have y4 := cell_regrown d4
                      have y5 := cell_regrown d5
                      have x0 := cell_regrown c0
                      have x1 := cell_regrown c1'
                      have x2 := cell_regrown c2'
                      have x3 := cell_regrown c3'
                      have x4 := cell_regrown c4'
                      have x5 := cell_regrown c5
                      have cN : ∀ d os, Calls Try.prog 91 #[.agg (pcs pm), .agg (pcs pi)] (grow (redrawn wr d) os) fun e w'' => e = .returned (.bool true) ∧ ∃ p : Regrown, w'' = grow (redrawn wr p.d) p.os := fun d os => Calls.regrown_of (by have := HNB.out (grow (redrawn wr d) os) HSM.out HSI.out; rw [hnb] at this; exact this)
                      refine wp_region_quiet_below (by kernel_rfl) (by kernel_rfl) ?_
                      repeat (first | go_big_quiet_step (exact cN _ _) | quiet_step (exact cN _ _))
                      refine wpQuiet_nil ?_
                      intro _ hw'
                      obtain ⟨⟨dq, osq⟩, hw''⟩ := hw'
                      subst hw''
                      have b3 := below_regrown wr dq osq
                      generalize grow (redrawn wr dq) osq = w3 at *
                      have HR3 := Lib.hid (HR.out.below b3)
                      clear xf xp xq xr y0 y1 y2 y3 y4 y5 x0 x1 x2 x3 x4 x5 cN f2 p0 q1 q2 c0 c1' c2' c3' c4' c5 d0 d1 d2 d3 d4 d5 zz HR
                      have p0 : w3.cell? ⟨w.heap.size + 1 + 1, 0, none⟩ = some (.slice (some ⟨bc, oc, none⟩) k cc) := HR3.out.P.cell 0
                      have q1 := HR3.out.zc i (by have := HM.out; omega)
                      rw [HZI.out] at q1
                      have zz := HR3.out.zz zi (by have := HR3.out.ns; omega)
                      go_wp2_with fail
                      go_roundg (k - (i + 1))
                      case measure => omega
                      case rel =>
                        refine ⟨i + 1, by omega, by omega, by go_num, ?_, HR3.out, (show ∀ j, _ from fun j hj => ?_)⟩
                        · rw [HCL.out]
                        · by_cases e : j = i
                          · rw [e]; exact HLK.out.trans hnb
                          · exact EL.out j (by omega)
                    | false =>
                      go_upto_region 18 with (fail)
                      have xf := cell_regrown f2
                      have xp := cell_regrown p0
                      have xq := cell_regrown q1
                      have xr := cell_regrown q2
                      have y0 := cell_regrown d0
                      have y1 := cell_regrown d1
                      have y2 := cell_regrown d2
                      have y3 := cell_regrown d3
                      have y4 := cell_regrown d4
                      have y5 := cell_regrown d5
                      have x0 := cell_regrown c0
                      have x1 := cell_regrown c1'
                      have x2 := cell_regrown c2'
                      have x3 := cell_regrown c3'
                      have x4 := cell_regrown c4'
                      have x5 := cell_regrown c5
                      have cN : ∀ d os, Calls Try.prog 91 #[.agg (pcs pm), .agg (pcs pi)] (grow (redrawn wr d) os) fun e w'' => e = .returned (.bool false) ∧ ∃ p : Regrown, w'' = grow (redrawn wr p.d) p.os := fun d os => Calls.regrown_of (by have := HNB.out (grow (redrawn wr d) os) HSM.out HSI.out; rw [hnb] at this; exact this)
                      refine wp_region_quiet_below (by kernel_rfl) (by kernel_rfl) ?_
                      repeat (first | go_big_quiet_step (exact cN _ _) | quiet_step (exact cN _ _))
                      refine wpQuiet_nil ?_
                      intro _ hw'
                      obtain ⟨⟨dq, osq⟩, hw''⟩ := hw'
                      subst hw''
                      have b3 := below_regrown wr dq osq
                      generalize grow (redrawn wr dq) osq = w3 at *
                      have HR3 := Lib.hid (HR.out.below b3)
                      clear xf xp xq xr y0 y1 y2 y3 y4 y5 x0 x1 x2 x3 x4 x5 cN f2 p0 q1 q2 c0 c1' c2' c3' c4' c5 d0 d1 d2 d3 d4 d5 zz HR
                      go_wp2_with fail
                      go_ret2
                      rw [HC.out, chainC_open HM.out hlt2 (HLK.out.trans hnb)]
                      exact ⟨rfl, HR3.out.B⟩
                  · have hgt : ¬ (0 : Int) < (i : Int) := by omega
                    go_upto_region 18 with (fail)
                    go_quiet (fail)
                    have HR3 := Lib.hid (HR.out.drewN nq)
                    generalize wr.drewN nq = w3 at *
                    clear HR p0 q1 zz
                    have p0 : w3.cell? ⟨w.heap.size + 1 + 1, 0, none⟩ = some (.slice (some ⟨bc, oc, none⟩) k cc) := HR3.out.P.cell 0
                    have q1 := HR3.out.zc i (by have := HM.out; omega)
                    rw [HZI.out] at q1
                    have zz := HR3.out.zz zi (by have := HR3.out.ns; omega)
                    go_wp2_with fail
                    go_roundg (k - (i + 1))
                    case measure => omega
                    case rel =>
                      refine ⟨i + 1, by omega, by omega, by go_num, ?_, HR3.out, (show ∀ j, _ from fun j hj => ?_)⟩
                      · rw [HCL.out]
                      · by_cases e : j = i
                        · rw [e]; exact (show linkB D zs i = true by unfold linkB; rw [if_pos (by omega), HZA.out, Int.toNat_natCast, HB00.out]; rfl)
                        · exact EL.out j (by omega)
                · have hiz : ¬ (i : Int) < (k : Int) := by omega
                  have he2 : i = k := by omega
                  subst he2
                  go_wp2_with fail
                  go_ret2
                  rw [HC.out, chainC_good HM.out (by omega) EL.out HZL.out HEE.out]
                  exact ⟨rfl, HR.out.B⟩
            · have hx2 := bne_t he
              have HEE : Hid (D.e z ≠ D.side) := (show ¬ _ from by rw [HUE.out, HSD.out]; exact he)
              clear he
              go_wp2_with fail
              go_quiet (fail)
              go_wp2_with fail
              go_ret2
              rw [HC.out, chainC_end HM.out (by omega) HZL.out HEE.out]
              exact ⟨rfl, below_drewN HD1.out.B _⟩
          · have hx1 := bne_t hb0
            have HB00 : Hid (D.b za ≠ 0) := (show ¬ _ from by rw [HUB.out]; exact hb0)
            clear hb0
            go_wp2_with fail
            go_quiet (fail)
            go_wp2_with fail
            go_ret2
            rw [HC.out, chainC_open (k := 0) HM.out (by omega) (by unfold linkB; rw [if_pos rfl, HZA.out, Int.toNat_natCast]; exact decide_eq_false HB00.out)]
            exact ⟨rfl, below_drewN HD1.out.B _⟩
end Go.Proofs.Ytlfeoofchebbkaa
