/- demerits of a set line. -/
import Derived.Test.YtefjhhgfkdkfaaaSml
namespace Go.Proofs.Ytefjhhgfkdkfaaa
set_option linter.unusedSimpArgs false
set_option linter.unusedVariables false
open Go.RowKit
theorem abs_max (x : Int) : max x (-x) = absI x := by unfold absI; split <;> omega
theorem sq_le {x a : Int} (h0 : 0 ≤ x) (h1 : x ≤ a) : 0 ≤ x * x ∧ x * x ≤ a * a := ⟨Int.mul_nonneg h0 h0, Int.mul_le_mul h1 h1 h0 (by omega)⟩
set_option maxRecDepth 100000 in
set_option maxHeartbeats 4000000 in
theorem demerits_any (f : Fnt) (v : Value) (r : Rls) (ws : List PWord) (vw vp : Value) (pb i j : Nat) (l : Ln) (vps : Value) (w : World) (h : PA w pb f v r ws vw vp) (hok : POk f r ws) (hi : i < (places ws).length) (hj : j < (places ws).length) (hl : LV w l.ps vps) (h1 : l.ps.length ≤ 1000) (h3 : -2000000000 ≤ l.room ∧ l.room ≤ 2000000000) :
    Calls Try.prog 41 #[.pointer (some ⟨pb, 0, none⟩), .agg (lcs i j vps l.room l.ends)] w fun e w' => e = .returned (.int .i64 (demF f r l (divB ws i) (divB ws j))) ∧ Below w.heap.size w w' := by
  obtain ⟨A, c, rfl, -, -⟩ := hl.shape
  have hm := hok.m
  have hru := hok.ru
  have hsi := hru.si
  have hdb := hru.db
  have HDI := Lib.hid (fun W (hW : Below w.heap.size w W) => divides_any f v r ws vw vp pb i W (h.step hW) hm hi)
  have HDJ := Lib.hid (fun W (hW : Below w.heap.size w W) => divides_any f v r ws vw vp pb j W (h.step hW) hm hj)
  have HP67 : Hid (∀ W, Below w.heap.size w W → W.cell? ⟨pb, 9, none⟩ = some (.int .i64 r.single) ∧ W.cell? ⟨pb, 10, none⟩ = some (.int .i64 r.double) ∧ pb < W.heap.size) := (show ∀ W, _ from fun W hW => by
    have := h.P.below hW h.P.lt
    exact ⟨this.cell 9, this.cell 10, this.lt⟩)
  have HDF : Hid (demF f r l (divB ws i) (divB ws j) = (if 0 < l.g ∧ ¬ (l.ends = true ∧ l.g * wd f r.gap ≤ l.room) then (absI (l.room - l.g * wd f r.gap) / l.g) * (absI (l.room - l.g * wd f r.gap) / l.g) else 0)
    + (if divB ws j = true then r.single + (if divB ws i = true then r.double else 0) else 0)) := rfl
  obtain ⟨dv, hdv⟩ : ∃ x, demF f r l (divB ws i) (divB ws j) = x := ⟨_, rfl⟩
  rw [hdv] at HDF ⊢
  clear hdv
  have hgg : l.g = (l.ps.length : Int) - 1 := rfl
  obtain ⟨sb, so, sc, hvs, hsb, zw⟩ := h.S.width hru.gap
  have hwg := wd_ok hok.fn hru.gap
  have hns := few_sorts hok.fn
  obtain ⟨gp, hgp⟩ : ∃ gp : Nat, r.gap = (gp : Int) := ⟨r.gap.toNat, by have := hru.gap; omega⟩
  have hgn : gp < f.sorts.length := by have := hru.gap; omega
  have z2 := h.P.cell 2
  have z7 := h.P.cell 7
  have hpl := h.P.lt
  rw [show (gcs f v r vw vp)[2]? = some v from rfl, hvs] at z2
  rw [show (gcs f v r vw vp)[7]? = some (.int .i64 r.gap) from rfl, hgp] at z7
  rw [hgp, Int.toNat_natCast] at zw
  generalize hsn : f.sorts.length = sn at *
  rw [hgp] at hwg HDF
  generalize hwx : wd f (gp : Int) = wx at *
  clear hvs hsn hgp hwx hok hru
  generalize hdj : divB ws j = dj at *
  generalize hdi : divB ws i = di at *
  clear hdj hdi
  have hb := below_new w (.cells (lcs i j (.slice A l.ps.length c) l.room l.ends) 92)
  have hB := Blk.new w 92 (lcs i j (.slice A l.ps.length c) l.room l.ends)
  have hBl := hB.lt
  have HBK := Lib.hid hB
  have HB := Lib.hid hb
  have HG := Lib.hid (fun W => gaps_any i j l.room l.ends A l.ps.length c W (by omega))
  have HWT := Lib.hid (fun W q1 q2 z2 z7 zw => wanted_any i j l.room l.ends A l.ps.length c pb sb so sn sc gp wx W (by omega) q1 q2 z2 z7 hgn zw hwg (by omega))
  rw [← hgg] at HG HWT
  have hg0 : -1 ≤ l.g ∧ l.g ≤ 1000 := by omega
  generalize l.ps.length = n at *
  generalize l.g = g at *
  generalize l.room = room at *
  generalize l.ends = ends at *
  clear hgg hl h hB hb
  have gw1 : -1 * wx ≤ g * wx := Int.mul_le_mul_of_nonneg_right hg0.1 (by omega)
  have gw2 : g * wx ≤ 1000 * 100000 := Int.mul_le_mul hg0.2 hwg.2 (by omega) (by omega)
  generalize hgw : g * wx = gw at *
  clear hgw
  go_enter Try.func41, Try.ntmps41
  go_upto_region 2 with fail
  generalize w.alloc (.cells (lcs i j (.slice A n c) room ends) 92) = W0 at *
  have HS : Hid (∀ W, Below W0.heap.size W0 W → (W.cell? ⟨w.heap.size, 0, none⟩ = some (.int .i64 i) ∧ W.cell? ⟨w.heap.size, 1, none⟩ = some (.int .i64 j) ∧ W.cell? ⟨w.heap.size, 2, none⟩ = some (.slice A n c) ∧ W.cell? ⟨w.heap.size, 3, none⟩ = some (.int .i64 room) ∧ W.cell? ⟨w.heap.size, 4, none⟩ = some (.bool ends)) ∧ (W.cell? ⟨pb, 2, none⟩ = some (.slice (some ⟨sb, so, none⟩) sn sc) ∧ W.cell? ⟨pb, 7, none⟩ = some (.int .i64 (gp : Int)) ∧ W.cell? ⟨sb, so + gp * 4 + 3, none⟩ = some (.int .i64 wx) ∧ Below W0.heap.size W0 W)) := (show ∀ W, _ from fun W hW => by
    have hk := HBK.out.below hW hBl
    have h2 := HB.out.trans (hW.mono HB.out.size)
    exact ⟨⟨hk.cell 0, hk.cell 1, hk.cell 2, hk.cell 3, hk.cell 4⟩, (h2.cell (p := ⟨pb, 2, none⟩) hpl).trans z2, (h2.cell (p := ⟨pb, 7, none⟩) hpl).trans z7, (h2.cell (p := ⟨sb, so + gp * 4 + 3, none⟩) hsb).trans zw, hW⟩)
  have HLT : Hid (∀ W, Below W0.heap.size W0 W → pb < W.heap.size ∧ sb < W.heap.size ∧ w.heap.size < W.heap.size ∧ Below w.heap.size w W) := (show ∀ W, _ from fun W hW => by
    have h2 := HB.out.trans (hW.mono HB.out.size)
    have := h2.size
    have := hW.size
    exact ⟨by omega, by omega, by omega, h2⟩)
  have HZ := Lib.hid hpl
  clear z2 z7 zw hpl hsb hBl
  obtain ⟨⟨a0, a1, a2, a3, a4⟩, -⟩ := HS.out W0 (Below.refl _ _)
  have al := (HLT.out W0 (Below.refl _ _)).2.2.1
  go_upto_region 3 with ((go_at_call 86; (with_reducible refine (HG.out _).mono ?_); rintro e w4 ⟨rfl, hb4⟩))
  clear a0 a1 a2 a3 a4 al
  have HWT2 : Hid (∀ W, (W.cell? ⟨w.heap.size, 0, none⟩ = some (.int .i64 i) ∧ W.cell? ⟨w.heap.size, 1, none⟩ = some (.int .i64 j) ∧ W.cell? ⟨w.heap.size, 2, none⟩ = some (.slice A n c) ∧ W.cell? ⟨w.heap.size, 3, none⟩ = some (.int .i64 room) ∧ W.cell? ⟨w.heap.size, 4, none⟩ = some (.bool ends)) ∧ (W.cell? ⟨pb, 2, none⟩ = some (.slice (some ⟨sb, so, none⟩) sn sc) ∧ W.cell? ⟨pb, 7, none⟩ = some (.int .i64 (gp : Int)) ∧ W.cell? ⟨sb, so + gp * 4 + 3, none⟩ = some (.int .i64 wx) ∧ Below W0.heap.size W0 W) → Calls Try.prog 87 #[.pointer (some ⟨pb, 0, none⟩), .agg (lcs i j (.slice A n c) room ends)] W fun e w' => e = .returned (.int .i64 gw) ∧ Below W0.heap.size W0 w') := (show ∀ W, _ from fun W hW => by
    have hl := HLT.out W hW.2.2.2.2
    exact (HWT.out W hl.1 hl.2.1 hW.2.1 hW.2.2.1 hW.2.2.2.1).mono fun e w' h => ⟨h.1, hW.2.2.2.2.trans (h.2.mono hW.2.2.2.2.size)⟩)
  go_cut [24] (fun s24 wx' => s24 = .bool (decide (0 < g ∧ ¬ (ends = true ∧ gw ≤ room))) ∧ Below W0.heap.size W0 wx')
  case first =>
    have hS0 := HS.out w4.drew hb4.drew
    have hS4 := HS.out w4 hb4
    have HB4 : Hid (∀ n, Below W0.heap.size W0 (w4.drewN n)) := (show ∀ n, _ from fun n => hb4.trans ((below_drewN _ n).mono hb4.size))
    have hl4 := (HLT.out w4 hb4).2.2.1
    by_cases hg : 0 < g
    · cases ends with
      | true =>
        go_region_held3 (fun W => (W.cell? ⟨w.heap.size, 0, none⟩ = some (.int .i64 i) ∧ W.cell? ⟨w.heap.size, 1, none⟩ = some (.int .i64 j) ∧ W.cell? ⟨w.heap.size, 2, none⟩ = some (.slice A n c) ∧ W.cell? ⟨w.heap.size, 3, none⟩ = some (.int .i64 room) ∧ W.cell? ⟨w.heap.size, 4, none⟩ = some (.bool true)) ∧ (W.cell? ⟨pb, 2, none⟩ = some (.slice (some ⟨sb, so, none⟩) sn sc) ∧ W.cell? ⟨pb, 7, none⟩ = some (.int .i64 (gp : Int)) ∧ W.cell? ⟨sb, so + gp * 4 + 3, none⟩ = some (.int .i64 wx) ∧ Below W0.heap.size W0 W))
          (first
            | exact hS0
            | exact HS.out _ hb5)
          ((go_at_call 87; (with_reducible refine (HWT2.out _ (by assumption)).mono ?_); rintro e w5 ⟨rfl, hb5⟩))

        all_goals (go_wp2_with fail; go_meet; exact ⟨congrArg Value.bool (by rw [Bool.eq_iff_iff]; simp [hg]), hb5⟩)
      | false =>
        obtain ⟨⟨a0, a1, a2, a3, a4⟩, -⟩ := hS4
        go_quiet (fail)
        go_wp2_with fail; go_meet; exact ⟨congrArg Value.bool (by rw [Bool.eq_iff_iff]; simp [hg]), HB4.out nq⟩
    · obtain ⟨⟨a0, a1, a2, a3, a4⟩, -⟩ := hS4
      go_quiet (fail)
      go_wp2_with fail; go_meet; exact ⟨congrArg Value.bool (by rw [Bool.eq_iff_iff]; simp; omega), HB4.out nq⟩
  case rest =>
    obtain ⟨rfl, hbc⟩ := hcut
    go_upto_if 24 with fail
    go_cut [5] (fun s5 wx' => ∃ x : Int, s5 = .int .i64 x ∧ Below W0.heap.size W0 wx' ∧ (x = if 0 < g ∧ ¬ (ends = true ∧ gw ≤ room) then (absI (room - gw) / g) * (absI (room - gw) / g) else 0) ∧ 0 ≤ x ∧ x ≤ 2200000000 * 2200000000)
    case first =>
      by_cases hc : 0 < g ∧ ¬ (ends = true ∧ gw ≤ room)
      · rw [decide_eq_true hc]
        have hg := hc.1
        have HC : Hid (0 < g ∧ ¬ (ends = true ∧ gw ≤ room)) := hc
        clear hc
        have hS0 := HS.out wc.drew hbc.drew
        have HMX := Lib.hid (abs_max (room - gw))
        have hab := absI_le (x := room - gw) (a := 2200000000) (by omega) (by omega)
        have hq0 : 0 ≤ absI (room - gw) / g := Int.ediv_nonneg hab.1 (by omega)
        have hq1 : absI (room - gw) / g ≤ 2200000000 := Int.le_trans (Int.ediv_le_self _ hab.1) hab.2
        have hsq := sq_le hq0 hq1
        go_wp2_with fail
        go_region_held3 (fun W => (W.cell? ⟨w.heap.size, 0, none⟩ = some (.int .i64 i) ∧ W.cell? ⟨w.heap.size, 1, none⟩ = some (.int .i64 j) ∧ W.cell? ⟨w.heap.size, 2, none⟩ = some (.slice A n c) ∧ W.cell? ⟨w.heap.size, 3, none⟩ = some (.int .i64 room) ∧ W.cell? ⟨w.heap.size, 4, none⟩ = some (.bool ends)) ∧ (W.cell? ⟨pb, 2, none⟩ = some (.slice (some ⟨sb, so, none⟩) sn sc) ∧ W.cell? ⟨pb, 7, none⟩ = some (.int .i64 (gp : Int)) ∧ W.cell? ⟨sb, so + gp * 4 + 3, none⟩ = some (.int .i64 wx) ∧ Below W0.heap.size W0 W))
          (first
            | exact hS0
            | exact HS.out _ hb5)
          ((go_at_call 87; (with_reducible refine (HWT2.out _ (by assumption)).mono ?_); rintro e w5 ⟨rfl, hb5⟩))
        by_cases hs : -(room - gw) ≤ room - gw
        · have HE : Hid (absI (room - gw) = room - gw) := by show _ = _; unfold absI; split <;> omega
          have HEY : Hid (∀ y, y = absI (room - gw) → wrap64 (y / g * (y / g)) = absI (room - gw) / g * (absI (room - gw) / g)) := (show ∀ y, _ from by
            intro y hy
            rw [hy]
            generalize absI (room - gw) / g * (absI (room - gw) / g) = P at *
            exact IntWalk.wrap64_in P (by omega))
          go_wp2_with fail
          go_meet
          refine ⟨_, rfl, hb5, ?_⟩
          rw [HEY.out _ HE.out.symm]
          exact ⟨by rw [if_pos HC.out], hsq.1, hsq.2⟩
        · have HE : Hid (absI (room - gw) = -(room - gw)) := by show _ = _; unfold absI; split <;> omega
          have HEY : Hid (∀ y, y = absI (room - gw) → wrap64 (y / g * (y / g)) = absI (room - gw) / g * (absI (room - gw) / g)) := (show ∀ y, _ from by
            intro y hy
            rw [hy]
            generalize absI (room - gw) / g * (absI (room - gw) / g) = P at *
            exact IntWalk.wrap64_in P (by omega))
          go_wp2_with fail
          go_meet
          refine ⟨_, rfl, hb5, ?_⟩
          rw [HEY.out _ HE.out.symm]
          exact ⟨by rw [if_pos HC.out], hsq.1, hsq.2⟩
      · rw [decide_eq_false hc]
        have HC : Hid (¬ (0 < g ∧ ¬ (ends = true ∧ gw ≤ room))) := hc
        clear hc
        go_wp2_with fail
        go_meet
        exact ⟨_, rfl, hbc, by rw [if_neg HC.out], by omega, by omega⟩
    case rest =>
      obtain ⟨x, rfl, hbc, hx, hx0, hx1⟩ := hcut
      have HX := Lib.hid hx
      clear hx
      obtain ⟨⟨a0, a1, a2, a3, a4⟩, -⟩ := HS.out wc hbc
      obtain ⟨hl1, hl2, hl3, hb2⟩ := HLT.out wc hbc
      obtain ⟨p9, p10, -⟩ := HP67.out wc hb2
      have HBW := Lib.hid hb2
      have HJ := Lib.hid (HDJ.out wc hb2)
      have HI := Lib.hid (HDI.out wc hb2)
      cases dj with
      | false =>
        have HF : Hid (x = dv) := by show _ = _; rw [HDF.out, HX.out, if_neg (show ¬ (false = true) by decide)]; omega
        go_wp2_with ((go_at_call 88; (with_reducible refine HJ.out.mono ?_); rintro e w' ⟨rfl, rfl⟩))
        go_ret
        exact ⟨ret_int HF.out, HBW.out⟩
      | true =>
        cases di with
        | false =>
          have HF : Hid (x + r.single = dv) := by show _ = _; rw [HDF.out, HX.out, if_pos rfl, if_neg (show ¬ (false = true) by decide)]; omega
          go_wp2_with (first
            | (go_at_call 88; (with_reducible refine HJ.out.mono ?_); rintro e w' ⟨rfl, hw'⟩; have hw'' := hw'.symm; subst hw'')
            | (go_at_call 88; (with_reducible refine HI.out.mono ?_); rintro e w' ⟨rfl, hw'⟩; have hw'' := hw'.symm; subst hw''))
          go_ret
          exact ⟨ret_int HF.out, HBW.out⟩
        | true =>
          have HF : Hid (x + r.single + r.double = dv) := by show _ = _; rw [HDF.out, HX.out, if_pos rfl, if_pos rfl]; omega
          go_wp2_with (first
            | (go_at_call 88; (with_reducible refine HJ.out.mono ?_); rintro e w' ⟨rfl, hw'⟩; have hw'' := hw'.symm; subst hw'')
            | (go_at_call 88; (with_reducible refine HI.out.mono ?_); rintro e w' ⟨rfl, hw'⟩; have hw'' := hw'.symm; subst hw''))
          go_ret
          exact ⟨ret_int HF.out, HBW.out⟩
end Go.Proofs.Ytefjhhgfkdkfaaa
