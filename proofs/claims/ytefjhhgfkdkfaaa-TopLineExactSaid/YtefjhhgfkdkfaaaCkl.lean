/- CheckLine, LeftOf. -/
import Derived.Test.YtefjhhgfkdkfaaaFit
namespace Go.Proofs.Ytefjhhgfkdkfaaa
set_option linter.unusedSimpArgs false
set_option linter.unusedVariables false
open Go.RowKit Go.Lib
/-- The error of a line for a task. -/
def clE (t : Tsk) (me : Int) (zs : List Int) : Int :=
  if tkErr t ≠ 0 then tkErr t else if lnsE t.f me zs ≠ 0 then lnsE t.f me zs else if me ≠ t.me then 27 else if fitB t zs = false then 10 else if takR t.cs zs = none then 20 else if widL t.f zs ≠ me then 23 else 0
set_option maxRecDepth 100000 in
set_option maxHeartbeats 8000000 in
theorem checkLine_any (t : Tsk) (v vc vi vw : Value) (me : Int) (zs : List Int) (vz : Value) (w : World) (h : TkV w t v vc vi vw) (hz : IV w zs vz) (hn : t.f.name.size ≤ 9223372036854775807) (hm : t.f.sorts.length ≤ 100000) (hzm : zs.length ≤ 1000000) (hme : -9223372036854775808 ≤ me ∧ me ≤ 9223372036854775807) :
    Calls Try.prog 30 #[.agg (xts t v vc vi vw), .agg #[.int .i64 me, vz]] w (IntPost (clE t me zs) w) := by
  have hb0 := below_new w (.cells (xts t v vc vi vw) 51)
  have hb1 := below_new (w.alloc (.cells (xts t v vc vi vw) 51)) (.cells #[.int .i64 me, vz] 55)
  have hK := (Blk.new w 51 (xts t v vc vi vw)).below hb1 (by simp)
  have hL := Blk.new (w.alloc (.cells (xts t v vc vi vw) 51)) 55 #[.int .i64 me, vz]
  rw [World.size_alloc] at hL
  have HB := Lib.hid (hb0.trans (hb1.mono hb0.size))
  have HT := Lib.hid ((h.below hb0).below hb1)
  have HZ := Lib.hid ((hz.below hb0).below hb1)
  have HK := Lib.hid hK
  have HL := Lib.hid hL
  have HC := Lib.hid (checkTask_any t v vc vi vw _ HT.out hn hm)
  have HP : Hid (∀ W x, x = clE t me zs → Below w.heap.size w W → IntPost (clE t me zs) w (.returned (.int .i64 x)) W) := (show ∀ W x, _ from fun W x e h => by subst e; exact ⟨rfl, h⟩)
  have HE0 : Hid (clE t me zs = if tkErr t ≠ 0 then tkErr t else if lnsE t.f me zs ≠ 0 then lnsE t.f me zs else if me ≠ t.me then 27 else if fitB t zs = false then 10 else if takR t.cs zs = none then 20 else if widL t.f zs ≠ me then 23 else 0) := rfl
  obtain ⟨Av, cv, rfl⟩ := h.s.shape
  obtain ⟨Ac, _, _, cc, rfl, -⟩ := h.c.open
  obtain ⟨Ai, _, _, ci, rfl, -⟩ := h.i.open
  obtain ⟨Aw, cw, rfl, -, -⟩ := h.w.shape
  obtain ⟨Az, _, _, cz, rfl, -⟩ := hz.open
  have k0 := hK.cell 0
  have k1 := hK.cell 1
  have k2 := hK.cell 2
  have k3 := hK.cell 3
  have k4 := hK.cell 4
  have k5 := hK.cell 5
  have k6 := hK.cell 6
  clear hb0 hb1 hK hL h hz
  go_enter Try.func30, Try.ntmps30
  go_wp2_with fail
  refine HC.out.mono ?_
  generalize (w.alloc (.cells (xts t (.slice Av t.f.sorts.length cv) (.slice Ac t.cs.length cc) (.slice Ai t.ind.length ci) (.slice Aw t.words.length cw)) 51)).alloc (.cells #[.int .i64 me, .slice Az zs.length cz] 55) = W0 at *
  rintro e W1 ⟨rfl, hb1⟩
  have HB1 := Lib.hid (HB.out.trans (hb1.mono HB.out.size))
  have HT1 := Lib.hid (HT.out.below hb1)
  have HK1 := Lib.hid (HK.out.below hb1 HK.out.lt)
  have HL1 := Lib.hid (HL.out.below hb1 HL.out.lt)
  have HZ1 := Lib.hid (HZ.out.below hb1)
  clear hb1 k0 k1 k2 k3 k4 k5 k6 HB HT HK HL HZ HC
  by_cases hq : tkErr t = 0
  · have HOK := Lib.hid (tk_ok hq)
    have hbn := bne_f hq
    have HE1 := Lib.hid (HE0.out.trans (if_neg (fun h => h hq)))
    rw [hq] at hbn ⊢
    clear hq HE0
    have k0 := HK1.out.cell 0
    have k1 := HK1.out.cell 1
    have k2 := HK1.out.cell 2
    have kl := HK1.out.lt
    have hfew := (fnErr_few HOK.out.f).2
    have HCF := Lib.hid (faceOf_any t.f _ W1 HT1.out.s hm)
    go_wp2_with fail
    refine HCF.out.mono ?_
    rintro e W2 ⟨vs, rfl, hio, hb2⟩
    obtain ⟨As, cs', rfl⟩ := hio.shape
    have hbx := below_new W2 (.cells (xfs t.f (.slice Av t.f.sorts.length cv) (.slice As (spl t.f.sorts t.f.sorts.length).length cs')) 116)
    have hb3 := hb2.trans (hbx.mono hb2.size)
    have HX3 := Lib.hid (Blk.new W2 116 (xfs t.f (.slice Av t.f.sorts.length cv) (.slice As (spl t.f.sorts t.f.sorts.length).length cs')))
    have HB3 := Lib.hid (HB1.out.trans (hb3.mono HB1.out.size))
    have HT3 := Lib.hid (HT1.out.below hb3)
    have HK3 := Lib.hid (HK1.out.below hb3 HK1.out.lt)
    have HL3 := Lib.hid (HL1.out.below hb3 HL1.out.lt)
    have HZ3 := Lib.hid (HZ1.out.below hb3)
    have HLE := Lib.hid (lineErr_any t.f (.slice Av t.f.sorts.length cv) (.slice As (spl t.f.sorts t.f.sorts.length).length cs') me zs _ _ HT3.out.s HZ3.out hzm)
    have l0 := HL3.out.cell 0
    have l1 := HL3.out.cell 1
    have ll := HL3.out.lt
    clear hio hb2 hbx hb3 k0 k1 k2 kl HCF HB1 HT1 HK1 HL1 HZ1
    go_wp2_with fail
    refine HLE.out.mono ?_
    generalize hW3 : W2.alloc (.cells (xfs t.f (.slice Av t.f.sorts.length cv) (.slice As (spl t.f.sorts t.f.sorts.length).length cs')) 116) = W3 at *
    generalize W2.heap.size = g6 at *
    clear hW3
    rintro e W4 ⟨rfl, hb4⟩
    have HB4 := Lib.hid (HB3.out.trans (hb4.mono HB3.out.size))
    have HT4 := Lib.hid (HT3.out.below hb4)
    have HK4 := Lib.hid (HK3.out.below hb4 HK3.out.lt)
    have HL4 := Lib.hid (HL3.out.below hb4 HL3.out.lt)
    have HZ4 := Lib.hid (HZ3.out.below hb4)
    have HX4 := Lib.hid (HX3.out.below hb4 HX3.out.lt)
    clear hb4 l0 l1 ll HLE HB3 HT3 HK3 HL3 HZ3 HX3
    by_cases hl : lnsE t.f me zs = 0
    · obtain ⟨hme2, hzl, hin⟩ := lns_in hl
      have hbn2 := bne_f hl
      have HE2 := Lib.hid (HE1.out.trans (if_neg (fun h => h hl)))
      rw [hl] at hbn2 ⊢
      clear hl HE1
      have HIN := Lib.hid hin
      have k3 := HK4.out.cell 3
      have k6 := HK4.out.cell 6
      have kl := HK4.out.lt
      have l0 := HL4.out.cell 0
      have l1 := HL4.out.cell 1
      have ll := HL4.out.lt
      have HTK := Lib.hid (take_any t.cs zs _ _ W4 HT4.out.c HZ4.out (fun j hj => by rw [HOK.out.c.1]; exact hin j hj) (by rw [HOK.out.c.1]; exact HOK.out.c) (by rw [HOK.out.c.1]; omega) (by omega))
      clear hin
      go_wp2_with fail
      refine HTK.out.mono ?_
      rintro e W5 ⟨hb5, hans⟩
      have HB5 := Lib.hid (HB4.out.trans (hb5.mono HB4.out.size))
      have HT5 := Lib.hid (HT4.out.below hb5)
      have HK5 := Lib.hid (HK4.out.below hb5 HK4.out.lt)
      have HL5 := Lib.hid (HL4.out.below hb5 HL4.out.lt)
      have HZ5 := Lib.hid (HZ4.out.below hb5)
      have HX5 := Lib.hid (HX4.out.below hb5 HX4.out.lt)
      obtain ⟨vt, bt, rfl, HBT⟩ : ∃ vt bt, e = .returned (.tuple #[vt, .bool bt]) ∧ Hid (bt = false ↔ takR t.cs zs = none) := by
        rcases hans with ⟨h1, h2⟩ | ⟨out, v, h1, h2, -, -⟩
        · exact ⟨_, false, h2, (show _ ↔ _ from Iff.intro (fun _ => h1) (fun _ => rfl))⟩
        · exact ⟨_, true, h2, (show _ ↔ _ from Iff.intro (fun h => by cases h) (fun h => by rw [h1] at h; cases h))⟩
      clear hb5 hans k3 k6 kl l0 l1 ll HTK HB4 HT4 HK4 HL4 HZ4 HX4
      have k0 := HK5.out.cell 0
      have k1 := HK5.out.cell 1
      have k2 := HK5.out.cell 2
      have k3 := HK5.out.cell 3
      have k4 := HK5.out.cell 4
      have k5 := HK5.out.cell 5
      have k6 := HK5.out.cell 6
      have kl := HK5.out.lt
      have l0 := HL5.out.cell 0
      have l1 := HL5.out.cell 1
      have ll := HL5.out.lt
      have x0 := HX5.out.cell 0
      have x1 := HX5.out.cell 1
      have x2 := HX5.out.cell 2
      have x3 := HX5.out.cell 3
      have xl := HX5.out.lt
      by_cases hmm : me = t.me
      · have hbn3 := bne_f hmm
        have HE3 := Lib.hid (HE2.out.trans (if_neg (fun h => h hmm)))
        clear HE2
        have HMM := Lib.hid hmm
        clear hmm
        have HFT := Lib.hid (fits_any t _ (.slice As (spl t.f.sorts t.f.sorts.length).length cs') _ _ _ zs _ W5 HT5.out HZ5.out HIN.out (by omega) (by omega) (by have := HOK.out.i12; omega) (by have := HOK.out.w30; omega) (fun k hk => by have := (HOK.out.wd k hk).2.1; omega))
        go_wp2_with fail
        refine HFT.out.mono ?_
        rintro e W6 ⟨rfl, hb6⟩
        have HB6 := Lib.hid (HB5.out.trans (hb6.mono HB5.out.size))
        have HT6 := Lib.hid (HT5.out.below hb6)
        have HL6 := Lib.hid (HL5.out.below hb6 HL5.out.lt)
        have HZ6 := Lib.hid (HZ5.out.below hb6)
        have HX6 := Lib.hid (HX5.out.below hb6 HX5.out.lt)
        clear hb6 k0 k1 k2 k3 k4 k5 k6 kl l0 l1 ll x0 x1 x2 x3 xl HFT HB5 HT5 HK5 HL5 HZ5 HX5
        cases hfb : fitB t zs with
        | false =>
          have HX := Lib.hid (HE3.out.trans (if_pos hfb))
          go_wp2_with fail
          go_ret
          exact HP.out _ _ HX.out.symm HB6.out
        | true =>
          have HE4 := Lib.hid (HE3.out.trans (if_neg (by rw [hfb]; simp)))
          clear HE3 hfb
          cases bt with
          | false =>
            have HX := Lib.hid (HE4.out.trans (if_pos (HBT.out.1 rfl)))
            clear HBT
            go_wp2_with fail
            go_ret
            exact HP.out _ _ HX.out.symm HB6.out
          | true =>
            have HE5 := Lib.hid (HE4.out.trans (if_neg (fun h => by have := HBT.out.2 h; cases this)))
            clear HE4 HBT
            have l0 := HL6.out.cell 0
            have l1 := HL6.out.cell 1
            have x0 := HX6.out.cell 0
            have x1 := HX6.out.cell 1
            have x2 := HX6.out.cell 2
            have x3 := HX6.out.cell 3
            have HW : Hid (∀ W, Below W6.heap.size W6 W → Calls Try.prog 74 #[.agg (xfs t.f (.slice Av t.f.sorts.length cv) (.slice As (spl t.f.sorts t.f.sorts.length).length cs')), .slice Az zs.length cz] W (IntPost (widL t.f zs) W)) := (show ∀ W, _ from fun W hW => widthF_any t.f _ _ zs _ W (HT6.out.s.below hW) HOK.out.f (HZ6.out.below hW) HIN.out (by omega))
            have xl0 := cell_regrown l0
            have xl1 := cell_regrown l1
            have xx0 := cell_regrown x0
            have xx1 := cell_regrown x1
            have xx2 := cell_regrown x2
            have xx3 := cell_regrown x3
            have c1 : ∀ d os, Calls Try.prog 74 #[.agg #[.string t.f.name, .int .i64 t.f.body, .slice Av t.f.sorts.length cv, .slice As (spl t.f.sorts t.f.sorts.length).length cs'], .slice Az zs.length cz] (Go.Sort.grow (redrawn W6 d) os) fun e w'' => e = .returned (.int .i64 (widL t.f zs)) ∧ ∃ p : Regrown, w'' = Go.Sort.grow (redrawn W6 p.d) p.os := fun d os => Calls.regrown_of (HW.out (Go.Sort.grow (redrawn W6 d) os) (below_regrown W6 d os))
            generalize hwd : widL t.f zs = wd' at *
            go_upto_region 15 with fail
            refine wp_region_quiet_below (by kernel_rfl) (by kernel_rfl) ?_
            repeat (first | go_big_quiet_step (with_reducible exact c1 _ _) | quiet_step (with_reducible exact c1 _ _))
            refine wpQuiet_nil ?_
            intro _ hw'
            obtain ⟨⟨dq, osq⟩, hw''⟩ := hw'
            subst hw''
            have HB7 := Lib.hid (HB6.out.trans ((below_regrown W6 dq osq).mono HB6.out.size))
            clear xl0 xl1 xx0 xx1 xx2 xx3 c1 l0 l1 x0 x1 x2 x3
            generalize Go.Sort.grow (redrawn W6 dq) osq = W7 at *
            by_cases hww : wd' = me
            · have hbn4 := bne_f hww
              have HX := Lib.hid (HE5.out.trans (if_neg (fun h => h hww)))
              clear hww
              go_wp2_with fail
              go_ret
              exact HP.out _ _ HX.out.symm HB7.out
            · have hbn4 := bne_t hww
              have HX := Lib.hid (HE5.out.trans (if_pos hww))
              go_wp2_with fail
              go_ret
              exact HP.out _ _ HX.out.symm HB7.out
      · have hbn3 := bne_t hmm
        have HX := Lib.hid (HE2.out.trans (if_pos hmm))
        go_wp2_with fail
        go_ret
        exact HP.out _ _ HX.out.symm HB5.out
    · have hbn2 := bne_t hl
      have HX := Lib.hid (HE1.out.trans (if_pos hl))
      generalize lnsE t.f me zs = le at *
      go_wp2_with fail
      go_ret
      exact HP.out _ _ HX.out.symm HB4.out
  · have hbn := bne_t hq
    have HX := Lib.hid (HE0.out.trans (if_pos hq))
    clear HE0
    generalize tkErr t = te at *
    go_wp2_with fail
    go_ret
    exact HP.out _ _ HX.out.symm HB1.out
end Go.Proofs.Ytefjhhgfkdkfaaa
/- LeftOf: what a line leaves of the case. -/
namespace Go.Proofs.Ytefjhhgfkdkfaaa
set_option linter.unusedSimpArgs false
set_option linter.unusedVariables false
open Go.RowKit
theorem cl_ok {t : Tsk} {me : Int} {zs : List Int} (h : clE t me zs = 0) : TkOk t ∧ (zs.length ≤ 300 ∧ InF t.f zs) ∧ me = t.me ∧ fitB t zs = true ∧ takR t.cs zs ≠ none ∧ widL t.f zs = me := by
  unfold clE at h
  split at h
  · omega
  rename_i h0
  split at h
  · omega
  rename_i h1
  split at h
  · omega
  rename_i h2
  split at h
  · omega
  rename_i h3
  split at h
  · omega
  rename_i h4
  split at h
  · omega
  rename_i h5
  have := lns_in (Classical.not_not.1 h1)
  refine ⟨tk_ok (Classical.not_not.1 h0), this.2, Classical.not_not.1 h2, ?_, h4, Classical.not_not.1 h5⟩
  cases hq : fitB t zs with
  | true => rfl
  | false => exact absurd hq h3
def LfPost (t : Tsk) (me : Int) (zs : List Int) (w : World) (e : Ending) (w' : World) : Prop := Below w.heap.size w w' ∧ ((clE t me zs ≠ 0 ∧ e = .returned (.tuple #[.slice none 0 0, .int .i64 (clE t me zs)])) ∨
  (clE t me zs = 0 ∧ ∃ lf v, takR t.cs zs = some lf ∧ e = .returned (.tuple #[v, .int .i64 0]) ∧ IO w' w.heap.size lf v))
set_option maxRecDepth 100000 in
set_option maxHeartbeats 4000000 in
theorem leftOf_any (t : Tsk) (v vc vi vw : Value) (me : Int) (zs : List Int) (vz : Value) (w : World) (h : TkV w t v vc vi vw) (hz : IV w zs vz) (hn : t.f.name.size ≤ 9223372036854775807) (hm : t.f.sorts.length ≤ 100000) (hzm : zs.length ≤ 1000000) (hme : -9223372036854775808 ≤ me ∧ me ≤ 9223372036854775807) :
    Calls Try.prog 24 #[.agg (xts t v vc vi vw), .agg #[.int .i64 me, vz]] w (LfPost t me zs w) := by
  have hb0 := below_new w (.cells (xts t v vc vi vw) 51)
  have hb1 := below_new (w.alloc (.cells (xts t v vc vi vw) 51)) (.cells #[.int .i64 me, vz] 55)
  have hK := (Blk.new w 51 (xts t v vc vi vw)).below hb1 (by simp)
  have hL := Blk.new (w.alloc (.cells (xts t v vc vi vw) 51)) 55 #[.int .i64 me, vz]
  rw [World.size_alloc] at hL
  have HB := Lib.hid (hb0.trans (hb1.mono hb0.size))
  have HT := Lib.hid ((h.below hb0).below hb1)
  have HZ := Lib.hid ((hz.below hb0).below hb1)
  have HK := Lib.hid hK
  have HL := Lib.hid hL
  have HC := Lib.hid (checkLine_any t v vc vi vw me zs vz _ HT.out HZ.out hn hm hzm hme)
  have HE : Hid (∀ W y, y = clE t me zs → y ≠ 0 → Below w.heap.size w W → LfPost t me zs w (.returned (.tuple #[.slice none 0 0, .int .i64 y])) W) := (show ∀ W y, _ from fun W y e h0 h => by subst e; exact ⟨h, .inl ⟨h0, rfl⟩⟩)
  have HS : Hid (∀ W lf u, clE t me zs = 0 → takR t.cs zs = some lf → IO W w.heap.size lf u → Below w.heap.size w W → LfPost t me zs w (.returned (.tuple #[u, .int .i64 0])) W) := (show ∀ W lf u, _ from fun W lf u h0 h1 h2 h => ⟨h, .inr ⟨h0, lf, u, h1, rfl, h2⟩⟩)
  obtain ⟨Av, cv, rfl⟩ := h.s.shape
  obtain ⟨Ac, _, _, cc, rfl, -⟩ := h.c.open
  obtain ⟨Ai, _, _, ci, rfl, -⟩ := h.i.open
  obtain ⟨Aw, cw, rfl, -, -⟩ := h.w.shape
  obtain ⟨Az, _, _, cz, rfl, -⟩ := hz.open
  have k0 := hK.cell 0
  have k1 := hK.cell 1
  have k2 := hK.cell 2
  have k3 := hK.cell 3
  have k4 := hK.cell 4
  have k5 := hK.cell 5
  have k6 := hK.cell 6
  have l0 := hL.cell 0
  have l1 := hL.cell 1
  clear hb0 hb1 hK hL h hz
  go_enter Try.func24, Try.ntmps24
  go_wp2_with fail
  refine HC.out.mono ?_
  generalize (w.alloc (.cells (xts t (.slice Av t.f.sorts.length cv) (.slice Ac t.cs.length cc) (.slice Ai t.ind.length ci) (.slice Aw t.words.length cw)) 51)).alloc (.cells #[.int .i64 me, .slice Az zs.length cz] 55) = W0 at *
  rintro e W1 ⟨rfl, hb1⟩
  have HB1 := Lib.hid (HB.out.trans (hb1.mono HB.out.size))
  have HT1 := Lib.hid (HT.out.below hb1)
  have HK1 := Lib.hid (HK.out.below hb1 HK.out.lt)
  have HL1 := Lib.hid (HL.out.below hb1 HL.out.lt)
  have HZ1 := Lib.hid (HZ.out.below hb1)
  clear hb1 k0 k1 k2 k3 k4 k5 k6 l0 l1 HB HT HK HL HZ HC
  by_cases hq : clE t me zs = 0
  · have hbn := bne_f hq
    have HQ := Lib.hid hq
    obtain ⟨hok, ⟨hzl, hin⟩, -, -, hsome, -⟩ := cl_ok hq
    have HOK := Lib.hid hok
    have HSM := Lib.hid hsome
    have hfew := (fnErr_few hok.f).2
    have HTK := Lib.hid (take_any t.cs zs _ _ W1 HT1.out.c HZ1.out (fun j hj => by rw [hok.c.1]; exact hin j hj) (by rw [hok.c.1]; exact hok.c) (by rw [hok.c.1]; omega) (by omega))
    rw [hq] at hbn ⊢
    have k3 := HK1.out.cell 3
    have l1 := HL1.out.cell 1
    have kl := HK1.out.lt
    have ll := HL1.out.lt
    clear hq hok hin hsome
    go_wp2_with fail
    refine HTK.out.mono ?_
    rintro e W2 ⟨hb2, hans⟩
    have HB2 := Lib.hid (HB1.out.trans (hb2.mono HB1.out.size))
    rcases hans with ⟨h1, h2⟩ | ⟨out, u, h1, rfl, -, hio⟩
    · exact absurd h1 HSM.out
    · have HIO := Lib.hid (hio.base HB1.out.size)
      have HO := Lib.hid h1
      clear hb2 h1 hio
      go_wp2_with fail
      refine bodyPost_ret (results_tmp2 rfl _ _ _) rfl ?_
      exact HS.out _ _ _ HQ.out HO.out HIO.out HB2.out
  · have hbn := bne_t hq
    have HQ := Lib.hid hq
    generalize clE t me zs = ce at *
    go_wp2_with fail
    refine bodyPost_ret (results_tmp2 rfl _ _ _) rfl ?_
    exact HE.out _ _ rfl HQ.out HB1.out
end Go.Proofs.Ytefjhhgfkdkfaaa
