/- The document's answer on a task: ref03.CheckTask. -/
import Derived.Test.YtefjhhgfkdkfaaaSpc
import Derived.Lib.QuietBelow
namespace Go.Proofs.Ytefjhhgfkdkfaaa
set_option linter.unusedSimpArgs false
set_option linter.unusedVariables false
open Go.RowKit Go.Lib
set_option maxRecDepth 100000 in
set_option maxHeartbeats 8000000 in
theorem refTask_any (t : Tsk) (v vc vi vw : Value) (w : World) (h : TkV w t v vc vi vw) (hn : t.f.name.size ≤ 9223372036854775807) (hm : t.f.sorts.length ≤ 1000) (hcm : t.cs.length ≤ 1000) (him : t.ind.length ≤ 1000) (hwm : t.words.length ≤ 1000) (hwl : ∀ k, k < t.words.length → (gl t.words k).length ≤ 1000) :
    Calls Try.prog 18 #[.agg (xts t v vc vi vw)] w (IntPost (tkErr t) w) := by
  have hb0 := below_new w (.cells (xts t v vc vi vw) 51)
  have HT0 := Lib.hid (h.below hb0)
  have HB0 := Lib.hid hb0
  have HK0 := Lib.hid (Blk.new w 51 (xts t v vc vi vw))
  have HC := Lib.hid (refErr_any t.f v _ HT0.out.s hn)
  obtain ⟨Av, cv, rfl⟩ := h.s.shape
  obtain ⟨Ac, _, _, cc, rfl, -⟩ := h.c.open
  obtain ⟨Ai, _, _, ci, rfl, -⟩ := h.i.open
  obtain ⟨Aw, cw, rfl, -, -⟩ := h.w.shape
  have HP : Hid (∀ W x, x = tkErr t → Below w.heap.size w W → IntPost (tkErr t) w (.returned (.int .i64 x)) W) := (show ∀ W x, _ from fun W x e h => by subst e; exact ⟨rfl, h⟩)
  have HX0 : Hid (tkErr t = if (fnErr t.f).2 ≠ 0 then (fnErr t.f).2 else if kiErr t.f ≠ 0 then kiErr t.f else if cntErr t.f.sorts.length t.cs ≠ 0 then cntErr t.f.sorts.length t.cs else tk1 t) := rfl
  have HX1' : Hid (tk1 t = if 12 < t.ind.length then 8 else if lstErr t.f t.ind true ≠ 0 then lstErr t.f t.ind true else tk2 t) := rfl
  have HX2' : Hid (tk2 t = if 30 < t.words.length then 8 else if wdsErr t.f t.words ≠ 0 then wdsErr t.f t.words else tk3 t) := rfl
  have HX3' : Hid (tk3 t = if 200 < t.ind.length + sumL t.words t.words.length then 8 else if win t.me 1 1000000 = false then 2 else 0) := rfl
  have HLI : Hid (lstErr t.f t.ind true = (fstE (fun j => srtErr t.f (gz t.ind j) true) t.ind.length).2) := rfl
  have HWE : Hid (wdsErr t.f t.words = (fstE (fun j => wdErr t.f (gl t.words j)) t.words.length).2) := rfl
  have HSS : Hid (∀ k, k < t.words.length → sumL t.words (k + 1) = sumL t.words k + (gl t.words k).length) := (show ∀ k, _ from fun k => sumL_succ)
  have HWL := Lib.hid hwl
  have k0 := HK0.out.cell 0
  have k1 := HK0.out.cell 1
  have k2 := HK0.out.cell 2
  clear hb0 h hwl
  go_enter Try.func18, Try.ntmps18
  go_wp2_with fail
  refine HC.out.mono ?_
  generalize w.alloc (.cells (xts t (.slice Av t.f.sorts.length cv) (.slice Ac t.cs.length cc) (.slice Ai t.ind.length ci) (.slice Aw t.words.length cw)) 51) = W0 at *
  rintro e W1 ⟨rfl, hb1⟩
  have HB1 := Lib.hid (HB0.out.trans (hb1.mono HB0.out.size))
  have HT1 := Lib.hid (HT0.out.below hb1)
  have HK1 := Lib.hid (HK0.out.below hb1 HK0.out.lt)
  clear hb1 k0 k1 k2 HC HB0 HT0 HK0
  by_cases hf : (fnErr t.f).2 = 0
  rotate_left
  · have hbn := bne_t hf
    have HX := Lib.hid (HX0.out.trans (if_pos hf))
    generalize (fnErr t.f).2 = fe at *
    go_wp2_with fail
    go_ret
    exact HP.out _ _ HX.out.symm HB1.out
  have hbn := bne_f hf
  have HFN := Lib.hid hf
  have HXa := Lib.hid (HX0.out.trans (if_neg (fun h => h hf)))
  rw [hf] at hbn ⊢
  clear hf HX0
  have k0 := HK1.out.cell 0
  have k1 := HK1.out.cell 1
  have k2 := HK1.out.cell 2
  have kl := HK1.out.lt
  have HC := Lib.hid (kinds52_any t.f _ W1 HT1.out.s hm)
  go_wp2_with fail
  refine HC.out.mono ?_
  rintro e W2 ⟨rfl, hb2⟩
  have HB2 := Lib.hid (HB1.out.trans (hb2.mono HB1.out.size))
  have HT2 := Lib.hid (HT1.out.below hb2)
  have HK2 := Lib.hid (HK1.out.below hb2 HK1.out.lt)
  clear hb2 k0 k1 k2 kl HC HB1 HT1 HK1 hbn
  by_cases hki : kiErr t.f = 0
  rotate_left
  · have hbn := bne_t hki
    have HX := Lib.hid (HXa.out.trans (if_pos hki))
    generalize kiErr t.f = fe at *
    go_wp2_with fail
    go_ret
    exact HP.out _ _ HX.out.symm HB2.out
  have hbn := bne_f hki
  have HXb := Lib.hid (HXa.out.trans (if_neg (fun h => h hki)))
  rw [hki] at hbn ⊢
  clear hki HXa
  have k0 := HK2.out.cell 0
  have k1 := HK2.out.cell 1
  have k2 := HK2.out.cell 2
  have k3 := HK2.out.cell 3
  have kl := HK2.out.lt
  have hca : caErr t.f t.cs = cntErr t.f.sorts.length t.cs := by unfold caErr; rw [if_neg (fun h => h HFN.out)]
  have hC53 := case53_any t.f (.slice Av t.f.sorts.length cv) t.cs (.slice Ac t.cs.length cc) W2 HT2.out.s hn HT2.out.c (by omega)
  rw [hca] at hC53
  have HC := Lib.hid hC53
  clear hca hC53
  go_wp2_with fail
  refine HC.out.mono ?_
  rintro e W3 ⟨rfl, hb3⟩
  have HB3 := Lib.hid (HB2.out.trans (hb3.mono HB2.out.size))
  have HT3 := Lib.hid (HT2.out.below hb3)
  have HK3 := Lib.hid (HK2.out.below hb3 HK2.out.lt)
  clear hb3 k0 k1 k2 k3 kl HC HB2 HT2 HK2 hbn
  by_cases hcn : cntErr t.f.sorts.length t.cs = 0
  rotate_left
  · have hbn := bne_t hcn
    have HX := Lib.hid (HXb.out.trans (if_pos hcn))
    generalize cntErr t.f.sorts.length t.cs = fe at *
    go_wp2_with fail
    go_ret
    exact HP.out _ _ HX.out.symm HB3.out
  have hbn := bne_f hcn
  have HXc := Lib.hid ((HXb.out.trans (if_neg (fun h => h hcn))).trans HX1'.out)
  rw [hcn] at hbn ⊢
  clear hcn HXb HX1'
  have k4 := HK3.out.cell 4
  have kl := HK3.out.lt
  by_cases hi : 12 < t.ind.length
  · have hiz : (12 : Int) < (t.ind.length : Int) := by omega
    have HX := Lib.hid (HXc.out.trans (if_pos hi))
    go_wp2_with fail
    go_ret
    exact HP.out _ _ HX.out.symm HB3.out
  have hiz : ¬ (12 : Int) < (t.ind.length : Int) := by omega
  have HXd := Lib.hid (HXc.out.trans (if_neg hi))
  clear HXc
  have HFE : Hid (lstErr t.f t.ind true ≠ 0 → tkErr t = lstErr t.f t.ind true) := (show _ → _ from fun h => HXd.out.trans (if_pos h))
  have hin : t.ind.length ≤ 12 := by omega
  clear k4 kl hi
  obtain ⟨A9, b9, o9, c9, he9, hA9, hz9, -, -⟩ := HT3.out.i.open
  injection he9 with e1 e2 e3
  clear e2 e3
  subst e1
  have HA9 := Lib.hid hA9
  have HZ9 := Lib.hid hz9
  clear hA9 hz9
  generalize hni : t.ind.length = ni at *
  have HNI := Lib.hid hni
  clear hni
  generalize hnw : t.words.length = N at *
  have HN := Lib.hid hnw
  clear hnw
  have HKS : Hid (∀ W, Below W3.heap.size W3 W → W.cell? ⟨w.heap.size, 0, none⟩ = some (.string t.f.name) ∧ W.cell? ⟨w.heap.size, 1, none⟩ = some (.int .i64 t.f.body) ∧ W.cell? ⟨w.heap.size, 2, none⟩ = some (.slice Av t.f.sorts.length cv) ∧ W.cell? ⟨w.heap.size, 4, none⟩ = some (.slice Ai ni ci) ∧ W.cell? ⟨w.heap.size, 5, none⟩ = some (.slice Aw N cw) ∧ W.cell? ⟨w.heap.size, 6, none⟩ = some (.int .i64 t.me)) := (show ∀ W, _ from fun W hW => by
    have h := HK3.out.below hW HK3.out.lt
    exact ⟨h.cell 0, h.cell 1, h.cell 2, h.cell 4, h.cell 5, h.cell 6⟩)
  have HCS : Hid (∀ W, Below W3.heap.size W3 W → ∀ s sp, Calls Try.prog 54 #[.agg #[.string t.f.name, .int .i64 t.f.body, .slice Av t.f.sorts.length cv], .int .i64 s, .bool sp] W (IntPost (srtErr t.f s sp) W)) := (show ∀ W, _ from fun W hW s sp => sort54_any t.f _ s sp W (HT3.out.s.below hW) hm)
  have k4 := HK3.out.cell 4
  have kl := HK3.out.lt
  go_wp2_with fail
  go_loopg [7, 8] ni (fun gg s7 _ wr => ∃ k : Nat, k ≤ ni ∧ ni - k ≤ gg ∧ s7 = .int .i64 (k : Int) ∧ Hid (Below W3.heap.size W3 wr) ∧ Hid (∀ j, j < k → srtErr t.f (gz t.ind j) true = 0))
  case atStart => exact ⟨0, by omega, by omega, rfl, Below.refl _ _, fun j hj => absurd hj (Nat.not_lt_zero _)⟩
  case round =>
    obtain ⟨k, hk, hg, rfl, HB, HO⟩ := hrel
    obtain ⟨y0, y1, y2, y4, y5, y6⟩ := HKS.out wr HB.out
    have HBr := Lib.hid (HB3.out.trans (HB.out.mono HB3.out.size))
    clear k4 kl
    by_cases hlt : k < ni
    · have hltz : (k : Int) < (ni : Int) := by omega
      obtain ⟨rfl, hbl⟩ := HA9.out (by omega)
      have z := (HB.out.cell (p := ⟨b9, o9 + k, none⟩) hbl).trans (HZ9.out k (by rw [HNI.out]; exact hlt))
      have HHIT : Hid (srtErr t.f (gz t.ind k) true ≠ 0 → tkErr t = srtErr t.f (gz t.ind k) true) := (show _ → _ from fun h => by
        have h9 : lstErr t.f t.ind true = srtErr t.f (gz t.ind k) true := HLI.out.trans (by rw [fstE_hit (g := fun j => srtErr t.f (gz t.ind j) true) h HO.out hlt])
        rw [HFE.out (by rw [h9]; exact h), h9])
      have HNXT : Hid (srtErr t.f (gz t.ind k) true = 0 → ∀ j, j < k + 1 → srtErr t.f (gz t.ind j) true = 0) := (show _ → _ from fun h j hj => by
        by_cases e : j = k
        · subst e; exact h
        · exact HO.out j (by omega))
      have HCC : Hid (∀ W, Below wr.heap.size wr W → Calls Try.prog 54 #[.agg #[.string t.f.name, .int .i64 t.f.body, .slice Av t.f.sorts.length cv], .int .i64 (gz t.ind k), .bool true] W (IntPost (srtErr t.f (gz t.ind k) true) W)) := (show ∀ W, _ from fun W hW => HCS.out W (HB.out.trans (hW.mono HB.out.size)) _ _)
      generalize hse : srtErr t.f (gz t.ind k) true = se at *
      generalize gz t.ind k = x at *
      clear hse
      go_upto_region 16 with fail
      have x0 := cell_regrown y0
      have x1 := cell_regrown y1
      have x2 := cell_regrown y2
      have x4 := cell_regrown y4
      have xz := cell_regrown z
      have c1 : ∀ d os, Calls Try.prog 54 #[.agg #[.string t.f.name, .int .i64 t.f.body, .slice Av t.f.sorts.length cv], .int .i64 x, .bool true] (Go.Sort.grow (redrawn wr d) os) fun e w'' => e = .returned (.int .i64 se) ∧ ∃ p : Regrown, w'' = Go.Sort.grow (redrawn wr p.d) p.os := fun d os => Calls.regrown_of (HCC.out (Go.Sort.grow (redrawn wr d) os) (below_regrown wr d os))
      refine wp_region_quiet_below (by kernel_rfl) (by kernel_rfl) ?_
      repeat (first | go_big_quiet_step (with_reducible exact c1 _ _) | quiet_step (with_reducible exact c1 _ _))
      refine wpQuiet_nil ?_
      intro _ hw'
      obtain ⟨⟨dq, osq⟩, hw''⟩ := hw'
      subst hw''
      have HB5 := Lib.hid (HB.out.trans ((below_regrown wr dq osq).mono HB.out.size))
      clear x0 x1 x2 x4 xz c1 y0 y1 y2 y4 y5 y6 z
      generalize Go.Sort.grow (redrawn wr dq) osq = W5 at *
      by_cases he : se = 0
      · have hbn := bne_f he
        have HZ := Lib.hid he
        clear he
        go_wp2_with fail
        go_roundg (ni - (k + 1))
        case measure => omega
        case rel => exact ⟨k + 1, by omega, by omega, by go_num, HB5.out, HNXT.out HZ.out⟩
      · have hbn := bne_t he
        have HX := Lib.hid (HHIT.out he)
        go_wp2_with fail
        go_ret
        exact HP.out _ _ HX.out.symm (HB3.out.trans (HB5.out.mono HB3.out.size))
    · have hltz : ¬ (k : Int) < (ni : Int) := by omega
      have hke : k = ni := by omega
      have HL0 : Hid (lstErr t.f t.ind true = 0) := (show _ = _ from HLI.out.trans (by rw [fstE_none (n := ni) (by rw [← hke]; exact HO.out)]))
      have HXe := Lib.hid ((HXd.out.trans (if_neg (fun h => h HL0.out))).trans HX2'.out)
      clear hke HXd HFE HL0 HO
      by_cases hw30 : 30 < N
      · have hwz : (30 : Int) < (N : Int) := by omega
        have HX := Lib.hid (HXe.out.trans (if_pos hw30))
        go_wp2_with fail
        go_ret
        exact HP.out _ _ HX.out.symm HBr.out
      have hwz : ¬ (30 : Int) < (N : Int) := by omega
      have HXf := Lib.hid (HXe.out.trans (if_neg hw30))
      clear HXe
      go_wp2_with fail
      have HBk := Lib.hid HB.out
      go_loopg [6, 9, 10, 11] N (fun gg s6 s9 _ _ wr => ∃ k : Nat, k ≤ N ∧ N - k ≤ gg ∧ s9 = .int .i64 (k : Int) ∧ s6 = .int .i64 ((ni : Int) + (sumL t.words k : Int)) ∧ sumL t.words k ≤ 60 * k ∧ Hid (Below W3.heap.size W3 wr) ∧ Hid (∀ j, j < k → wdErr t.f (gl t.words j) = 0))
      case atStart => exact ⟨0, by omega, by omega, rfl, by simp [sumL], by simp [sumL], HBk.out, fun j hj => absurd hj (Nat.not_lt_zero _)⟩
      case round =>
        obtain ⟨k, hk, hg, rfl, rfl, hsl, HB, HO⟩ := hrel
        have hq := HKS.out wr HB.out
        obtain ⟨q0, q1, q2, q4, q5, q6⟩ := hq
        have HBr := Lib.hid (HB3.out.trans (HB.out.mono HB3.out.size))
        have HTr := Lib.hid (HT3.out.below HB.out)
        clear y0 y1 y2 y4 y5 y6
        by_cases hlt : k < N
        · have hltz : (k : Int) < (N : Int) := by omega
          obtain ⟨hs, ⟨A0, b0, o0, c0, he, h1, h2, -⟩, h3⟩ := HTr.out.w
          rw [HN.out] at he h1 h2 h3
          injection he with ea1 ea2 ea3
          clear ea2 ea3
          subst ea1
          obtain ⟨rfl, hbl⟩ := h1 (by omega)
          have z1 := h2 k (by omega)
          have hiv := h3 k hlt
          have HSK := Lib.hid (HSS.out k (by first | exact hlt | (have := HN.out; omega)))
          have HHIT : Hid (wdErr t.f (gl t.words k) ≠ 0 → tkErr t = wdErr t.f (gl t.words k)) := (show _ → _ from fun h => by
            have h9 : wdsErr t.f t.words = wdErr t.f (gl t.words k) := HWE.out.trans (by rw [fstE_hit (g := fun j => wdErr t.f (gl t.words j)) h HO.out hlt])
            rw [HXf.out, h9, if_pos h])
          have HNXT : Hid (wdErr t.f (gl t.words k) = 0 → ∀ j, j < k + 1 → wdErr t.f (gl t.words j) = 0) := (show _ → _ from fun h j hj => by
            by_cases e : j = k
            · subst e; exact h
            · exact HO.out j (by omega))
          have HWK : Hid (wdErr t.f (gl t.words k) = if (gl t.words k).length = 0 then 10 else if 60 < (gl t.words k).length then 8 else lstErr t.f (gl t.words k) false) := rfl
          have HLK : Hid (lstErr t.f (gl t.words k) false = (fstE (fun j => srtErr t.f (gz (gl t.words k) j) false) (gl t.words k).length).2) := rfl
          generalize hs k = vk at *
          clear h2 h3 h1 hs
          obtain ⟨A8, b8, o8, c8, rfl, hA8, hz8, -, -⟩ := hiv.open
          have HA8 := Lib.hid hA8
          have HZ8 := Lib.hid hz8
          have hbl0 := hbl
          clear hiv hA8 hz8
          generalize gl t.words k = l at *
          generalize hm8 : l.length = M at *
          have HM := Lib.hid hm8
          clear hm8
          by_cases hl0 : M = 0
          · have HX6 := Lib.hid (HWK.out.trans (if_pos hl0))
            have hlz3 : (M : Int) = 0 := by omega
            go_wp2_with fail
            go_ret
            exact HP.out _ _ (by rw [HHIT.out (by rw [HX6.out]; decide), HX6.out]) HBr.out
          have hlz3 : ¬ (M : Int) = 0 := by omega
          by_cases hl4 : 60 < M
          · have hlz4 : (60 : Int) < (M : Int) := by omega
            have HX6 := Lib.hid ((HWK.out.trans (if_neg hl0)).trans (if_pos hl4))
            go_wp2_with fail
            go_ret
            exact HP.out _ _ (by rw [HHIT.out (by rw [HX6.out]; decide), HX6.out]) HBr.out
          have hlz4 : ¬ (60 : Int) < (M : Int) := by omega
          have HX6 := Lib.hid ((HWK.out.trans (if_neg hl0)).trans (if_neg hl4))
          clear HWK
          go_wp2_with fail
          have HBk2 := Lib.hid HB.out
          have HZ1 : Hid (∀ W, Below wr.heap.size wr W → W.cell? ⟨b0, o0 + k, none⟩ = some (.slice A8 M c8)) := (show ∀ W, _ from fun W hW => (hW.cell (p := ⟨b0, o0 + k, none⟩) hbl0).trans z1)
          have HWR0 : Hid (Below wr.heap.size wr wr) := Below.refl _ _
          have HZZ : Hid (∀ W j, Below wr.heap.size wr W → j < M → ∃ a o, A8 = some ⟨a, o, none⟩ ∧ W.cell? ⟨a, o + j, none⟩ = some (.int .i64 (gz l j))) := (show ∀ W j, _ from fun W j hW hj => by
            obtain ⟨e, hb⟩ := HA8.out (by omega)
            exact ⟨b8, o8, e, (hW.cell (p := ⟨b8, o8 + j, none⟩) hb).trans (HZ8.out j (by rw [HM.out]; exact hj))⟩)
          go_loopg [10, 11] M (fun gg2 s10 _ wx => ∃ j : Nat, j ≤ M ∧ M - j ≤ gg2 ∧ s10 = .int .i64 (j : Int) ∧ Hid (Below wr.heap.size wr wx) ∧ Hid (Below W3.heap.size W3 wx) ∧ Hid (∀ i, i < j → srtErr t.f (gz l i) false = 0))
          case atStart => exact ⟨0, by omega, by omega, rfl, HWR0.out, HBk2.out, fun j hj => absurd hj (Nat.not_lt_zero _)⟩
          case round =>
            obtain ⟨j, hj, hg2, rfl, HBX, HBW, HOO⟩ := hrel
            obtain ⟨y0, y1, y2, y4, y5, y6⟩ := HKS.out wr HBW.out
            have z1' := HZ1.out wr HBX.out
            clear q0 q1 q2 q4 q5 q6 z1
            by_cases hjl : j < M
            · have hjz : (j : Int) < (M : Int) := by omega
              obtain ⟨a8, p8, rfl, z⟩ := HZZ.out wr j HBX.out hjl
              have HHIT2 : Hid (srtErr t.f (gz l j) false ≠ 0 → tkErr t = srtErr t.f (gz l j) false) := (show _ → _ from fun h => by
                have h9 : lstErr t.f l false = srtErr t.f (gz l j) false := HLK.out.trans (by rw [fstE_hit (g := fun i => srtErr t.f (gz l i) false) h HOO.out hjl])
                have h10 := HX6.out.trans h9
                rw [HHIT.out (by rw [h10]; exact h), h10])
              have HNXT2 : Hid (srtErr t.f (gz l j) false = 0 → ∀ i, i < j + 1 → srtErr t.f (gz l i) false = 0) := (show _ → _ from fun h i hi => by
                by_cases e : i = j
                · subst e; exact h
                · exact HOO.out i (by omega))
              have HCC : Hid (∀ W, Below wr.heap.size wr W → Calls Try.prog 54 #[.agg #[.string t.f.name, .int .i64 t.f.body, .slice Av t.f.sorts.length cv], .int .i64 (gz l j), .bool false] W (IntPost (srtErr t.f (gz l j) false) W)) := (show ∀ W, _ from fun W hW => HCS.out W (HBW.out.trans (hW.mono HBW.out.size)) _ _)
              generalize hse : srtErr t.f (gz l j) false = se at *
              generalize gz l j = x at *
              clear hse
              go_upto_region 31 with fail
              have x0 := cell_regrown y0
              have x1 := cell_regrown y1
              have x2 := cell_regrown y2
              have x5 := cell_regrown y5
              have xz := cell_regrown z
              have xz1 := cell_regrown z1'
              have c1 : ∀ d os, Calls Try.prog 54 #[.agg #[.string t.f.name, .int .i64 t.f.body, .slice Av t.f.sorts.length cv], .int .i64 x, .bool false] (Go.Sort.grow (redrawn wr d) os) fun e w'' => e = .returned (.int .i64 se) ∧ ∃ p : Regrown, w'' = Go.Sort.grow (redrawn wr p.d) p.os := fun d os => Calls.regrown_of (HCC.out (Go.Sort.grow (redrawn wr d) os) (below_regrown wr d os))
              refine wp_region_quiet_below (by kernel_rfl) (by kernel_rfl) ?_
              repeat (first | go_big_quiet_step (with_reducible exact c1 _ _) | quiet_step (with_reducible exact c1 _ _))
              refine wpQuiet_nil ?_
              intro _ hw'
              obtain ⟨⟨dq, osq⟩, hw''⟩ := hw'
              subst hw''
              have HB5 := Lib.hid (HBW.out.trans ((below_regrown wr dq osq).mono HBW.out.size))
              have HB6 := Lib.hid (HBX.out.trans ((below_regrown wr dq osq).mono HBX.out.size))
              clear x0 x1 x2 x5 xz xz1 c1 y0 y1 y2 y4 y5 y6 z z1'
              generalize Go.Sort.grow (redrawn wr dq) osq = W5 at *
              by_cases he : se = 0
              · have hbn := bne_f he
                have HZ := Lib.hid he
                clear he
                go_wp2_with fail
                go_roundg (M - (j + 1))
                case measure => omega
                case rel => exact ⟨j + 1, by omega, by omega, by go_num, HB6.out, HB5.out, HNXT2.out HZ.out⟩
              · have hbn := bne_t he
                have HX := Lib.hid (HHIT2.out he)
                go_wp2_with fail
                go_ret
                exact HP.out _ _ HX.out.symm (HB3.out.trans (HB5.out.mono HB3.out.size))
            · have hjz : ¬ (j : Int) < (M : Int) := by omega
              have hje : j = M := by omega
              have HX7 : Hid (wdErr t.f l = 0) := (show _ = _ from HX6.out.trans (HLK.out.trans (by rw [fstE_none (n := M) (by rw [← hje]; exact HOO.out)])))
              have HSZ := HSK.out
              clear hje HHIT HX6 HLK HOO
              generalize sumL t.words k = sk at *
              go_wp2_with fail
              go_roundg (N - (k + 1))
              case measure => omega
              case rel => exact ⟨k + 1, by omega, by omega, by go_num, by rw [HSK.out]; go_num, by rw [HSK.out]; omega, HBW.out, HNXT.out HX7.out⟩
        · have hltz : ¬ (k : Int) < (N : Int) := by omega
          have hke : k = N := by omega
          have HW0 : Hid (wdsErr t.f t.words = 0) := (show _ = _ from HWE.out.trans (by rw [fstE_none (n := N) (by rw [← hke]; exact HO.out)]))
          have HXg := Lib.hid ((HXf.out.trans (if_neg (fun h => h HW0.out))).trans HX3'.out)
          subst hke
          clear HXf HW0 HO HX3'
          generalize sumL t.words k = sk at *
          have HW : Hid (∀ W, Calls Try.prog 13 #[.int .i64 t.me, .int .i64 1, .int .i64 1000000] W fun e w' => e = .returned (.bool (win t.me 1 1000000)) ∧ W = w') := (show ∀ W, _ from fun W => within13_any _ _ _ W)
          by_cases hall : 200 < ni + sk
          · have hallz : (200 : Int) < (ni : Int) + (sk : Int) := by omega
            have HX := Lib.hid (HXg.out.trans (if_pos hall))
            go_wp2_with fail
            go_ret
            exact HP.out _ _ HX.out.symm HBr.out
          have hallz : ¬ (200 : Int) < (ni : Int) + (sk : Int) := by omega
          have HXh := Lib.hid (HXg.out.trans (if_neg hall))
          clear HXg
          go_wp2_with fail
          refine (HW.out _).mono ?_
          rintro e w9 ⟨rfl, hw9⟩
          subst hw9
          cases hwm' : win t.me 1 1000000 with
          | false =>
            have HX := Lib.hid (HXh.out.trans (if_pos hwm'))
            go_wp2_with fail
            go_ret
            exact HP.out _ _ HX.out.symm HBr.out
          | true =>
            have HX := Lib.hid (HXh.out.trans (if_neg (by rw [hwm']; simp)))
            go_wp2_with fail
            go_ret
            exact HP.out _ _ HX.out.symm HBr.out
end Go.Proofs.Ytefjhhgfkdkfaaa
