/- ref01.CheckCase. -/
import Derived.Test.YtbnganlfelgogaaGreatZSpc
import Derived.Test.YtbnganlfelgogaaGreatZFcs
set_option linter.unusedSimpArgs false
set_option linter.unusedVariables false
namespace Go.Proofs.YtbnganlfelgogaaGreat
open Go.RowKit
set_option maxRecDepth 100000 in
set_option maxHeartbeats 2000000 in
theorem case53_any (f : Fnt) (v : Value) (cs : List Int) (vc : Value) (w : World) (hv : SoV w f.sorts v) (hn : f.name.size ≤ 9223372036854775807) (hc : IV w cs vc) (hcm : cs.length ≤ 1000000) : Calls Tryz.prog 43 #[.agg (fcs f v), vc] w (IntPost (caErr f cs) w) := by
 have hb0 := below_new w (.cells (fcs f v) 24)
 have HB0 := Lib.hid hb0
 have HK0 := Lib.hid (Blk.new w 24 (fcs f v))
 have HC0 := Lib.hid (hc.below hb0)
 have HC := Lib.hid (refErr_any f v _ (hv.below hb0) hn)
 obtain ⟨Av, cv, rfl⟩ := hv.shape
 obtain ⟨A, b, off, c, rfl, -, -, -, -⟩ := hc.open
 have hfew := hv.few
 have k0 := HK0.out.cell 0
 have k1 := HK0.out.cell 1
 have k2 := HK0.out.cell 2
 have HP : Hid (∀ W x, x = caErr f cs → Below w.heap.size w W → IntPost (caErr f cs) w (.returned (.int .i64 x)) W) := (show ∀ W x, _ from fun W x e h => by subst e; exact ⟨rfl, h⟩)
 have HE : Hid (caErr f cs = if (fnErr f).2 ≠ 0 then (fnErr f).2 else cntErr f.sorts.length cs) := rfl
 have HE1 : Hid (cntErr f.sorts.length cs = if cs.length ≠ f.sorts.length then 10 else if 0 ≤ idx (fun j => !win (gz cs j) 0 1000000) cs.length then 2 else 0) := rfl
 clear hb0 hv hc
 go_enter Tryz.func43, Tryz.ntmps43
 go_wp2_with fail
 refine HC.out.mono ?_
 generalize w.alloc (.cells (fcs f (.slice Av f.sorts.length cv)) 24) = W0 at *
 rintro e W1 ⟨rfl, hb1⟩
 have HB1 := Lib.hid (HB0.out.trans (hb1.mono HB0.out.size))
 have HK1 := Lib.hid (HK0.out.below hb1 HK0.out.lt)
 have HC1 := Lib.hid (HC0.out.below hb1)
 clear hb1 k0 k1 k2 HC HB0 HK0 HC0
 by_cases hf : (fnErr f).2 = 0
 · have hbn := bne_f hf
   have HE2 := Lib.hid ((HE.out.trans (if_neg (fun h => h hf))).trans HE1.out)
   rw [hf] at hbn ⊢
   clear hf HE HE1
   have k2 := HK1.out.cell 2
   have kl := HK1.out.lt
   by_cases hl : cs.length = f.sorts.length
   · have HE3 := Lib.hid (HE2.out.trans (if_neg (fun h => h hl)))
     have hlz : (cs.length : Int) = (f.sorts.length : Int) := by omega
     have hbn2 := bne_f hlz
     clear hlz HE2
     have HNL : Hid (cs.length = f.sorts.length) := hl
     clear hl
     obtain ⟨A', b', off', c', he, hA, hz, -, -⟩ := HC1.out.open
     injection he with e1 e2 e3
     clear e2 e3
     subst e1
     have HA := Lib.hid hA
     have HZ := Lib.hid hz
     clear hA hz
     generalize hN : cs.length = N at *
     have HN := Lib.hid hN
     clear hN
     go_wp2_with fail
     go_loopg [6] N (fun gg s6 wr => ∃ k : Nat, k ≤ N ∧ N - k ≤ gg ∧ s6 = .int .i64 (k : Int) ∧ W1 = wr ∧ Hid (∀ j, j < k → win (gz cs j) 0 1000000 = true))
     case atStart => exact ⟨0, by omega, by omega, rfl, rfl, fun j hj => absurd hj (Nat.not_lt_zero _)⟩
     case round =>
      obtain ⟨k, hk, hg, rfl, rfl, HO⟩ := hrel
      by_cases hlt : k < N
      · have hltz : (k : Int) < (N : Int) := by omega
        obtain ⟨rfl, hbl⟩ := HA.out (by omega)
        have z := HZ.out k (by rw [HN.out]; exact hlt)
        have HW : Hid (∀ W, Calls Tryz.prog 19 #[.int .i64 (gz cs k), .int .i64 0, .int .i64 1000000] W fun e w' => e = .returned (.bool (win (gz cs k) 0 1000000)) ∧ W = w') := (show ∀ W, _ from fun W => within13_any _ _ _ W)
        have HHIT : Hid (win (gz cs k) 0 1000000 = false → caErr f cs = 2) := (show _ → _ from fun h => by
         have h2 := idx_hit (pr := fun j => !win (gz cs j) 0 1000000) (k := k) (n := N) (by rw [h]; rfl) (fun j hj => by rw [HO.out j hj]; rfl) hlt
         exact HE3.out.trans (if_pos (by rw [h2]; omega)))
        have HNXT : Hid (win (gz cs k) 0 1000000 = true → ∀ j, j < k + 1 → win (gz cs j) 0 1000000 = true) := (show _ → _ from fun h j hj => by
         by_cases e : j = k
         · subst e; exact h
         · exact HO.out j (by omega))
        generalize hwk : win (gz cs k) 0 1000000 = wk at *
        generalize gz cs k = y at *
        go_wp2_with fail
        refine (HW.out _).mono ?_
        rintro e w2 ⟨rfl, hw2⟩
        subst hw2
        cases wk with
        | true =>
         go_wp2_with fail
         go_roundg (N - (k + 1))
         case measure => omega
         case rel => exact ⟨k + 1, by omega, by omega, by go_num, rfl, HNXT.out (by first | rfl | trivial)⟩
        | false =>
         have HX := Lib.hid (HHIT.out (by first | rfl | trivial))
         go_wp2_with fail
         go_ret
         exact HP.out _ _ HX.out.symm HB1.out
      · have hltz : ¬ (k : Int) < (N : Int) := by omega
        have HX : Hid (caErr f cs = 0) := (show _ = _ from by
         have h2 := idx_none (pr := fun j => !win (gz cs j) 0 1000000) (n := N) (fun j hj => by rw [HO.out j (by omega)]; rfl)
         exact HE3.out.trans (if_neg (by rw [h2]; omega)))
        go_wp2_with fail
        go_ret
        exact HP.out _ _ HX.out.symm HB1.out
   · have HX := Lib.hid (HE2.out.trans (if_pos hl))
     have hlz : ¬ (cs.length : Int) = (f.sorts.length : Int) := by omega
     have hbn2 := bne_t hlz
     go_wp2_with fail
     go_ret
     exact HP.out _ _ HX.out.symm HB1.out
 · have hbn := bne_t hf
   have HX := Lib.hid (HE.out.trans (if_pos hf))
   generalize (fnErr f).2 = fe at *
   go_wp2_with fail
   go_ret
   exact HP.out _ _ HX.out.symm HB1.out
end Go.Proofs.YtbnganlfelgogaaGreat
