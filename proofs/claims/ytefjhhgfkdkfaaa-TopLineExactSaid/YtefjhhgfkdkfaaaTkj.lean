/- Taken, Joined, slices.Max. -/
import Derived.Test.YtefjhhgfkdkfaaaFme
namespace Go.Proofs.Ytefjhhgfkdkfaaa
set_option linter.unusedSimpArgs false
set_option linter.unusedVariables false
open Go.RowKit
theorem chErr_two {f : Fnt} {cs ns : List Int} (h0 : (fnErr f).2 = 0) (h1 : cntErr f.sorts.length cs = 0) (h2 : cntErr f.sorts.length ns = 0) : chErr f [cs, ns] = 0 := by
  unfold chErr
  rw [if_neg (fun h => h h0)]
  rw [fstE_none (g := fun j => cntErr f.sorts.length (gl [cs, ns] j)) (n := [cs, ns].length) ?_]
  intro j hj
  have : j = 0 ∨ j = 1 := by simp at hj; omega
  rcases this with rfl | rfl
  · exact h1
  · exact h2
set_option maxRecDepth 100000 in
theorem neg_any (z : Int) (W : World) : Calls Try.prog 66 #[.int .i64 z] W fun e w' => e = .returned (.bool (decide (z < 0))) ∧ Below W.heap.size W w' := by
  go_enter Try.func66, Try.ntmps66
  go_wp2_with fail
  go_ret
  exact ⟨rfl, Below.refl _ _⟩
theorem enters66 : ∀ (args : Array Value) (w : World), (callFunc 66 args).run Try.prog w = .ok (.enter 66 args) w := enters_of' Try.func66 (by kernel_rfl) rfl
theorem enters64 : ∀ (args : Array Value) (w : World), (callFunc 64 args).run Try.prog w = .ok (.enter 64 args) w := enters_of' Try.func64 (by kernel_rfl) rfl
theorem enters67 : ∀ (args : Array Value) (w : World), (callFunc 67 args).run Try.prog w = .ok (.enter 67 args) w := enters_of' Try.func67 (by kernel_rfl) rfl
set_option maxRecDepth 100000 in
/-- The greatest number of a list that has one. -/
theorem maxI_any (zs : List Int) (v : Value) (w : World) (hv : IV w zs v) (h0 : 0 < zs.length) (hm : zs.length ≤ 1000000) : Calls Try.prog 68 #[v] w fun e w' => ∃ m : Int, e = .returned (.int .i64 m) ∧ (∃ j, j < zs.length ∧ m = gz zs j) ∧ w = w' := by
  have HV := Lib.hid hv
  obtain ⟨A, b, off, c, rfl, hA, hz, -, -⟩ := hv.open
  obtain ⟨rfl, hb⟩ := hA (by omega)
  have HZ := Lib.hid hz
  have z0 := hz 0 (by omega)
  clear hv hz hA
  generalize hN : zs.length = N at *
  go_enter Try.func68, Try.ntmps68
  have hN1 : ¬ (N : Int) < 1 := by omega
  have hN2 : (0 : Int) < (N : Int) := by omega
  simp only [Nat.add_zero] at z0
  go_wp2_with fail
  go_loopg [3, 4] N (fun gg s3 s4 wr => ∃ (k : Nat) (m : Int), k ≤ N ∧ 1 ≤ k ∧ N - k ≤ gg ∧ s4 = .int .i64 (k : Int) ∧ s3 = .int .i64 m ∧ Hid (∃ j, j < N ∧ m = gz zs j) ∧ Hid (w = wr))
  case atStart => exact ⟨1, gz zs 0, by omega, by omega, by omega, rfl, rfl, ⟨0, by omega, rfl⟩, rfl⟩
  case round =>
    obtain ⟨k, m, hk, hk1, hg, rfl, rfl, HJ, HW⟩ := hrel
    have HW' := HW.out
    subst HW'
    by_cases hlt : k < N
    · have hltz : (k : Int) < (N : Int) := by omega
      have hz := HZ.out k (by omega)
      have HJ2 : Hid (∃ j, j < N ∧ max m (gz zs k) = gz zs j) := by
        by_cases h : m ≤ gz zs k
        · exact ⟨k, hlt, by rw [Int.max_def, if_pos h]⟩
        · obtain ⟨j, h1, h2⟩ := HJ.out
          exact ⟨j, h1, by rw [Int.max_def, if_neg h]; exact h2⟩
      generalize gz zs k = x at *
      go_wp2_with fail
      go_roundg (N - (k + 1))
      case measure => omega
      case rel => exact ⟨k + 1, max m x, by omega, by omega, by omega, by go_num, rfl, HJ2.out, rfl⟩
    · have hltz : ¬ (k : Int) < (N : Int) := by omega
      go_wp2_with fail
      go_ret
      exact ⟨m, rfl, HJ.out, rfl⟩
/-- A case without a need, where it suffices. -/
def RowPost (zs : List Int) (w : World) (k : Value → Value) (e : Ending) (w' : World) : Prop := ∃ v, e = .returned (k v) ∧ IO w' w.heap.size zs v ∧ Below w.heap.size w w'
set_option maxRecDepth 100000 in
set_option maxHeartbeats 2000000 in
theorem taken_any (f : Fnt) (v : Value) (cs ns : List Int) (vc vn : Value) (w : World) (hv : SoV w f.sorts v) (hnm : f.name.size ≤ 9223372036854775807) (hc : IV w cs vc) (hn : IV w ns vn)
    (h0 : (fnErr f).2 = 0) (h1 : cntErr f.sorts.length cs = 0) (h2 : cntErr f.sorts.length ns = 0) (hge : ∀ j, j < cs.length → gz ns j ≤ gz cs j) :
    Calls Try.prog 25 #[.agg (fcs f v), vc, vn] w (RowPost (cmbK (fun a b => a - b) cs ns cs.length) w fun v => .tuple #[v, .int .i64 0, .int .i64 0]) := by
  have hb0 := below_new w (.cells (fcs f v) 24)
  have hbk := Blk.new w 24 (fcs f v)
  have hb1 := below_new (w.alloc (.cells (fcs f v) 24)) (.cells #[vc, vn] 30)
  have hrow := Blk.new (w.alloc (.cells (fcs f v) 24)) 30 #[vc, vn]
  have hLV : LV ((w.alloc (.cells (fcs f v) 24)).alloc (.cells #[vc, vn] 30)) [cs, ns] (.slice (some ⟨(w.alloc (.cells (fcs f v) 24)).heap.size, 0, none⟩) 2 2) := by
    refine ⟨fun j => if j = 0 then vc else vn, ⟨some ⟨_, 0, none⟩, _, 0, 2, rfl, fun _ => ⟨rfl, hrow.lt⟩, fun j hj => ?_, Nat.le_refl _, by omega⟩, fun i hi => ?_⟩
    · have : j = 0 ∨ j = 1 := by simp at hj; omega
      rcases this with rfl | rfl
      · exact hrow.cell 0
      · exact hrow.cell 1
    · have : i = 0 ∨ i = 1 := by simp at hi; omega
      rcases this with rfl | rfl
      · exact (hc.below hb0).below hb1
      · exact (hn.below hb0).below hb1
  have hC := check_any f v [cs, ns] _ _ ((hv.below hb0).below hb1) hnm hLV (by simp)
  have hlen := fnErr_len h0
  have hca := cnt_ok h1
  have hna := cnt_ok h2
  rw [chErr_two h0 h1 h2] at hC
  simp only [World.size_alloc] at hC
  have HB := Lib.hid (hb0.trans (hb1.mono hb0.size))
  have HC2 := Lib.hid ((hc.below hb0).below hb1)
  have HN2 := Lib.hid ((hn.below hb0).below hb1)
  obtain ⟨Av, cv, rfl⟩ := hv.shape
  obtain ⟨A, b, off, c, rfl, -⟩ := hc.open
  obtain ⟨A', b', off', c', rfl, -⟩ := hn.open
  have HC := Lib.hid hC
  have c0 := hbk.cell 0
  have c1 := hbk.cell 1
  have c2 := hbk.cell 2
  have HCA := Lib.hid hca
  have HNA := Lib.hid hna
  clear hLV hv hc hn hb0 hb1 hbk hrow hC h1 h2 h0 hca hna
  obtain ⟨zs, hzs⟩ : ∃ x, cmbK (fun a b => a - b) cs ns cs.length = x := ⟨_, rfl⟩
  rw [hzs]
  have HZS := Lib.hid hzs
  clear hzs
  have HP : Hid (∀ W v, IO W w.heap.size zs v → Below w.heap.size w W → RowPost zs w (fun v => .tuple #[v, .int .i64 0, .int .i64 0]) (.returned (.tuple #[v, .int .i64 0, .int .i64 0])) W) := (show ∀ W v, _ from fun W v h1 h2 => ⟨v, rfl, h1, h2⟩)
  go_enter Try.func25, Try.ntmps25
  go_wp2_with fail
  refine HC.out.mono ?_
  rintro e w1 ⟨rfl, hb⟩
  have HB1 := Lib.hid (HB.out.trans (hb.mono HB.out.size))
  have HC1 := Lib.hid (HC2.out.below hb)
  have HN1 := Lib.hid (HN2.out.below hb)
  clear hb c0 c1 c2 HC HC2 HN2 HB
  have hcall := combined_any 64 (fun a b => a - b) cs ns _ _ w1 HC1.out HN1.out (by rw [HCA.out.1, HNA.out.1]; omega) (by rw [HCA.out.1]; omega) (fun W j hj => minus_any _ _ W (by
    have := HCA.out.2 j (by rw [← HCA.out.1]; exact hj)
    have := HNA.out.2 j (by rw [← HCA.out.1]; exact hj)
    omega)) enters64
  rw [HZS.out] at hcall
  have HCL := Lib.hid hcall
  clear hcall
  have hcl := cmbK_len (fun a b => a - b) cs ns cs.length
  rw [HZS.out] at hcl
  have HG : Hid (∀ j, j < cs.length → 0 ≤ gz zs j) := (show ∀ j, _ from fun j hj => by rw [← HZS.out, cmbK_get _ _ _ _ _ hj]; have := hge j hj; omega)
  have hcm : cs.length ≤ 1000000 := by rw [HCA.out.1]; omega
  clear hge
  go_wp2_with fail
  refine HCL.out.mono ?_
  rintro e w2 ⟨v2, rfl, hio, hb⟩
  have hio2 : IO w2 w.heap.size zs v2 := hio.base HB1.out.size
  have hbw := HB1.out.trans (hb.mono HB1.out.size)
  obtain ⟨A2, b2, o2, c2, rfl, hA2, hz2, -, -⟩ := hio2.iv.open
  have hcall := indexI_any 66 #[] A2 b2 o2 zs.length c2 zs (fun z => decide (z < 0)) w2 (fun W j hW hj => (neg_any _ W).mono (by
    rintro e w' ⟨rfl, hb⟩
    exact ⟨rfl, hW.trans (hb.mono hW.size)⟩)) rfl (by omega) hA2 enters66 hz2
  have hne : idx (fun j => decide (gz zs j < 0)) zs.length = -1 := idx_none fun j hj => by
    have := HG.out j (by omega)
    exact decide_eq_false (Int.not_lt.2 this)
  rw [hne] at hcall
  have HIX := Lib.hid hcall
  have HIO := Lib.hid hio2
  have HBW := Lib.hid hbw
  clear hcall hne hA2 hz2 hio hio2 hb hbw
  rw [hcl] at HIX HIO ⊢
  go_wp2_with fail
  refine HIX.out.mono ?_
  rintro e w3 ⟨rfl, hb⟩
  have HIO3 := Lib.hid (HIO.out.below hb)
  have HBW3 := Lib.hid (HBW.out.trans (hb.mono HBW.out.size))
  clear hb
  go_wp2_with fail
  refine bodyPost_ret (results_tmp3 rfl _ _ _) rfl ?_
  exact HP.out _ _ HIO3.out HBW3.out
set_option maxRecDepth 100000 in
set_option maxHeartbeats 2000000 in
theorem joined_any (f : Fnt) (v : Value) (cs ns : List Int) (vc vn : Value) (w : World) (hv : SoV w f.sorts v) (hnm : f.name.size ≤ 9223372036854775807) (hc : IV w cs vc) (hn : IV w ns vn)
    (h0 : (fnErr f).2 = 0) (h1 : cntErr f.sorts.length cs = 0) (h2 : cntErr f.sorts.length ns = 0) (hge : ∀ j, j < cs.length → gz cs j + gz ns j ≤ 1000000) :
    Calls Try.prog 26 #[.agg (fcs f v), vc, vn] w (RowPost (cmbK (fun a b => a + b) cs ns cs.length) w fun v => .tuple #[v, .int .i64 0]) := by
  have hb0 := below_new w (.cells (fcs f v) 24)
  have hbk := Blk.new w 24 (fcs f v)
  have hb1 := below_new (w.alloc (.cells (fcs f v) 24)) (.cells #[vc, vn] 30)
  have hrow := Blk.new (w.alloc (.cells (fcs f v) 24)) 30 #[vc, vn]
  have hLV : LV ((w.alloc (.cells (fcs f v) 24)).alloc (.cells #[vc, vn] 30)) [cs, ns] (.slice (some ⟨(w.alloc (.cells (fcs f v) 24)).heap.size, 0, none⟩) 2 2) := by
    refine ⟨fun j => if j = 0 then vc else vn, ⟨some ⟨_, 0, none⟩, _, 0, 2, rfl, fun _ => ⟨rfl, hrow.lt⟩, fun j hj => ?_, Nat.le_refl _, by omega⟩, fun i hi => ?_⟩
    · have : j = 0 ∨ j = 1 := by simp at hj; omega
      rcases this with rfl | rfl
      · exact hrow.cell 0
      · exact hrow.cell 1
    · have : i = 0 ∨ i = 1 := by simp at hi; omega
      rcases this with rfl | rfl
      · exact (hc.below hb0).below hb1
      · exact (hn.below hb0).below hb1
  have hC := check_any f v [cs, ns] _ _ ((hv.below hb0).below hb1) hnm hLV (by simp)
  have hlen := fnErr_len h0
  have hca := cnt_ok h1
  have hna := cnt_ok h2
  rw [chErr_two h0 h1 h2] at hC
  simp only [World.size_alloc] at hC
  have HB := Lib.hid (hb0.trans (hb1.mono hb0.size))
  have HC2 := Lib.hid ((hc.below hb0).below hb1)
  have HN2 := Lib.hid ((hn.below hb0).below hb1)
  obtain ⟨Av, cv, rfl⟩ := hv.shape
  obtain ⟨A, b, off, c, rfl, -⟩ := hc.open
  obtain ⟨A', b', off', c', rfl, -⟩ := hn.open
  have HC := Lib.hid hC
  have c0 := hbk.cell 0
  have c1 := hbk.cell 1
  have c2 := hbk.cell 2
  have HCA := Lib.hid hca
  have HNA := Lib.hid hna
  clear hLV hv hc hn hb0 hb1 hbk hrow hC h1 h2 h0 hca hna
  obtain ⟨zs, hzs⟩ : ∃ x, cmbK (fun a b => a + b) cs ns cs.length = x := ⟨_, rfl⟩
  rw [hzs]
  have HZS := Lib.hid hzs
  clear hzs
  have HP : Hid (∀ W v, IO W w.heap.size zs v → Below w.heap.size w W → RowPost zs w (fun v => .tuple #[v, .int .i64 0]) (.returned (.tuple #[v, .int .i64 0])) W) := (show ∀ W v, _ from fun W v h1 h2 => ⟨v, rfl, h1, h2⟩)
  go_enter Try.func26, Try.ntmps26
  go_wp2_with fail
  refine HC.out.mono ?_
  rintro e w1 ⟨rfl, hb⟩
  have HB1 := Lib.hid (HB.out.trans (hb.mono HB.out.size))
  have HC1 := Lib.hid (HC2.out.below hb)
  have HN1 := Lib.hid (HN2.out.below hb)
  clear hb c0 c1 c2 HC HC2 HN2 HB
  have hcall := combined_any 67 (fun a b => a + b) cs ns _ _ w1 HC1.out HN1.out (by rw [HCA.out.1, HNA.out.1]; omega) (by rw [HCA.out.1]; omega) (fun W j hj => plus_any _ _ W (by
    have := HCA.out.2 j (by rw [← HCA.out.1]; exact hj)
    have := HNA.out.2 j (by rw [← HCA.out.1]; exact hj)
    omega)) enters67
  rw [HZS.out] at hcall
  have HCL := Lib.hid hcall
  clear hcall
  have hcl := cmbK_len (fun a b => a + b) cs ns cs.length
  rw [HZS.out] at hcl
  have HG : Hid (∀ j, j < cs.length → gz zs j ≤ 1000000) := (show ∀ j, _ from fun j hj => by rw [← HZS.out, cmbK_get _ _ _ _ _ hj]; exact hge j hj)
  have hcm : cs.length ≤ 1000000 := by rw [HCA.out.1]; omega
  have hcm0 : 0 < cs.length := by rw [HCA.out.1]; omega
  clear hge
  go_wp2_with fail
  refine HCL.out.mono ?_
  rintro e w2 ⟨v2, rfl, hio, hb⟩
  have hio2 : IO w2 w.heap.size zs v2 := hio.base HB1.out.size
  have hbw := HB1.out.trans (hb.mono HB1.out.size)
  have HIX := Lib.hid (maxI_any zs v2 w2 hio2.iv (by omega) (by omega))
  obtain ⟨A2, c2, rfl⟩ := hio2.shape
  have HIO := Lib.hid hio2
  have HBW := Lib.hid hbw
  clear hio hio2 hb hbw
  rw [hcl] at HIX HIO ⊢
  go_wp2_with fail
  refine HIX.out.mono ?_
  rintro e w3 ⟨m, rfl, ⟨j, hj, hmj⟩, hw3⟩
  subst hw3
  have hmm : ¬ (1000000 : Int) < m := by have := HG.out j (by omega); omega
  clear hmj hj
  go_wp2_with fail
  refine bodyPost_ret (results_tmp2 rfl _ _ _) rfl ?_
  exact HP.out _ _ HIO.out HBW.out
end Go.Proofs.Ytefjhhgfkdkfaaa
/- Times. -/
namespace Go.Proofs.Ytefjhhgfkdkfaaa
set_option linter.unusedSimpArgs false
set_option linter.unusedVariables false
open Go.RowKit
def TimesPost (cs ns : List Int) (w : World) (e : Ending) (w' : World) : Prop := ∃ t s er : Int, e = .returned (.tuple #[.int .i64 t, .int .i64 s, .int .i64 er]) ∧ Below w.heap.size w w' ∧
  (er = 0 → (∀ j, j < ns.length → 0 < gz ns j → t ≤ gz cs j / gz ns j) ∧ ∃ j, j < ns.length ∧ 0 < gz ns j ∧ t = gz cs j / gz ns j)
set_option maxRecDepth 100000 in
set_option maxHeartbeats 4000000 in
theorem times_any (f : Fnt) (v : Value) (cs ns : List Int) (vc vn : Value) (w : World) (hv : SoV w f.sorts v) (hnm : f.name.size ≤ 9223372036854775807) (hc : IV w cs vc) (hn : IV w ns vn)
    (h0 : (fnErr f).2 = 0) (h1 : cntErr f.sorts.length cs = 0) (h2 : cntErr f.sorts.length ns = 0) :
    Calls Try.prog 29 #[.agg (fcs f v), vc, vn] w (TimesPost cs ns w) := by
  have hb0 := below_new w (.cells (fcs f v) 24)
  have hbk := Blk.new w 24 (fcs f v)
  have hb1 := below_new (w.alloc (.cells (fcs f v) 24)) (.cells #[vc, vn] 30)
  have hrow := Blk.new (w.alloc (.cells (fcs f v) 24)) 30 #[vc, vn]
  have hLV : LV ((w.alloc (.cells (fcs f v) 24)).alloc (.cells #[vc, vn] 30)) [cs, ns] (.slice (some ⟨(w.alloc (.cells (fcs f v) 24)).heap.size, 0, none⟩) 2 2) := by
    refine ⟨fun j => if j = 0 then vc else vn, ⟨some ⟨_, 0, none⟩, _, 0, 2, rfl, fun _ => ⟨rfl, hrow.lt⟩, fun j hj => ?_, Nat.le_refl _, by omega⟩, fun i hi => ?_⟩
    · have : j = 0 ∨ j = 1 := by simp at hj; omega
      rcases this with rfl | rfl
      · exact hrow.cell 0
      · exact hrow.cell 1
    · have : i = 0 ∨ i = 1 := by simp at hi; omega
      rcases this with rfl | rfl
      · exact (hc.below hb0).below hb1
      · exact (hn.below hb0).below hb1
  have hC := check_any f v [cs, ns] _ _ ((hv.below hb0).below hb1) hnm hLV (by simp)
  have hlen := fnErr_len h0
  have hca := cnt_ok h1
  have hna := cnt_ok h2
  rw [chErr_two h0 h1 h2] at hC
  simp only [World.size_alloc] at hC
  have HB := Lib.hid (hb0.trans (hb1.mono hb0.size))
  have HC2 := Lib.hid ((hc.below hb0).below hb1)
  have HN2 := Lib.hid ((hn.below hb0).below hb1)
  obtain ⟨Av, cv, rfl⟩ := hv.shape
  obtain ⟨A, b, off, c, rfl, -⟩ := hc.open
  obtain ⟨A', b', off', c', rfl, -⟩ := hn.open
  have HC := Lib.hid hC
  have c0 := hbk.cell 0
  have c1 := hbk.cell 1
  have c2 := hbk.cell 2
  have HCA := Lib.hid hca
  have HNA := Lib.hid hna
  clear hLV hv hc hn hb0 hb1 hbk hrow hC h1 h2 h0 hca hna
  have HP : Hid (∀ W (t s er : Int), (er = 0 → (∀ j, j < ns.length → 0 < gz ns j → t ≤ gz cs j / gz ns j) ∧ ∃ j, j < ns.length ∧ 0 < gz ns j ∧ t = gz cs j / gz ns j) → Below w.heap.size w W → TimesPost cs ns w (.returned (.tuple #[.int .i64 t, .int .i64 s, .int .i64 er])) W) := (show ∀ W (t s er : Int), _ from fun W t s er h1 h2 => ⟨t, s, er, rfl, h2, h1⟩)
  go_enter Try.func29, Try.ntmps29
  go_wp2_with fail
  refine HC.out.mono ?_
  rintro e w1 ⟨rfl, hb⟩
  have HB1 := Lib.hid (HB.out.trans (hb.mono HB.out.size))
  have HC1 := Lib.hid (HC2.out.below hb)
  have HN1 := Lib.hid (HN2.out.below hb)
  clear hb c0 c1 c2 HC HC2 HN2 HB
  have hcm : ns.length ≤ 1000000 := by rw [HNA.out.1]; omega
  have HLN : Hid (cs.length = ns.length) := HCA.out.1.trans HNA.out.1.symm
  obtain ⟨Ac, bc, oc, cc, he, hAc, hzc, -, -⟩ := HC1.out.open
  injection he with e1 e2 e3
  subst e1
  clear e2 e3
  obtain ⟨An, bn, on, cn, he, hAn, hzn, -, -⟩ := HN1.out.open
  injection he with e1 e2 e3
  subst e1
  clear e2 e3
  rw [HLN.out] at hAc ⊢
  have HAC := Lib.hid hAc
  have HAN := Lib.hid hAn
  have HZC := Lib.hid hzc
  have HZN := Lib.hid hzn
  have HBC : Hid (∀ j, j < ns.length → 0 ≤ gz cs j ∧ gz cs j ≤ 1000000) := (show ∀ j, _ from fun j hj => HCA.out.2 j (by rw [← HNA.out.1]; exact hj))
  have HBN : Hid (∀ j, j < ns.length → 0 ≤ gz ns j ∧ gz ns j ≤ 1000000) := (show ∀ j, _ from fun j hj => HNA.out.2 j (by rw [← HNA.out.1]; exact hj))
  clear hAc hAn hzc hzn
  generalize hN : ns.length = N at *
  have HN := Lib.hid hN
  clear hN
  go_wp2_with fail
  go_loopg [10, 11, 12, 13, 24] N (fun gg s10 s11 s12 s13 s24 wr => ∃ (k : Nat) (t s : Int), k ≤ N ∧ N - k ≤ gg ∧ s24 = .int .i64 (k : Int) ∧ s10 = .int .i64 t ∧ s11 = .int .i64 s ∧ Hid (w1 = wr) ∧ Hid ((t = -1 ∧ ∀ j, j < k → ¬ 0 < gz ns j) ∨ (0 ≤ t ∧ (∀ j, j < k → 0 < gz ns j → t ≤ gz cs j / gz ns j) ∧ ∃ j, j < N ∧ 0 < gz ns j ∧ t = gz cs j / gz ns j)))
  case atStart => exact ⟨0, -1, 0, by omega, by omega, rfl, rfl, rfl, rfl, .inl ⟨rfl, fun j hj => absurd hj (Nat.not_lt_zero _)⟩⟩
  case round =>
    obtain ⟨k, t, s, hk, hg, rfl, rfl, rfl, HW, HT⟩ := hrel
    have HW' := HW.out
    subst HW'
    by_cases hlt : k < N
    · have hltz : (k : Int) < (N : Int) := by omega
      have hlc : (k : Int) < (cs.length : Int) := by have := HLN.out; omega
      obtain ⟨rfl, hbl⟩ := HAC.out (by omega)
      obtain ⟨rfl, hbl2⟩ := HAN.out (by omega)
      have z1 := HZC.out k (by have := HLN.out; omega)
      have z2 := HZN.out k (by have := HN.out; omega)
      have hb1 := HBC.out k hlt
      have hb2 := HBN.out k hlt
      have HT' := HT.out
      clear HT
      generalize hcx : gz cs k = x at *
      generalize hny : gz ns k = y at *
      have HCX := Lib.hid hcx
      have HNY := Lib.hid hny
      clear hcx hny
      by_cases hy : 0 < y
      · have hyz : ¬ y = 0 := by omega
        have hqb : 0 ≤ x / y ∧ x / y ≤ 1000000 := ⟨Int.ediv_nonneg hb1.1 hb2.1, Int.le_trans (Int.ediv_le_self _ hb1.1) hb1.2⟩
        have htd : x.tdiv y = x / y := Int.tdiv_eq_ediv_of_nonneg hb1.1
        by_cases ht : t < 0 ∨ x / y < t
        · have HT2 : Hid (0 ≤ x / y ∧ (∀ j, j < k + 1 → 0 < gz ns j → x / y ≤ gz cs j / gz ns j) ∧ ∃ j, j < N ∧ 0 < gz ns j ∧ x / y = gz cs j / gz ns j) := (show Hid _ from by
            refine ⟨hqb.1, fun j hj h => ?_, k, hlt, by rw [HNY.out]; exact hy, by rw [HCX.out, HNY.out]⟩
            by_cases e : j = k
            · subst e; rw [HCX.out, HNY.out]; exact Int.le_refl _
            · rcases HT' with ⟨h1, h2⟩ | ⟨h1, h2, h3⟩
              · exact absurd h (h2 j (by omega))
              · have := h2 j (by omega) h; omega)
          clear HT'
          rcases Classical.em (t < 0) with ht0 | ht0
          · clear ht
            go_wp2_with fail
            go_roundg (N - (k + 1))
            case measure => omega
            case rel => exact ⟨k + 1, x / y, (k : Int), by omega, by omega, by go_num, rfl, rfl, rfl, .inr HT2.out⟩
          · have ht1 : x / y < t := by omega
            clear ht
            go_wp2_with fail
            go_roundg (N - (k + 1))
            case measure => omega
            case rel => exact ⟨k + 1, x / y, (k : Int), by omega, by omega, by go_num, rfl, rfl, rfl, .inr HT2.out⟩
        · have ht0 : ¬ t < 0 := by omega
          have ht1 : ¬ x / y < t := by omega
          have HT2 : Hid (0 ≤ t ∧ (∀ j, j < k + 1 → 0 < gz ns j → t ≤ gz cs j / gz ns j) ∧ ∃ j, j < N ∧ 0 < gz ns j ∧ t = gz cs j / gz ns j) := (show Hid _ from by
            rcases HT' with ⟨h1, h2⟩ | ⟨h1, h2, h3⟩
            · omega
            · refine ⟨h1, fun j hj h => ?_, h3⟩
              by_cases e : j = k
              · subst e; rw [HCX.out, HNY.out]; omega
              · exact h2 j (by omega) h)
          clear HT' ht
          go_wp2_with fail
          go_roundg (N - (k + 1))
          case measure => omega
          case rel => exact ⟨k + 1, t, s, by omega, by omega, by go_num, rfl, rfl, rfl, .inr HT2.out⟩
      · have HT2 : Hid ((t = -1 ∧ ∀ j, j < k + 1 → ¬ 0 < gz ns j) ∨ (0 ≤ t ∧ (∀ j, j < k + 1 → 0 < gz ns j → t ≤ gz cs j / gz ns j) ∧ ∃ j, j < N ∧ 0 < gz ns j ∧ t = gz cs j / gz ns j)) := (show Hid _ from by
          rcases HT' with ⟨h1, h2⟩ | ⟨h1, h2, h3⟩
          · refine .inl ⟨h1, fun j hj => ?_⟩
            by_cases e : j = k
            · subst e; rw [HNY.out]; exact hy
            · exact h2 j (by omega)
          · refine .inr ⟨h1, fun j hj h => ?_, h3⟩
            by_cases e : j = k
            · subst e; rw [HNY.out] at h; exact absurd h hy
            · exact h2 j (by omega) h)
        clear HT'
        go_wp2_with fail
        go_roundg (N - (k + 1))
        case measure => omega
        case rel => exact ⟨k + 1, t, s, by omega, by omega, by go_num, rfl, rfl, rfl, HT2.out⟩
    · have hltz : ¬ (k : Int) < (N : Int) := by omega
      have hke : k = N := by omega
      subst hke
      by_cases ht : t < 0
      · go_wp2_with fail
        refine bodyPost_ret (results_tmp3 rfl _ _ _) rfl ?_
        exact HP.out _ _ _ _ (fun h => absurd h (by omega)) HB1.out
      · have HT2 : Hid ((∀ j, j < k → 0 < gz ns j → t ≤ gz cs j / gz ns j) ∧ ∃ j, j < k ∧ 0 < gz ns j ∧ t = gz cs j / gz ns j) := (show Hid _ from by
          rcases HT.out with ⟨h1, h2⟩ | ⟨h1, h2, h3⟩
          · omega
          · exact ⟨h2, h3⟩)
        clear HT
        go_wp2_with fail
        refine bodyPost_ret (results_tmp3 rfl _ _ _) rfl ?_
        exact HP.out _ _ _ _ (fun _ => HT2.out) HB1.out
end Go.Proofs.Ytefjhhgfkdkfaaa
