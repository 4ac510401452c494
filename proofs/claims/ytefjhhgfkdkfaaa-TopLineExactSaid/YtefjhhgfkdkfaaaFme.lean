/- metal. -/
import Derived.Test.YtefjhhgfkdkfaaaFwo
namespace Go.Proofs.Ytefjhhgfkdkfaaa
set_option linter.unusedSimpArgs false
set_option linter.unusedVariables false
open Go.RowKit
/-- The metal of the first k sorts. -/
def metK (f : Fnt) (cs : List Int) : Nat → Int
  | 0 => 0
  | k + 1 => metK f cs k + gz cs k * wd f (k : Int) * f.body
def metR (f : Fnt) (cs : List Int) : Int := metK f cs f.sorts.length
theorem fn_body {f : Fnt} (h : (fnErr f).2 = 0) : 1 ≤ f.body ∧ f.body ≤ 144 := by
  unfold fnErr at h
  split at h
  · simp at h
  split at h
  · simp at h
  rename_i h2
  simp [win] at h2
  omega
theorem mul_in {a b m n : Int} (ha : 0 ≤ a ∧ a ≤ m) (hb : 0 ≤ b ∧ b ≤ n) : 0 ≤ a * b ∧ a * b ≤ m * n :=
  ⟨Int.mul_nonneg ha.1 hb.1, Int.mul_le_mul ha.2 hb.2 hb.1 (by omega)⟩
theorem metK_bound {f : Fnt} (hok : (fnErr f).2 = 0) {cs : List Int} (hc : CsOk f.sorts.length cs) : ∀ k, k ≤ f.sorts.length → 0 ≤ metK f cs k ∧ metK f cs k ≤ 14400000000000 * (k : Int)
  | 0, _ => by simp [metK]
  | k + 1, h => by
    have ih := metK_bound hok hc k (by omega)
    have h1 := hc.2 k (by omega)
    have h2 := wd_ok hok (s := (k : Int)) ⟨by omega, by omega⟩
    have h3 := fn_body hok
    have h4 := mul_in h1 (⟨by omega, h2.2⟩ : 0 ≤ wd f (k : Int) ∧ wd f (k : Int) ≤ 100000)
    have h5 := mul_in h4 (⟨by omega, h3.2⟩ : 0 ≤ f.body ∧ f.body ≤ 144)
    unfold metK
    constructor
    · omega
    · push_cast; omega
set_option maxRecDepth 100000 in
set_option maxHeartbeats 2000000 in
theorem metal_any (f : Fnt) (v : Value) (cs : List Int) (vc : Value) (w : World) (hv : SoV w f.sorts v) (hok : (fnErr f).2 = 0) (hc : IV w cs vc) (hcs : CsOk f.sorts.length cs) :
    Calls Try.prog 69 #[.agg (fcs f v), vc] w (IntPost (metR f cs) w) := by
  have hb0 := below_new w (.cells (fcs f v) 24)
  have HV0 := Lib.hid (hv.below hb0)
  have HB0 := Lib.hid hb0
  have hF := Blk.new w 24 (fcs f v)
  have HF := Lib.hid hF
  obtain ⟨A, c, rfl⟩ := hv.shape
  obtain ⟨A1, b1, o1, c1, rfl, hA1, hz1, -, -⟩ := (hc.below hb0).open
  have f2 := hF.cell 2
  have hfew := fnErr_few hok
  have hbody := fn_body hok
  have HBD := Lib.hid (metK_bound hok hcs)
  have HCS := Lib.hid hcs
  have HOK := Lib.hid hok
  have HZ := Lib.hid hz1
  have HP : Hid (∀ W x, x = metR f cs → Below w.heap.size w W → IntPost (metR f cs) w (.returned (.int .i64 x)) W) := (show ∀ W x, _ from fun W x e h => by subst e; exact ⟨rfl, h⟩)
  have hlen : cs.length = f.sorts.length := hcs.1
  have HRR : Hid (metR f cs = metK f cs f.sorts.length) := rfl
  clear hv hb0 hF hok hc hcs hz1
  go_enter Try.func69, Try.ntmps69
  go_wp2_with fail
  generalize hWq : w.alloc (.cells (fcs f (.slice A f.sorts.length c)) 24) = Wq at *
  clear hWq
  go_loopg [5, 6, 7, 11] f.sorts.length (fun gg s5 _ _ s11 wr => ∃ k : Nat, k ≤ f.sorts.length ∧ f.sorts.length - k ≤ gg ∧ s11 = .int .i64 (k : Int) ∧ s5 = .int .i64 (metK f cs k) ∧ Hid (Below Wq.heap.size Wq wr))
  case atStart => exact ⟨0, by omega, by omega, rfl, rfl, Below.refl _ _⟩
  case round =>
    obtain ⟨k, hk, hg, rfl, rfl, HR⟩ := hrel
    by_cases hlt : k < f.sorts.length
    · have hltz : (k : Int) < (f.sorts.length : Int) := by omega
      have hlcz : (k : Int) < (cs.length : Int) := by omega
      have g1 := (HF.out.below HR.out HF.out.lt).cell 1
      have gl := (HF.out.below HR.out HF.out.lt).lt
      obtain ⟨A', b, off, c', he, hA', hss, -, -, -⟩ := HV0.out.below HR.out
      injection he with e1 e2 e3
      clear e2 e3
      subst e1
      obtain ⟨rfl, hbl⟩ := hA' (by omega)
      obtain ⟨s0, s1, s2, s3⟩ := hss k hlt
      obtain ⟨rfl, hb1⟩ := hA1 (by omega)
      have z0 := (HR.out.cell (p := ⟨b1, o1 + k, none⟩) hb1).trans (HZ.out k (by omega))
      have hb1' := Nat.lt_of_lt_of_le hb1 HR.out.size
      have hck := HCS.out.2 k hlt
      have hwk := wd_ok HOK.out (s := (k : Int)) ⟨by omega, hltz⟩
      have hbd := HBD.out k hk
      have HST : Hid (metK f cs (k + 1) = metK f cs k + gz cs k * wd f (k : Int) * f.body) := rfl
      have hwe : wd f (k : Int) = (gs f.sorts k).width := rfl
      have h4 := mul_in hck (⟨by omega, hwk.2⟩ : 0 ≤ wd f (k : Int) ∧ wd f (k : Int) ≤ 100000)
      have h5 := mul_in h4 (⟨by omega, hbody.2⟩ : 0 ≤ f.body ∧ f.body ≤ 144)
      rw [hwe] at h4 h5 HST
      clear hss hA' hwk hwe
      generalize metK f cs k = sm at *
      generalize gz cs k = cz at *
      generalize (gs f.sorts k) = x at *
      generalize hp1 : cz * x.width = p1 at *
      generalize hp2 : p1 * f.body = p2 at *
      have HB2 := Lib.hid (HR.out.trans ((below_new wr (.cells #[.string x.name, .string x.text, .int .i64 x.kind, .int .i64 x.width] 128)).mono HR.out.size))
      go_wp2_with fail
      go_quiet (fail)
      have HB3 := Lib.hid (HB2.out.trans ((below_drewN _ nq).mono HB2.out.size))
      go_wp2_with fail
      go_roundg (f.sorts.length - (k + 1))
      case measure => omega
      case rel => exact ⟨k + 1, by omega, by omega, by go_num, by rw [HST.out], HB3.out⟩
    · have hltz : ¬ (k : Int) < (f.sorts.length : Int) := by omega
      have hkn : k = f.sorts.length := by omega
      have HXX : Hid (metK f cs k = metR f cs) := (by show _ = _; rw [HRR.out, hkn])
      generalize metK f cs k = sm at *
      clear f2
      go_wp2_with fail
      go_ret
      exact HP.out _ _ HXX.out (HB0.out.trans (HR.out.mono HB0.out.size))
end Go.Proofs.Ytefjhhgfkdkfaaa
/- MetalOf. -/
namespace Go.Proofs.Ytefjhhgfkdkfaaa
set_option linter.unusedSimpArgs false
set_option linter.unusedVariables false
open Go.RowKit
set_option maxRecDepth 100000 in
set_option maxHeartbeats 2000000 in
theorem metalOf_any (f : Fnt) (v : Value) (cs : List Int) (vc : Value) (w : World) (hv : SoV w f.sorts v) (hn : f.name.size ≤ 9223372036854775807) (hc : IV w cs vc) :
    Calls Try.prog 28 #[.agg (fcs f v), vc] w (NePost (if caErr f cs = 0 then metR f cs else 0) (caErr f cs) w) := by
  have hb0 := below_new w (.cells (fcs f v) 24)
  have hbk := Blk.new w 24 (fcs f v)
  have hb1 := below_new (w.alloc (.cells (fcs f v) 24)) (.cells #[vc] 30)
  have hrow := Blk.new (w.alloc (.cells (fcs f v) 24)) 30 #[vc]
  have hLV : LV ((w.alloc (.cells (fcs f v) 24)).alloc (.cells #[vc] 30)) [cs] (.slice (some ⟨(w.alloc (.cells (fcs f v) 24)).heap.size, 0, none⟩) 1 1) := by
    refine ⟨fun _ => vc, ⟨some ⟨_, 0, none⟩, _, 0, 1, rfl, fun _ => ⟨rfl, hrow.lt⟩, fun j hj => ?_, Nat.le_refl _, by omega⟩, fun i hi => ?_⟩
    · have : j = 0 := by simp at hj; omega
      subst this
      exact hrow.cell 0
    · have : i = 0 := by simp at hi; omega
      subst this
      exact (hc.below hb0).below hb1
  have hC := check_any f v [cs] _ _ ((hv.below hb0).below hb1) hn hLV (by simp)
  rw [chErr_one] at hC
  simp only [World.size_alloc] at hC
  have HB := Lib.hid (hb0.trans (hb1.mono hb0.size))
  have HV2 := Lib.hid ((hv.below hb0).below hb1)
  have HC2 := Lib.hid ((hc.below hb0).below hb1)
  have HF2 := Lib.hid (hbk.below hb1 (by simp))
  obtain ⟨Av, cv, rfl⟩ := hv.shape
  obtain ⟨A, b, off, c, rfl, -⟩ := hc.open
  have HC := Lib.hid hC
  have c0 := hbk.cell 0
  have c1 := hbk.cell 1
  have c2 := hbk.cell 2
  obtain ⟨X, hX⟩ : ∃ x : Int, (if caErr f cs = 0 then metR f cs else 0) = x := ⟨_, rfl⟩
  rw [hX]
  have HX0 := Lib.hid hX
  have HP : Hid (∀ W x y, x = X → y = caErr f cs → Below w.heap.size w W → NePost X (caErr f cs) w (.returned (.tuple #[.int .i64 x, .int .i64 y])) W) := (show ∀ W x y, _ from fun W x y e1 e2 h => by subst e1 e2; exact ⟨rfl, h⟩)
  clear hLV hv hc hb0 hb1 hbk hrow hC hX
  go_enter Try.func28, Try.ntmps28
  go_wp2_with fail
  refine HC.out.mono ?_
  rintro e w1 ⟨rfl, hb⟩
  have HB1 := Lib.hid (HB.out.trans (hb.mono HB.out.size))
  have HF1 := Lib.hid (HF2.out.below hb HF2.out.lt)
  have HV1 := Lib.hid (HV2.out.below hb)
  have HC1 := Lib.hid (HC2.out.below hb)
  clear hb c0 c1 c2 HC HV2 HC2 HF2 HB
  by_cases hq : caErr f cs = 0
  · have hbn := bne_f hq
    have HQ := Lib.hid hq
    have HX : Hid (X = metR f cs) := HX0.out.symm.trans (if_pos hq)
    have hca : (fnErr f).2 = 0 ∧ cntErr f.sorts.length cs = 0 := by
      unfold caErr at hq
      by_cases h : (fnErr f).2 = 0
      · rw [if_neg (fun h2 => h2 h)] at hq; exact ⟨h, hq⟩
      · rw [if_pos h] at hq; exact absurd hq h
    have HM := Lib.hid (metal_any f (.slice Av f.sorts.length cv) cs (.slice A cs.length c) w1 HV1.out hca.1 HC1.out (cnt_ok hca.2))
    have f0 := HF1.out.cell 0
    have f1 := HF1.out.cell 1
    have f2 := HF1.out.cell 2
    have fl := HF1.out.lt
    rw [hq] at hbn
    clear HX0 hca
    generalize hle : caErr f cs = le at *
    subst hq
    generalize metR f cs = mt at *
    go_wp2_with fail
    refine HM.out.mono ?_
    rintro e w2 ⟨rfl, hb2⟩
    have HB2 := Lib.hid (HB1.out.trans (hb2.mono HB1.out.size))
    clear hb2 f0 f1 f2
    go_wp2_with fail
    go_ret2
    exact HP.out _ _ _ HX.out.symm rfl HB2.out
  · have hbn := bne_t hq
    have HX : Hid (X = 0) := HX0.out.symm.trans (if_neg hq)
    clear HX0
    generalize hle : caErr f cs = le at *
    go_wp2_with fail
    go_ret2
    exact HP.out _ _ _ HX.out.symm rfl HB1.out
end Go.Proofs.Ytefjhhgfkdkfaaa
/- combined, plus, minus. -/
namespace Go.Proofs.Ytefjhhgfkdkfaaa
set_option linter.unusedSimpArgs false
set_option linter.unusedVariables false
open Go.RowKit
theorem plus_any (a b : Int) (W : World) (h : -1000000000 ≤ a + b ∧ a + b ≤ 1000000000) : Calls Try.prog 67 #[.int .i64 a, .int .i64 b] W fun e w' => e = .returned (.int .i64 (a + b)) ∧ W = w' := by
  obtain ⟨x, hx⟩ : ∃ x, a + b = x := ⟨_, rfl⟩
  rw [hx] at h ⊢
  go_enter Try.func67, Try.ntmps67
  go_wp2_with fail
  go_ret
  exact ⟨rfl, rfl⟩
theorem minus_any (a b : Int) (W : World) (h : -1000000000 ≤ a - b ∧ a - b ≤ 1000000000) : Calls Try.prog 64 #[.int .i64 a, .int .i64 b] W fun e w' => e = .returned (.int .i64 (a - b)) ∧ W = w' := by
  obtain ⟨x, hx⟩ : ∃ x, a - b = x := ⟨_, rfl⟩
  rw [hx] at h ⊢
  go_enter Try.func64, Try.ntmps64
  go_wp2_with fail
  go_ret
  exact ⟨rfl, rfl⟩
end Go.Proofs.Ytefjhhgfkdkfaaa
/- combined: counts of two ones, sort by sort. -/
namespace Go.Proofs.Ytefjhhgfkdkfaaa
set_option linter.unusedSimpArgs false
set_option linter.unusedVariables false
open Go.RowKit
/-- The first k numbers of two lists, combined. -/
def cmbK (op : Int → Int → Int) (xs ys : List Int) : Nat → List Int
  | 0 => []
  | k + 1 => cmbK op xs ys k ++ [op (gz xs k) (gz ys k)]
theorem cmbK_len (op : Int → Int → Int) (xs ys : List Int) : ∀ k, (cmbK op xs ys k).length = k
  | 0 => rfl
  | k + 1 => by unfold cmbK; rw [List.length_append, cmbK_len op xs ys k]; rfl
theorem cmbK_get (op : Int → Int → Int) (xs ys : List Int) : ∀ k j, j < k → gz (cmbK op xs ys k) j = op (gz xs j) (gz ys j)
  | 0, j, h => absurd h (Nat.not_lt_zero _)
  | k + 1, j, h => by
    unfold cmbK
    by_cases e : j < k
    · have := cmbK_get op xs ys k j e
      unfold gz at this ⊢
      rw [List.getD_eq_getElem?_getD, List.getElem?_append_left (by rw [cmbK_len]; exact e), ← List.getD_eq_getElem?_getD]
      exact this
    · have : j = k := by omega
      subst this
      conv => lhs; unfold gz
      rw [List.getD_eq_getElem?_getD, List.getElem?_append_right (by rw [cmbK_len]; omega), cmbK_len]
      simp [gz]
set_option maxRecDepth 100000 in
set_option maxHeartbeats 4000000 in
theorem combined_any (g : Nat) (op : Int → Int → Int) (xs ys : List Int) (vx vy : Value) (w : World) (hx : IV w xs vx) (hy : IV w ys vy) (hl : xs.length ≤ ys.length) (hm : xs.length ≤ 1000000)
    (hop : ∀ W j, j < xs.length → Calls Try.prog g #[.int .i64 (gz xs j), .int .i64 (gz ys j)] W fun e w' => e = .returned (.int .i64 (op (gz xs j) (gz ys j))) ∧ W = w')
    (eg : ∀ args w, (callFunc g args).run Try.prog w = .ok (.enter g args) w) :
    Calls Try.prog 63 #[vx, vy, .func (.func g) #[] #[]] w (CloPost w (cmbK op xs ys xs.length)) := by
  have HP : Hid (∀ v w', IO w' w.heap.size (cmbK op xs ys xs.length) v → Below w.heap.size w w' → CloPost w (cmbK op xs ys xs.length) (.returned v) w') := (show ∀ v w', _ from fun v w' h hb => ⟨v, rfl, h, hb⟩)
  have HX := Lib.hid hx
  have HY := Lib.hid hy
  have HOP := Lib.hid hop
  obtain ⟨A1, -, -, c1, rfl, -, -, -, -⟩ := hx.open
  obtain ⟨A2, -, -, c2, rfl, -, -, -, -⟩ := hy.open
  clear hx hy hop
  have HI0 : Hid (IO w w.heap.size (cmbK op xs ys 0) (.slice none 0 0)) := World.ownsRow_nil _ _ _ _
  generalize hN : xs.length = N at *
  generalize hM : ys.length = M at *
  have HN := Lib.hid hN
  have HM := Lib.hid hM
  clear hN hM
  go_enter Try.func63, Try.ntmps63
  go_wp2_with fail
  go_loopg [7, 8, 11] N (fun gg s7 _ s11 wr => ∃ (k : Nat), k ≤ N ∧ N - k ≤ gg ∧ s11 = .int .i64 (k : Int) ∧ Hid (IO wr w.heap.size (cmbK op xs ys k) s7) ∧ Hid (Below w.heap.size w wr))
  case atStart => exact ⟨0, by omega, by omega, rfl, HI0.out, Below.refl _ _⟩
  case round =>
    obtain ⟨k, hk, hg, rfl, HI, HB⟩ := hrel
    by_cases hlt : k < N
    · have hltz : (k : Int) < (N : Int) := by omega
      have hltm : (k : Int) < (M : Int) := by omega
      obtain ⟨A, b, off, c, he, hA, hzs, -, -⟩ := HX.out.open
      rw [HN.out] at he hA
      injection he with e1 e2 e3
      clear e2 e3
      subst e1
      obtain ⟨rfl, hbl⟩ := hA (by omega)
      have z1 := hzs k (by rw [HN.out]; exact hlt)
      obtain ⟨A, b2, off2, c, he, hA2, hzs2, -, -⟩ := HY.out.open
      rw [HM.out] at he hA2
      injection he with e1 e2 e3
      clear e2 e3
      subst e1
      obtain ⟨rfl, hbl2⟩ := hA2 (by omega)
      have z2 := hzs2 k (by rw [HM.out]; omega)
      have HC : Hid (∀ W, Calls Try.prog g #[.int .i64 (gz xs k), .int .i64 (gz ys k)] W fun e w' => e = .returned (.int .i64 (op (gz xs k) (gz ys k))) ∧ W = w') := (show ∀ W, _ from fun W => HOP.out W k (by omega))
      have HST : Hid (cmbK op xs ys (k + 1) = cmbK op xs ys k ++ [op (gz xs k) (gz ys k)]) := rfl
      have hcl := cmbK_len op xs ys k
      obtain ⟨A7, c7, rfl⟩ := HI.out.shape
      clear hzs hzs2 hA hA2
      have hle : k ≤ 1000000 := by omega
      generalize gz xs k = xk at *
      generalize gz ys k = yk at *
      generalize op xk yk = zk at *
      generalize cmbK op xs ys k = zs at *
      obtain ⟨i3, hi3, hz3, hy3, hx3⟩ := info_parts info3
      have HKS : Hid (∀ W, Below w.heap.size w W → W.cell? ⟨b, off + k, none⟩ = some (.int .i64 xk) ∧ W.cell? ⟨b2, off2 + k, none⟩ = some (.int .i64 yk)) := (show ∀ W, _ from fun W hW => ⟨(hW.cell (p := ⟨b, off + k, none⟩) hbl).trans z1, (hW.cell (p := ⟨b2, off2 + k, none⟩) hbl2).trans z2⟩)
      have hbz := HB.out.size
      have hbd : Below wr.heap.size wr wr.drew := (Below.refl _ _).drew
      have hbn : Below wr.heap.size wr (wr.drew.alloc (.cells #[.int .i64 zk] 3)) := hbd.trans ((below_new wr.drew (.cells #[.int .i64 zk] 3)).mono hbd.size)
      have hbw : Below w.heap.size w (wr.drew.alloc (.cells #[.int .i64 zk] 3)) := HB.out.trans (hbn.mono hbz)
      have hS0 := HKS.out _ (HB.out.trans (hbd.mono hbz))
      have hown : (wr.drew.alloc (.cells #[.int .i64 zk] 3)).ownsRow w.heap.size 3 1 (.slice A7 zs.length c7) zs.length (zv zs) := HI.out.below hbn
      rw [hcl] at hown
      have HOL : Hid (∀ t, (Value.slice A7 k c7).ownBlock = some t → w.heap.size ≤ t) := (show ∀ t, _ from fun t ht => by have := (World.ownsRow.lt HI.out t (by rw [hcl]; exact ht)).1; exact this)
      have hnews : ∀ j u, ([.int .i64 zk] : List Value)[j]? = some u → (wr.drew.alloc (.cells #[.int .i64 zk] 3)).cell? ((⟨wr.drew.heap.size, 0, none⟩ : Addr).add j) = some u := World.news_of_block (w := wr.drew.alloc (.cells #[.int .i64 zk] 3)) (heap_alloc_new wr.drew _)
      have HCL := Lib.hid hcl
      have HBN := Lib.hid hbn
      have HBW := Lib.hid hbw
      rw [hcl]
      clear hcl hbd hbn hbw
      go_wp2_with fail
      go_region_held3 (fun W => W.cell? ⟨b, off + k, none⟩ = some (.int .i64 xk) ∧ W.cell? ⟨b2, off2 + k, none⟩ = some (.int .i64 yk))
        (first | exact hS0 | exact HKS.out _ hb7 | exact HKS.out _ HBW.out | go_keep)
        ((first
          | (with_reducible refine (HC.out _).mono ?_
             rintro e w4 ⟨rfl, hw4⟩
             subst hw4)
          | (refine step_append_lies _ rfl (.tmp 14) (.tmp 25) 30 rfl w.heap.size 3 i3 _ 1 8 Try.underlying30 hi3 hz3 hy3 hx3 rfl (by omega) (.slice A7 k c7) k (zv zs) rfl hown ⟨wr.drew.heap.size, 0, none⟩ 1 1 [.int .i64 zk] rfl rfl hnews (by simp [Value.oneCell']) (by omega) (by simp only [maxLen]; omega) (by omega) (by exact HBW.out.size) _ rfl ?_
             intro g7 c7' w7 hown7 hgrow7 hat7 hlt7
             have hb7 : Below w.heap.size w w7 := HBW.out.grown hgrow7 HBW.out.size (fun t ht => HOL.out t ht))))
      have HB7 := Lib.hid hb7
      have HS7 : Hid (IO w7 w.heap.size (cmbK op xs ys (k + 1)) (.slice (some ⟨g7, 0, none⟩) (k + 1) c7')) := by
        rw [HST.out]; exact IO.add hown7 HCL.out
      clear hown7 hgrow7 hat7 hlt7 hown hnews hS0 hb7
      go_wp2_with fail
      go_roundg (N - (k + 1))
      case measure => omega
      case rel => exact ⟨k + 1, by omega, by omega, by go_num, HS7.out, HB7.out⟩
    · have hltz : ¬ (k : Int) < (N : Int) := by omega
      have hke : k = N := by omega
      subst hke
      go_wp2_with fail
      go_ret
      exact HP.out _ _ HI.out HB.out
end Go.Proofs.Ytefjhhgfkdkfaaa
