/- Plain, Few, small, light, Whole: what the law asks of a paragraph's sizes. -/
import Derived.Test.YtefjhhgfkdkfaaaWds
namespace Go.Proofs.Ytefjhhgfkdkfaaa
set_option linter.unusedSimpArgs false
set_option linter.unusedVariables false
open Go.RowKit
/-- How many sorts, words, sorts of words, places. -/
def Sml (f : Fnt) (ws : List PWord) : Prop := f.sorts.length ≤ 122 ∧ ws.length ≤ 202 ∧ ∀ i, i < ws.length → (gw ws i).sorts.length ≤ 62 ∧ (gw ws i).breaks.length ≤ 6
def PlnPost (f : Fnt) (w : World) (e : Ending) (w' : World) : Prop := ∃ b : Bool, e = .returned (.bool b) ∧ (b = true → f.sorts.length ≤ 122) ∧ Below w.heap.size w w'
set_option maxRecDepth 100000 in
set_option maxHeartbeats 4000000 in
theorem plain_any (f : Fnt) (v : Value) (w : World) (hv : SoV w f.sorts v) (hn : f.name.size ≤ 9223372036854775807) : Calls Try.prog 133 #[.agg (fcs f v)] w (PlnPost f w) := by
  have hfew := hv.few
  have hb0 := below_new w (.cells (fcs f v) 24)
  have hbk := Blk.new w 24 (fcs f v)
  have HV0 := Lib.hid (hv.below hb0)
  obtain ⟨A, c, rfl⟩ := hv.shape
  have HB0 := Lib.hid hb0
  have c0 := hbk.cell 0
  have c2 := hbk.cell 2
  have HFL : Hid (∀ W, Below w.heap.size w W → PlnPost f w (.returned (.bool false)) W) := (show ∀ W, _ from fun W h => ⟨false, rfl, (fun h => by cases h), h⟩)
  have HTR : Hid (∀ W, f.sorts.length ≤ 122 → Below w.heap.size w W → PlnPost f w (.returned (.bool true)) W) := (show ∀ W, _ from fun W h1 h => ⟨true, rfl, fun _ => h1, h⟩)
  clear hv hb0
  go_enter Try.func133, Try.ntmps133
  generalize hN : f.sorts.length = N at *
  have HN := Lib.hid hN
  clear hN
  by_cases hA : (10 < N ∧ N ≤ 120) ∨ 122 < N ∨ 20 < f.name.size
  · go_wp2_with fail
    all_goals first
      | (exfalso; omega)
      | (go_ret; exact HFL.out _ HB0.out)
  · have hs : (f.name.size : Int) ≤ 20 := by omega
    go_wp2_with fail
    all_goals first
      | (exfalso; omega)
      | skip
    all_goals
      go_loopg [3] N (fun gg s3 wr => ∃ k : Nat, k ≤ N ∧ N - k ≤ gg ∧ s3 = .int .i64 k ∧ Hid (Below (w.alloc (.cells (fcs f (.slice A N c)) 24)).heap.size (w.alloc (.cells (fcs f (.slice A N c)) 24)) wr))
      case atStart => exact ⟨0, by omega, by omega, rfl, Below.refl _ _⟩
      case round =>
        obtain ⟨k, hk, hg, rfl, HB⟩ := hrel
        have c2' := (HB.out.cell (p := ⟨w.heap.size, 2, none⟩) (by simp)).trans c2
        have cl' : w.heap.size < wr.heap.size := by have := HB.out.size; simp at this; omega
        have HBB := Lib.hid (HB0.out.trans (HB.out.mono HB0.out.size))
        clear c0 c2
        by_cases hlt : k < N
        · have hltz : (k : Int) < (N : Int) := by omega
          have hV := HV0.out.below HB.out
          obtain ⟨A', b, off, c', he, hA', hss, -, -, hsz⟩ := hV
          rw [HN.out] at he hA'
          injection he with e1 e2 e3
          clear e2 e3
          subst e1
          obtain ⟨rfl, hbl⟩ := hA' (by omega)
          obtain ⟨s0, s1, -, -⟩ := hss k (by rw [HN.out]; exact hlt)
          have hsk := hsz k (by rw [HN.out]; exact hlt)
          generalize (gs f.sorts k) = x at *
          clear hss hsz
          go_wp2_with fail
          all_goals first
            | (go_ret; exact HFL.out _ HBB.out)
            | skip
          all_goals
            go_roundg (N - (k + 1))
            case measure => omega
            case rel => exact ⟨k + 1, by omega, by omega, by go_num, HB.out⟩
        · have hltz : ¬ (k : Int) < (N : Int) := by omega
          go_wp2_with fail
          go_ret
          exact HTR.out _ (by omega) HBB.out
def FewPost (ws : List PWord) (w : World) (e : Ending) (w' : World) : Prop := ∃ b : Bool, e = .returned (.bool b) ∧ (b = true → ws.length ≤ 202 ∧ ∀ i, i < ws.length → (gw ws i).sorts.length ≤ 62 ∧ (gw ws i).breaks.length ≤ 6) ∧ Below w.heap.size w w'
set_option maxRecDepth 100000 in
set_option maxHeartbeats 4000000 in
theorem few_any (ws : List PWord) (v : Value) (w : World) (hv : WoV w ws v) : Calls Try.prog 134 #[v] w (FewPost ws w) := by
  obtain ⟨A, c, rfl, hfew⟩ := hv.shape
  have HV := Lib.hid hv
  have HFL : Hid (∀ W, Below w.heap.size w W → FewPost ws w (.returned (.bool false)) W) := (show ∀ W, _ from fun W h => ⟨false, rfl, (fun h => by cases h), h⟩)
  have HTR : Hid (∀ W, ws.length ≤ 202 → (∀ i, i < ws.length → (gw ws i).sorts.length ≤ 62 ∧ (gw ws i).breaks.length ≤ 6) → Below w.heap.size w W → FewPost ws w (.returned (.bool true)) W) := (show ∀ W, _ from fun W h1 h2 h => ⟨true, rfl, fun _ => ⟨h1, h2⟩, h⟩)
  clear hv
  go_enter Try.func134, Try.ntmps134
  generalize hN : ws.length = N at *
  have HN := Lib.hid hN
  clear hN
  by_cases hA : (10 < N ∧ N ≤ 200) ∨ 202 < N
  · go_wp2_with fail
    all_goals first
      | (exfalso; omega)
      | (go_ret; exact HFL.out _ (Below.refl _ _))
  · go_wp2_with fail
    all_goals first
      | (exfalso; omega)
      | skip
    all_goals
      go_loopg [3] N (fun gg s3 wr => ∃ k : Nat, k ≤ N ∧ N - k ≤ gg ∧ s3 = .int .i64 k ∧ Hid (Below w.heap.size w wr) ∧ Hid (∀ i, i < k → (gw ws i).sorts.length ≤ 62 ∧ (gw ws i).breaks.length ≤ 6))
      case atStart => exact ⟨0, by omega, by omega, rfl, Below.refl _ _, (show ∀ i, _ from fun i hi => absurd hi (Nat.not_lt_zero _))⟩
      case round =>
        obtain ⟨k, hk, hg, rfl, HB, HI⟩ := hrel
        by_cases hlt : k < N
        · have hltz : (k : Int) < (N : Int) := by omega
          have hV := HV.out.below HB.out
          rw [← HN.out] at hV
          obtain ⟨b, off, A1, c1, A2, c2, rfl, hbl, z1, z2, i1, i2, hm3, hm4, hm1, hm2⟩ := hV.at (k := k) (by rw [HN.out]; exact hlt)
          have HST : Hid ((gw ws k).sorts.length ≤ 62 ∧ (gw ws k).breaks.length ≤ 6 → ∀ i, i < k + 1 → (gw ws i).sorts.length ≤ 62 ∧ (gw ws i).breaks.length ≤ 6) := (show _ → _ from fun h i hi => by
            by_cases e : i = k
            · rw [e]; exact h
            · exact HI.out i (by omega))
          clear hV i1 i2
          generalize (gw ws k).sorts.length = n1 at *
          generalize (gw ws k).breaks.length = n2 at *
          go_wp2_with fail
          all_goals first
            | (go_ret; exact HFL.out _ HB.out)
            | skip
          all_goals
            go_roundg (N - (k + 1))
            case measure => omega
            case rel => exact ⟨k + 1, by omega, by omega, by go_num, HB.out, HST.out ⟨by omega, by omega⟩⟩
        · have hltz : ¬ (k : Int) < (N : Int) := by omega
          have hke : k = N := by omega
          have HI2 : Hid (∀ i, i < N → (gw ws i).sorts.length ≤ 62 ∧ (gw ws i).breaks.length ≤ 6) := by rw [hke] at HI; exact HI
          clear hke HI hlt
          go_wp2_with fail
          go_ret
          exact HTR.out _ (by omega) HI2.out HB.out
end Go.Proofs.Ytefjhhgfkdkfaaa
/- small, light, Whole. -/
namespace Go.Proofs.Ytefjhhgfkdkfaaa
set_option linter.unusedSimpArgs false
set_option linter.unusedVariables false
open Go.RowKit
@[reducible, go_sem] def xcs (f : Fnt) (v : Value) (r : Rls) (vw : Value) : Array Value := #[.string f.name, .int .i64 f.body, v, .int .i64 r.measure, .int .i64 r.indent, .int .i64 r.least, .int .i64 r.most, .int .i64 r.gap, .int .i64 r.hyphen, .int .i64 r.single, .int .i64 r.double, vw]
def SmPost (f : Fnt) (ws : List PWord) (w : World) (e : Ending) (w' : World) : Prop := ∃ b : Bool, e = .returned (.bool b) ∧ (b = true → Sml f ws) ∧ Below w.heap.size w w'
set_option maxRecDepth 100000 in
set_option maxHeartbeats 4000000 in
theorem small_any (f : Fnt) (v : Value) (ws : List PWord) (vw : Value) (w : World) (hv : SoV w f.sorts v) (hn : f.name.size ≤ 9223372036854775807) (hw : WoV w ws vw) : Calls Try.prog 112 #[.agg (fcs f v), vw] w (SmPost f ws w) := by
  have hb0 := below_new w (.cells (fcs f v) 24)
  have HPL := Lib.hid (plain_any f v _ (hv.below hb0) hn)
  have HFE := Lib.hid (fun W (h : Below (w.alloc (.cells (fcs f v) 24)).heap.size (w.alloc (.cells (fcs f v) 24)) W) => few_any ws vw W ((hw.below hb0).below h))
  have HB0 := Lib.hid hb0
  have HP : Hid (∀ W b, (b = true → Sml f ws) → Below w.heap.size w W → SmPost f ws w (.returned (.bool b)) W) := (show ∀ W b, _ from fun W b h1 h => ⟨b, rfl, h1, h⟩)
  obtain ⟨A, c, rfl⟩ := hv.shape
  obtain ⟨Aw, cw, rfl, -⟩ := hw.shape
  clear hv hw hb0
  go_enter Try.func112, Try.ntmps112
  go_wp2_with fail
  refine HPL.out.mono ?_
  rintro e w1 ⟨b, rfl, hb1, hb⟩
  have HC := Lib.hid (HFE.out _ hb)
  have HB1 := Lib.hid (HB0.out.trans (hb.mono HB0.out.size))
  cases b with
  | false =>
    go_wp2_with fail
    go_ret
    exact HP.out _ _ (fun h => by cases h) HB1.out
  | true =>
    have H1 := Lib.hid (hb1 rfl)
    go_wp2_with (first
      | (go_at_call 134; (with_reducible refine HC.out.mono ?_); rintro e w2 ⟨b2, rfl, hb2, hb3⟩))
    go_ret
    exact HP.out _ _ (fun h => ⟨H1.out, hb2 h⟩) (HB1.out.trans (hb3.mono HB1.out.size))
set_option maxRecDepth 100000 in
set_option maxHeartbeats 4000000 in
theorem light_any (f : Fnt) (v : Value) (r : Rls) (ws : List PWord) (vw : Value) (w : World) (hv : SoV w f.sorts v) (hn : f.name.size ≤ 9223372036854775807) (hw : WoV w ws vw) : Calls Try.prog 76 #[.agg (xcs f v r vw)] w (SmPost f ws w) := by
  have hb0 := below_new w (.cells (xcs f v r vw) 29)
  have HSM := Lib.hid (small_any f v ws vw _ (hv.below hb0) hn (hw.below hb0))
  have HB0 := Lib.hid hb0
  obtain ⟨A, c, rfl⟩ := hv.shape
  obtain ⟨Aw, cw, rfl, -⟩ := hw.shape
  clear hv hw hb0
  go_enter Try.func76, Try.ntmps76
  go_wp2_with fail
  refine HSM.out.mono ?_
  rintro e w1 ⟨b, rfl, hb1, hb⟩
  go_wp2_with fail
  go_ret
  exact ⟨b, rfl, hb1, HB0.out.trans (hb.mono HB0.out.size)⟩
def WhPost (f : Fnt) (r : Rls) (ws : List PWord) (w : World) (e : Ending) (w' : World) : Prop := ∃ b : Bool, e = .returned (.bool b) ∧ (b = true → Sml f ws ∧ paErr f r ws = 0) ∧ Below w.heap.size w w'
set_option maxRecDepth 100000 in
set_option maxHeartbeats 4000000 in
theorem whole_any (f : Fnt) (v : Value) (r : Rls) (ws : List PWord) (vw : Value) (w : World) (hv : SoV w f.sorts v) (hn : f.name.size ≤ 9223372036854775807) (hw : WoV w ws vw) : Calls Try.prog 34 #[.agg (xcs f v r vw)] w (WhPost f r ws w) := by
  have hb0 := below_new w (.cells (xcs f v r vw) 29)
  have hbk := Blk.new w 29 (xcs f v r vw)
  have HSM := Lib.hid (light_any f v r ws vw _ (hv.below hb0) hn (hw.below hb0))
  have HER := Lib.hid (fun W (h : Below (w.alloc (.cells (xcs f v r vw) 29)).heap.size (w.alloc (.cells (xcs f v r vw) 29)) W) => refErr04_any f v r ws vw W ((hv.below hb0).below h) hn ((hw.below hb0).below h))
  have HP : Hid (∀ W b, (b = true → Sml f ws ∧ paErr f r ws = 0) → Below w.heap.size w W → WhPost f r ws w (.returned (.bool b)) W) := (show ∀ W b, _ from fun W b h1 h => ⟨b, rfl, h1, h⟩)
  have HB0 := Lib.hid hb0
  obtain ⟨A, c, rfl⟩ := hv.shape
  obtain ⟨Aw, cw, rfl, -⟩ := hw.shape
  clear hv hw hb0
  have HBK := Lib.hid hbk
  clear hbk
  go_enter Try.func34, Try.ntmps34
  go_wp2_with fail
  refine HSM.out.mono ?_
  rintro e w1 ⟨b, rfl, hb1, hb⟩
  have HC := Lib.hid (HER.out _ hb)
  have HB1 := Lib.hid (HB0.out.trans (hb.mono HB0.out.size))
  cases b with
  | false =>
    go_wp2_with fail
    go_ret
    exact HP.out _ _ (fun h => by cases h) HB1.out
  | true =>
    have H1 := Lib.hid (hb1 rfl)
    have hk1 := HBK.out.below hb HBK.out.lt
    have c0 := hk1.cell 0
    have c1 := hk1.cell 1
    have c2 := hk1.cell 2
    have c3 := hk1.cell 3
    have c4 := hk1.cell 4
    have c5 := hk1.cell 5
    have c6 := hk1.cell 6
    have c7 := hk1.cell 7
    have c8 := hk1.cell 8
    have c9 := hk1.cell 9
    have c10 := hk1.cell 10
    have c11 := hk1.cell 11
    have cl := hk1.lt
    clear hk1 hb
    by_cases he : paErr f r ws = 0
    · have HE := Lib.hid he
      rw [he] at HC
      clear he
      go_wp2_with (first
        | (go_at_call 77; (with_reducible refine HC.out.mono ?_); rintro e w2 ⟨rfl, hb3⟩))
      go_ret
      exact HP.out _ _ (fun h => ⟨H1.out, HE.out⟩) (HB1.out.trans (hb3.mono HB1.out.size))
    · have heb : (paErr f r ws == 0) = false := beq_false_of_ne he
      generalize paErr f r ws = pe at *
      clear he
      go_wp2_with (first
        | (go_at_call 77; (with_reducible refine HC.out.mono ?_); rintro e w2 ⟨rfl, hb3⟩))
      go_ret
      exact HP.out _ _ (fun h => by cases h) (HB1.out.trans (hb3.mono HB1.out.size))
set_option maxRecDepth 100000 in
set_option maxHeartbeats 4000000 in
theorem wholeO_any (f : Fnt) (v : Value) (r : Rls) (ws : List PWord) (vw : Value) (w : World) (hv : SoV w f.sorts v) (hn : f.name.size ≤ 9223372036854775807) (hw : WoV w ws vw) : Calls Try.prog 6 #[.agg (xcs f v r vw)] w (WhPost f r ws w) := by
  have hb0 := below_new w (.cells (xcs f v r vw) 29)
  have HSM := Lib.hid (whole_any f v r ws vw _ (hv.below hb0) hn (hw.below hb0))
  have HB0 := Lib.hid hb0
  obtain ⟨A, c, rfl⟩ := hv.shape
  obtain ⟨Aw, cw, rfl, -⟩ := hw.shape
  clear hv hw hb0
  go_enter Try.func6, Try.ntmps6
  go_wp2_with fail
  refine HSM.out.mono ?_
  rintro e w1 ⟨b, rfl, hb1, hb⟩
  go_wp2_with fail
  go_ret
  exact ⟨b, rfl, hb1, HB0.out.trans (hb.mono HB0.out.size)⟩
end Go.Proofs.Ytefjhhgfkdkfaaa
