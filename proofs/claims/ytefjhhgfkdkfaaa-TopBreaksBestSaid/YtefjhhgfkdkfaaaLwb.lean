/- small, light, Whole. -/
import Derived.Test.YtefjhhgfkdkfaaaLwa
namespace Go.Proofs.Ytefjhhgfkdkfaaa
set_option linter.unusedSimpArgs false
set_option linter.unusedVariables false
open Go.RowKit
@[reducible, go_sem] def xcs (f : Fnt) (v : Value) (r : Rls) (vw : Value) : Array Value := #[.string f.name, .int .i64 f.body, v, .int .i64 r.measure, .int .i64 r.indent, .int .i64 r.least, .int .i64 r.most, .int .i64 r.gap, .int .i64 r.hyphen, .int .i64 r.single, .int .i64 r.double, vw]
def SmPost (f : Fnt) (ws : List PWord) (w : World) (e : Ending) (w' : World) : Prop := ∃ b : Bool, e = .returned (.bool b) ∧ (b = true → Sml f ws) ∧ Below w.heap.size w w'
set_option maxRecDepth 100000 in
set_option maxHeartbeats 4000000 in
theorem small_any (f : Fnt) (v : Value) (ws : List PWord) (vw : Value) (w : World) (hv : SoV w f.sorts v) (hn : f.name.size ≤ 9223372036854775807) (hw : WoV w ws vw) : Calls Try.prog 112 #[.agg (fcs f v), vw] w (SmPost f ws w) := by
  have hb0 := below_new w (.cells (fcs f v) 24)
  have HPL := Lib.hid (plain_any f v _ (hv.below hb0) hn)
  have HFE := Lib.hid (fun W (h : Below (w.alloc (.cells (fcs f v) 24)).heap.size (w.alloc (.cells (fcs f v) 24)) W) => few_any ws vw W ((hw.below hb0).below h))
  have HB0 := Lib.hid hb0
  have HP : Hid (∀ W b, (b = true → Sml f ws) → Below w.heap.size w W → SmPost f ws w (.returned (.bool b)) W) := (show ∀ W b, _ from fun W b h1 h => ⟨b, rfl, h1, h⟩)
  obtain ⟨A, c, rfl⟩ := hv.shape
  obtain ⟨Aw, cw, rfl, -⟩ := hw.shape
  clear hv hw hb0
  go_enter Try.func112, Try.ntmps112
  go_wp2_with fail
  refine HPL.out.mono ?_
  rintro e w1 ⟨b, rfl, hb1, hb⟩
  have HC := Lib.hid (HFE.out _ hb)
  have HB1 := Lib.hid (HB0.out.trans (hb.mono HB0.out.size))
  cases b with
  | false =>
    go_wp2_with fail
    go_ret
    exact HP.out _ _ (fun h => by cases h) HB1.out
  | true =>
    have H1 := Lib.hid (hb1 rfl)
    go_wp2_with (first
      | (go_at_call 134; (with_reducible refine HC.out.mono ?_); rintro e w2 ⟨b2, rfl, hb2, hb3⟩))
    go_ret
    exact HP.out _ _ (fun h => ⟨H1.out, hb2 h⟩) (HB1.out.trans (hb3.mono HB1.out.size))
set_option maxRecDepth 100000 in
set_option maxHeartbeats 4000000 in
theorem light_any (f : Fnt) (v : Value) (r : Rls) (ws : List PWord) (vw : Value) (w : World) (hv : SoV w f.sorts v) (hn : f.name.size ≤ 9223372036854775807) (hw : WoV w ws vw) : Calls Try.prog 76 #[.agg (xcs f v r vw)] w (SmPost f ws w) := by
  have hb0 := below_new w (.cells (xcs f v r vw) 29)
  have HSM := Lib.hid (small_any f v ws vw _ (hv.below hb0) hn (hw.below hb0))
  have HB0 := Lib.hid hb0
  obtain ⟨A, c, rfl⟩ := hv.shape
  obtain ⟨Aw, cw, rfl, -⟩ := hw.shape
  clear hv hw hb0
  go_enter Try.func76, Try.ntmps76
  go_wp2_with fail
  refine HSM.out.mono ?_
  rintro e w1 ⟨b, rfl, hb1, hb⟩
  go_wp2_with fail
  go_ret
  exact ⟨b, rfl, hb1, HB0.out.trans (hb.mono HB0.out.size)⟩
def WhPost (f : Fnt) (r : Rls) (ws : List PWord) (w : World) (e : Ending) (w' : World) : Prop := ∃ b : Bool, e = .returned (.bool b) ∧ (b = true → Sml f ws ∧ paErr f r ws = 0) ∧ Below w.heap.size w w'
set_option maxRecDepth 100000 in
set_option maxHeartbeats 4000000 in
theorem whole_any (f : Fnt) (v : Value) (r : Rls) (ws : List PWord) (vw : Value) (w : World) (hv : SoV w f.sorts v) (hn : f.name.size ≤ 9223372036854775807) (hw : WoV w ws vw) : Calls Try.prog 34 #[.agg (xcs f v r vw)] w (WhPost f r ws w) := by
  have hb0 := below_new w (.cells (xcs f v r vw) 29)
  have hbk := Blk.new w 29 (xcs f v r vw)
  have HSM := Lib.hid (light_any f v r ws vw _ (hv.below hb0) hn (hw.below hb0))
  have HER := Lib.hid (fun W (h : Below (w.alloc (.cells (xcs f v r vw) 29)).heap.size (w.alloc (.cells (xcs f v r vw) 29)) W) => refErr04_any f v r ws vw W ((hv.below hb0).below h) hn ((hw.below hb0).below h))
  have HP : Hid (∀ W b, (b = true → Sml f ws ∧ paErr f r ws = 0) → Below w.heap.size w W → WhPost f r ws w (.returned (.bool b)) W) := (show ∀ W b, _ from fun W b h1 h => ⟨b, rfl, h1, h⟩)
  have HB0 := Lib.hid hb0
  obtain ⟨A, c, rfl⟩ := hv.shape
  obtain ⟨Aw, cw, rfl, -⟩ := hw.shape
  clear hv hw hb0
  have HBK := Lib.hid hbk
  clear hbk
  go_enter Try.func34, Try.ntmps34
  go_wp2_with fail
  refine HSM.out.mono ?_
  rintro e w1 ⟨b, rfl, hb1, hb⟩
  have HC := Lib.hid (HER.out _ hb)
  have HB1 := Lib.hid (HB0.out.trans (hb.mono HB0.out.size))
  cases b with
  | false =>
    go_wp2_with fail
    go_ret
    exact HP.out _ _ (fun h => by cases h) HB1.out
  | true =>
    have H1 := Lib.hid (hb1 rfl)
    have hk1 := HBK.out.below hb HBK.out.lt
    have c0 := hk1.cell 0
    have c1 := hk1.cell 1
    have c2 := hk1.cell 2
    have c3 := hk1.cell 3
    have c4 := hk1.cell 4
    have c5 := hk1.cell 5
    have c6 := hk1.cell 6
    have c7 := hk1.cell 7
    have c8 := hk1.cell 8
    have c9 := hk1.cell 9
    have c10 := hk1.cell 10
    have c11 := hk1.cell 11
    have cl := hk1.lt
    clear hk1 hb
    by_cases he : paErr f r ws = 0
    · have HE := Lib.hid he
      rw [he] at HC
      clear he
      go_wp2_with (first
        | (go_at_call 77; (with_reducible refine HC.out.mono ?_); rintro e w2 ⟨rfl, hb3⟩))
      go_ret
      exact HP.out _ _ (fun h => ⟨H1.out, HE.out⟩) (HB1.out.trans (hb3.mono HB1.out.size))
    · have heb : (paErr f r ws == 0) = false := beq_false_of_ne he
      generalize paErr f r ws = pe at *
      clear he
      go_wp2_with (first
        | (go_at_call 77; (with_reducible refine HC.out.mono ?_); rintro e w2 ⟨rfl, hb3⟩))
      go_ret
      exact HP.out _ _ (fun h => by cases h) (HB1.out.trans (hb3.mono HB1.out.size))
set_option maxRecDepth 100000 in
set_option maxHeartbeats 4000000 in
theorem wholeO_any (f : Fnt) (v : Value) (r : Rls) (ws : List PWord) (vw : Value) (w : World) (hv : SoV w f.sorts v) (hn : f.name.size ≤ 9223372036854775807) (hw : WoV w ws vw) : Calls Try.prog 6 #[.agg (xcs f v r vw)] w (WhPost f r ws w) := by
  have hb0 := below_new w (.cells (xcs f v r vw) 29)
  have HSM := Lib.hid (whole_any f v r ws vw _ (hv.below hb0) hn (hw.below hb0))
  have HB0 := Lib.hid hb0
  obtain ⟨A, c, rfl⟩ := hv.shape
  obtain ⟨Aw, cw, rfl, -⟩ := hw.shape
  clear hv hw hb0
  go_enter Try.func6, Try.ntmps6
  go_wp2_with fail
  refine HSM.out.mono ?_
  rintro e w1 ⟨b, rfl, hb1, hb⟩
  go_wp2_with fail
  go_ret
  exact ⟨b, rfl, hb1, HB0.out.trans (hb.mono HB0.out.size)⟩
end Go.Proofs.Ytefjhhgfkdkfaaa
