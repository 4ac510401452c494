/- paragraph.Places: the places of a paragraph, or the error. -/
import Derived.Test.YtbnganlfelgogaaGreatZLwa
set_option linter.unusedSimpArgs false
set_option linter.unusedVariables false
namespace Go.Proofs.YtbnganlfelgogaaGreat
open Go.RowKit
def PlcPost (f : Fnt) (ws : List PWord) (w : World) (e : Ending) (w' : World) : Prop :=
 Below w.heap.size w w' ∧ (((wsErr f ws).2 ≠ 0 ∧ e = .returned (.tuple #[.slice none 0 0, .int .i64 (wsErr f ws).2])) ∨ ((wsErr f ws).2 = 0 ∧ ∃ v, e = .returned (.tuple #[v, .int .i64 0]) ∧ PlV w' (places ws) v))
set_option maxRecDepth 100000 in
set_option maxHeartbeats 4000000 in
theorem places_any (f : Fnt) (v : Value) (ws : List PWord) (vw : Value) (w : World) (hv : SoV w f.sorts v) (hn : f.name.size ≤ 9223372036854775807) (hw : WoV w ws vw) :
 Calls Tryz.prog 26 #[.agg (fcs f v), vw] w (PlcPost f ws w) := by
 have hb0 := below_new w (.cells (fcs f v) 24)
 have HB0 := Lib.hid hb0
 have hk0 := Blk.new w 24 (fcs f v)
 have HV := Lib.hid (hv.below hb0)
 have HW := Lib.hid (hw.below hb0)
 obtain ⟨A, c, rfl⟩ := hv.shape
 obtain ⟨Aw, cw, rfl, -⟩ := hw.shape
 have HK0 := Lib.hid hk0
 have HP0 : Hid (∀ W x, x = (wsErr f ws).2 → x ≠ 0 → Below w.heap.size w W → PlcPost f ws w (.returned (.tuple #[.slice none 0 0, .int .i64 x])) W) := (show ∀ W x, _ from fun W x e h0 h => ⟨h, .inl ⟨by rw [← e]; exact h0, by rw [e]⟩⟩)
 have HP1 : Hid (∀ W v, (wsErr f ws).2 = 0 → PlV W (places ws) v → Below w.heap.size w W → PlcPost f ws w (.returned (.tuple #[v, .int .i64 0])) W) := (show ∀ W v, _ from fun W v h0 hp h => ⟨h, .inr ⟨h0, v, rfl, hp⟩⟩)
 have HOK : Hid ((wsErr f ws).2 = 0 → WsOk f.sorts.length ws ∧ ws.length ≤ 200) := (show _ → _ from fun h => ⟨(wsErr_ok h).2.1, (wsErr_ok h).2.2.2.1⟩)
 clear hv hw hb0 hk0
 go_enter Tryz.func26, Tryz.ntmps26
 go_upto_region 1 with fail
 generalize w.alloc (.cells (fcs f (.slice A f.sorts.length c)) 24) = W0 at *
 have f0 := HK0.out.cell 0
 have f1 := HK0.out.cell 1
 have f2 := HK0.out.cell 2
 have fl := HK0.out.lt
 go_wp2_with fail
 refine (checkWords_any f _ ws _ W0 HV.out hn HW.out).mono ?_
 rintro e W1 ⟨rfl, hb1⟩
 have HB1 := Lib.hid (HB0.out.trans (hb1.mono HB0.out.size))
 have HW1 := Lib.hid (HW.out.below hb1)
 clear hb1 f0 f1 f2 fl HK0 HB0 HV HW
 generalize wsErr f ws = we at *
 obtain ⟨w1, w2⟩ := we
 by_cases h0 : w2 = 0
 · subst h0
   have hok := HOK.out rfl
   have HPL := Lib.hid (placesOf_any f.sorts.length ws _ W1 HW1.out hok.1 hok.2)
   have HN2 : Hid (ws.length ≤ 200) := hok.2
   clear hok HOK
   go_wp2_with fail
   refine HPL.out.mono ?_
   rintro e W2 ⟨vp, rfl, hpl, hb2, -⟩
   obtain ⟨Ap, cp, rfl, -, -⟩ := hpl.shape
   have HB2 := Lib.hid (HB1.out.trans (hb2.mono HB1.out.size))
   have HPV := Lib.hid hpl
   clear hb2 hpl HPL
   go_wp2_with fail
   go_ret2
   exact HP1.out _ _ trivial HPV.out HB2.out
 · have hb := bne_t h0
   have H0 := Lib.hid h0
   clear h0
   go_wp2_with fail
   go_ret2
   exact HP0.out _ _ rfl H0.out HB1.out
end Go.Proofs.YtbnganlfelgogaaGreat
