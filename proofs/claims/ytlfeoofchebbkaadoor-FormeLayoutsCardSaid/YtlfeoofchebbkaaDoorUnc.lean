/- forme.Uncovered. -/
import Derived.Test.YtlfeoofchebbkaaDoorAll
import Derived.Test.YtlfeoofchebbkaaDoorShp
namespace Go.Proofs.YtlfeoofchebbkaaDoor
set_option linter.unusedSimpArgs false
set_option linter.unusedVariables false
open Go.RowKit
theorem unc_any (f : Forme) (A : Option Addr) (b off c : Nat) (w : World) (hA : Lies A f.ps.length w.heap.size b off) (hps : PsAt w b off f.ps) (hnm : NameOk f.ps) (hc : f.ps.length ≤ c) (hm : f.ps.length ≤ 1000) :
    Calls Tryd.prog 9 #[.agg #[.int .i64 f.W, .int .i64 f.H, .slice A f.ps.length c]] w fun e w' => e = .returned (.tuple #[.int .i64 (if (checkF f).2 = 0 then f.W * f.H - areas f.ps else 0), .int .i64 (checkF f).2]) ∧ Below w.heap.size w w' := by
  have hcall := fun W (hb : Below w.heap.size w W) => check_any f A b off c W (hA.mono hb.size) (fun j hj => (hps j hj).below hb (hA (by omega)).2) hnm hc (by omega)
  have hB := below_new w (Obj.cells #[Value.int IntKind.i64 f.W, Value.int IntKind.i64 f.H, Value.slice A f.ps.length c] 28)
  have hF := Blk.new w 28 #[Value.int IntKind.i64 f.W, Value.int IntKind.i64 f.H, Value.slice A f.ps.length c]
  by_cases hs : (checkF f).2 = 0
  · have hR := checkF_zero hs
    have hcall2 := fun W (hb : Below w.heap.size w W) => uncovered_any f A b off c W (hA.mono hb.size) (fun j hj => (hps j hj).below hb (hA (by omega)).2) hR.toLaid hc (by omega)
    rw [hs] at hcall
    rw [if_pos hs, hs]
    generalize f.W * f.H - areas f.ps = u at *
    generalize f.ps.length = n at *
    clear hs hps hA hR
    go_enter Tryd.func9, Tryd.ntmps9
    go_wp2_with fail
    generalize w.alloc (Obj.cells #[Value.int IntKind.i64 f.W, Value.int IntKind.i64 f.H, Value.slice A n c] 28) = W0 at *
    refine (hcall _ hB).mono ?_
    rintro e w1 ⟨rfl, b1⟩
    have hF1 := hF.below b1 hF.lt
    have a0 : w1.cell? ⟨w.heap.size, 0, none⟩ = some (.int .i64 f.W) := hF1.cell 0
    have a1 : w1.cell? ⟨w.heap.size, 1, none⟩ = some (.int .i64 f.H) := hF1.cell 1
    have a2 : w1.cell? ⟨w.heap.size, 2, none⟩ = some (.slice A n c) := hF1.cell 2
    have HB1 := Lib.hid (hB.trans (b1.mono hB.size))
    have HC2 := Lib.hid hcall2
    clear hcall hcall2 hB hF hF1 b1
    go_wp2_with fail
    refine (HC2.out _ HB1.out).mono ?_
    rintro e w2 ⟨rfl, b2⟩
    have HB2 := Lib.hid (HB1.out.trans (b2.mono HB1.out.size))
    clear b2
    go_wp2_with fail
    go_ret2
    exact ⟨rfl, HB2.out⟩
  · rw [if_neg hs]
    have hsb := bne_t hs
    generalize (checkF f).2 = s at *
    generalize f.ps.length = n at *
    clear hs hps hA
    go_enter Tryd.func9, Tryd.ntmps9
    go_wp2_with fail
    generalize w.alloc (Obj.cells #[Value.int IntKind.i64 f.W, Value.int IntKind.i64 f.H, Value.slice A n c] 28) = W0 at *
    refine (hcall _ hB).mono ?_
    rintro e w1 ⟨rfl, b1⟩
    have HB1 := Lib.hid (hB.trans (b1.mono hB.size))
    clear hcall hB hF b1
    go_wp2_with fail
    go_ret2
    exact ⟨rfl, HB1.out⟩
end Go.Proofs.YtlfeoofchebbkaaDoor
