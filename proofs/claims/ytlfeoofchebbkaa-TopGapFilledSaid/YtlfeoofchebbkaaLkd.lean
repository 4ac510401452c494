/- The example of the forme, for the statements of several chapters: what hangs loose, what is not covered. -/
import Derived.Test.YtlfeoofchebbkaaAwk
import Derived.Test.YtlfeoofchebbkaaHlr
import Derived.Test.YtlfeoofchebbkaaLw
namespace Go.Proofs.Ytlfeoofchebbkaa
set_option linter.unusedSimpArgs false
set_option linter.unusedVariables false
open Go.RowKit
set_option maxRecDepth 100000 in
set_option maxHeartbeats 1000000 in
theorem unc42_any (f : Forme) (A : Option Addr) (b off c : Nat) (w : World) (hA : Lies A f.ps.length w.heap.size b off) (hps : PsAt w b off f.ps) (hnm : NameOk f.ps) (hc : f.ps.length ≤ c) (hm : f.ps.length ≤ 1000) :
    Calls Try.prog 42 #[.agg #[.int .i64 f.W, .int .i64 f.H, .slice A f.ps.length c]] w fun e w' => e = .returned (.tuple #[.int .i64 (if (checkF f).2 = 0 then f.W * f.H - areas f.ps else 0), .int .i64 (checkF f).2]) ∧ Below w.heap.size w w' := by
  have hcall := fun W (hb : Below w.heap.size w W) => check_any f A b off c W (hA.mono hb.size) (fun j hj => (hps j hj).below hb (hA (by omega)).2) hnm hc (by omega)
  have hB := below_new w (Obj.cells #[Value.int IntKind.i64 f.W, Value.int IntKind.i64 f.H, Value.slice A f.ps.length c] 37)
  have hF := Blk.new w 37 #[Value.int IntKind.i64 f.W, Value.int IntKind.i64 f.H, Value.slice A f.ps.length c]
  by_cases hs : (checkF f).2 = 0
  · have hR := checkF_zero hs
    have hcall2 := fun W (hb : Below w.heap.size w W) => uncovered_any f A b off c W (hA.mono hb.size) (fun j hj => (hps j hj).below hb (hA (by omega)).2) hR.toLaid hc (by omega)
    rw [hs] at hcall
    rw [if_pos hs, hs]
    generalize f.W * f.H - areas f.ps = u at *
    generalize f.ps.length = n at *
    clear hs hps hA hR
    go_enter Try.func42, Try.ntmps42
    go_wp2_with fail
    generalize w.alloc (Obj.cells #[Value.int IntKind.i64 f.W, Value.int IntKind.i64 f.H, Value.slice A n c] 37) = W0 at *
    refine (hcall _ hB).mono ?_
    rintro e w1 ⟨rfl, b1⟩
    have hF1 := hF.below b1 hF.lt
    have a0 : w1.cell? ⟨w.heap.size, 0, none⟩ = some (.int .i64 f.W) := hF1.cell 0
    have a1 : w1.cell? ⟨w.heap.size, 1, none⟩ = some (.int .i64 f.H) := hF1.cell 1
    have a2 : w1.cell? ⟨w.heap.size, 2, none⟩ = some (.slice A n c) := hF1.cell 2
    have HB1 := Lib.hid (hB.trans (b1.mono hB.size))
    have HC2 := Lib.hid hcall2
    clear hcall hcall2 hB hF hF1 b1
    go_wp2_with fail
    refine (HC2.out _ HB1.out).mono ?_
    rintro e w2 ⟨rfl, b2⟩
    have HB2 := Lib.hid (HB1.out.trans (b2.mono HB1.out.size))
    clear b2
    go_wp2_with fail
    go_ret2
    exact ⟨rfl, HB2.out⟩
  · rw [if_neg hs]
    have hsb := bne_t hs
    generalize (checkF f).2 = s at *
    generalize f.ps.length = n at *
    clear hs hps hA
    go_enter Try.func42, Try.ntmps42
    go_wp2_with fail
    generalize w.alloc (Obj.cells #[Value.int IntKind.i64 f.W, Value.int IntKind.i64 f.H, Value.slice A n c] 37) = W0 at *
    refine (hcall _ hB).mono ?_
    rintro e w1 ⟨rfl, b1⟩
    have HB1 := Lib.hid (hB.trans (b1.mono hB.size))
    clear hcall hB hF b1
    go_wp2_with fail
    go_ret2
    exact ⟨rfl, HB1.out⟩
theorem small_loose : colTo (looseG fun j => heldA smallF (smallR 0) j + heldD smallF (smallR 0) j) 5 = [0, 1, 2] := by kernel_rfl
def bareF : Forme := { W := 3, H := 2, ps := [] }
theorem bare_check : checkF bareF = (0, 0) := by kernel_rfl
set_option maxRecDepth 100000 in
set_option maxHeartbeats 2000000 in
theorem locked74_any (w : World) : Calls Try.prog 74 #[] w fun e w' => e = .returned (.bool true) ∧ Below w.heap.size w w' := by
  go_enter Try.func74, Try.ntmps74
  go_wp2_with fail
  refine (small_any _).mono ?_
  rintro e w1 ⟨g, rfl, hg, hps, b1⟩
  have HP1 := Lib.hid hps
  have HB1 := Lib.hid b1
  clear hps b1
  go_wp2_with fail
  refine (sizes_any 0 _).mono ?_
  rintro e w2 ⟨g1, g2, g3, rfl, hg1, hg2, hg3, z1, z2, z3, b2⟩
  have HS : SmallAt w2 w2.heap.size g g1 g2 g3 := ⟨fun _ => ⟨rfl, Nat.lt_of_lt_of_le hg b2.size⟩, fun j hj => (HP1.out j hj).below b2 hg, ⟨fun _ => ⟨rfl, hg1⟩, fun _ => ⟨rfl, hg2⟩, fun _ => ⟨rfl, hg3⟩, z1, z2, z3⟩⟩
  have HB2 := Lib.hid (HB1.out.trans (b2.mono HB1.out.size))
  have HSS := Lib.hid HS
  clear HS z1 z2 z3 b2 HP1 HB1 hg hg1 hg2 hg3
  go_wp2_with fail
  refine (loose_yes smallF (smallR 0) _ _ _ _ g 0 g1 0 g2 0 g3 0 5 5 5 5 _ HSS.out small_names (by decide) (by decide) (by decide) (by decide) (by decide) (by rw [small_checkR])).mono ?_
  rintro e w3 ⟨v, rfl, hv, b3⟩
  rw [show smallF.ps.length = 5 from rfl, small_loose] at hv
  have HV3 := Lib.hid hv
  have HB3 := Lib.hid (HB2.out.trans (b3.mono HB2.out.size))
  clear hv b3 HB2 HSS
  go_wp2_with fail
  refine (unc42_any bareF none 0 0 0 _ (fun h => absurd h (Nat.lt_irrefl _)) (fun j hj => absurd hj (Nat.not_lt_zero _)) (fun j hj => absurd hj (Nat.not_lt_zero _)) (Nat.le_refl _) (by decide)).mono ?_
  rw [bare_check]
  rintro e w4 ⟨rfl, b4⟩
  have HV4 := Lib.hid (HV3.out.below b4)
  have HB4 := Lib.hid (HB3.out.trans (b4.mono HB3.out.size))
  clear b4 HV3 HB3
  go_wp2_with fail
  have b8 := (Below.refl w4.heap.size w4).alloc (Nat.le_refl _) (.cells #[.int .i64 0, .int .i64 1, .int .i64 2] 3)
  refine (intsV_any [0, 1, 2] [0, 1, 2] v (.slice (some ⟨w4.heap.size, 0, none⟩) 3 3) _ (HV4.out.below b8) ⟨_, _, _, rfl, fun _ => ⟨rfl, by simp [go_sem]⟩, fun j hj => ?_, by decide, by decide⟩).mono ?_
  · have hj' : j < 3 := hj
    rcases j with _ | _ | _ | j
    all_goals first | omega | (simp [go_sem]; rfl)
  rintro e w5 ⟨rfl, c5⟩
  have HB5 := Lib.hid (HB4.out.trans ((b8.trans (c5.mono (by simp [go_sem]))).mono HB4.out.size))
  clear b8 c5 HB4 HV4
  go_wp2_with fail
  go_ret
  exact ⟨rfl, HB5.out⟩
end Go.Proofs.Ytlfeoofchebbkaa
