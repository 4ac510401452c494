/- ref.CheckForme, ref.Uncovered, IsFull, CheckAlone, Light, few. -/
import Derived.Test.YtlfeoofchebbkaaRfm
import Derived.Test.YtlfeoofchebbkaaShp
import Derived.Deep.QuietTactic
import Derived.BigQuiet
namespace Go.Proofs.Ytlfeoofchebbkaa
set_option linter.unusedSimpArgs false
set_option linter.unusedVariables false
open Go.RowKit
theorem refForme_any (f : Forme) (A : Option Addr) (b off c : Nat) (w : World) (hA : Lies A f.ps.length w.heap.size b off) (hps : PsAt w b off f.ps) (hnm : NameOk f.ps) (hc : f.ps.length ≤ c) (hm : f.ps.length ≤ 9223372036854775807) :
    Calls Try.prog 43 #[.agg #[.int .i64 f.W, .int .i64 f.H, .slice A f.ps.length c]] w fun e w' => e = .returned (.tuple #[.int .i64 (checkF f).1, .int .i64 (checkF f).2]) ∧ Below w.heap.size w w' := by
  by_cases hW : win f.W 1 4000 = true
  · by_cases hH : win f.H 1 4000 = true
    · by_cases hl : 60 < f.ps.length
      · have e1 : checkF f = (0, 8) := by unfold checkF; rw [if_neg (by simp [hW, hH]), if_pos hl]
        rw [e1]
        generalize f.ps.length = n at *
        have hlz : (60 : Int) < (n : Int) := by omega
        clear e1 hps hnm hA
        go_enter Try.func43, Try.ntmps43
        go_wp2_with (go_at_call 49; refine (withinB_any _ _ _ _).mono ?_; rintro e w' ⟨rfl, rfl⟩)
        go_ret2
        exact ⟨rfl, below_new _ _⟩
      · have e1 : checkF f = fstE (pErr f) f.ps.length := by
          unfold checkF; rw [if_neg (by simp [hW, hH]), if_neg (by omega)]
        rw [e1]
        exact refForme_main f _ A b off c w hA hps hnm rfl (by omega) hW hH
    · have e1 : checkF f = (0, 2) := by unfold checkF; rw [if_pos (by simp [hW, hH])]
      rw [e1]
      have hH' : win f.H 1 4000 = false := by simpa using hH
      clear e1 hps hnm hA hH
      go_enter Try.func43, Try.ntmps43
      go_wp2_with (go_at_call 49; refine (withinB_any _ _ _ _).mono ?_; rintro e w' ⟨rfl, rfl⟩)
      go_ret2
      exact ⟨rfl, below_new _ _⟩
  · have e1 : checkF f = (0, 2) := by unfold checkF; rw [if_pos (by simp [hW])]
    rw [e1]
    have hW' : win f.W 1 4000 = false := by simpa using hW
    clear e1 hps hnm hA hW
    go_enter Try.func43, Try.ntmps43
    go_wp2_with (go_at_call 49; refine (withinB_any _ _ _ _).mono ?_; rintro e w' ⟨rfl, rfl⟩)
    go_ret2
    exact ⟨rfl, below_new _ _⟩
theorem below_drewN {B : Nat} {w w' : World} (h : Below B w w') (k : Nat) : Below B w (w'.drewN k) := by
  obtain ⟨os, tape, output, size, block⟩ := h
  exact ⟨os, tape, output, size, block⟩
set_option maxHeartbeats 1000000 in
theorem refUnc_any (f : Forme) (A : Option Addr) (b off c : Nat) (w : World) (hA : Lies A f.ps.length w.heap.size b off) (hps : PsAt w b off f.ps) (hf : f.Laid) (hm : f.ps.length ≤ 1000000) :
    Calls Try.prog 45 #[.agg #[.int .i64 f.W, .int .i64 f.H, .slice A f.ps.length c]] w fun e w' => e = .returned (.int .i64 (f.W * f.H - areas f.ps)) ∧ Below w.heap.size w w' := by
  have hb0 := area_bound hf.w1 hf.w2 hf.h1 hf.h2
  have hpre : ∀ k, 0 ≤ areas (f.ps.take k) ∧ areas (f.ps.take k) ≤ f.W * f.H := fun k => ⟨areas_nonneg (hf.take k).inn, (hf.take k).areas_le⟩
  have hst := fun k (h : k < f.ps.length) => areas_take h
  have hsm : ∀ k, k < f.ps.length → 1 ≤ (gp f.ps k).w ∧ 1 ≤ (gp f.ps k).h := fun k h => by
    have e : gp f.ps k = f.ps[k] := by unfold gp; simp [List.getD_eq_getElem?_getD, h]
    obtain ⟨h1, h2, _⟩ := hf.inn _ (List.getElem_mem h)
    rw [e]; exact ⟨h1, h2⟩
  have hall : f.ps.take f.ps.length = f.ps := List.take_length
  generalize hn : f.ps.length = n at *
  have HN := Lib.hid hn
  have HALL := Lib.hid hall
  clear hn hall
  generalize hM : f.W * f.H = M at *
  have HM := Lib.hid hM
  clear hM
  have hmul : IntKind.i64.wrap (f.W * f.H) = M := by rw [HM.out, IntKind.wrap_i64]; omega
  go_enter Try.func45, Try.ntmps45
  go_wp2_with fail
  have hB := Lib.hid (below_new w (Obj.cells #[Value.int IntKind.i64 f.W, Value.int IntKind.i64 f.H, Value.slice A n c] 37))
  have hF := Lib.hid (FAt_new w 37 f (Value.slice A n c))
  have hz : w.heap.size < (w.alloc (Obj.cells #[Value.int IntKind.i64 f.W, Value.int IntKind.i64 f.H, Value.slice A n c] 37)).heap.size := by simp
  generalize w.alloc (Obj.cells #[Value.int IntKind.i64 f.W, Value.int IntKind.i64 f.H, Value.slice A n c] 37) = W0 at *
  clear hmul
  go_loopg [3, 4] n (fun gg s3 s14 wr => ∃ k : Nat, k ≤ n ∧ n - k ≤ gg ∧ s14 = .int .i64 k ∧ s3 = .int .i64 (M - areas (f.ps.take k)) ∧ Hid (Below W0.heap.size W0 wr))
  case atStart => exact ⟨0, Nat.zero_le _, by omega, rfl, by simp [areas], Below.refl _ _⟩
  case round =>
    obtain ⟨k, hk, hg, rfl, rfl, BW⟩ := hrel
    obtain ⟨a0, a1, a2⟩ := hF.out.below BW.out hz
    by_cases hlt : k < n
    · have hltz : (k : Int) < (n : Int) := by omega
      have hk0 : (0 : Int) ≤ (k : Int) := by omega
      obtain ⟨rfl, hb⟩ := hA (by omega)
      obtain ⟨c0, c1, c2, c3, c4, c5⟩ := (hps k (by have := HN.out; omega)).below (hB.out.trans (BW.out.mono hB.out.size)) hb
      have h1 := hst k hlt
      have h2 := hpre k
      have h3 := hpre (k + 1)
      have h4 := hsm k hlt
      clear hst hpre hsm hps hA
      generalize gp f.ps k = y at *
      have h5 := Int.mul_nonneg (show 0 ≤ y.w by omega) (show 0 ≤ y.h by omega)
      generalize hm2 : y.w * y.h = m2 at *
      generalize areas (f.ps.take k) = a at *
      have H1 := Lib.hid h1
      rw [h1] at h3
      clear h1
      have HM2 := Lib.hid hm2
      clear hm2
      have hmul : IntKind.i64.wrap (y.w * y.h) = m2 := by rw [HM2.out, IntKind.wrap_i64]; omega
      have hsub : IntKind.i64.wrap (M - a - m2) = M - a - m2 := IntWalk.i64_in _ (by omega)
      obtain ⟨h21, h22⟩ := h2
      obtain ⟨h31, h32⟩ := h3
      obtain ⟨h41, h42⟩ := h4
      go_wp2_with fail
      go_quiet (fail)
      go_wp2_with fail
      clear hmul hsub
      go_roundg (n - (k + 1))
      case measure => omega
      case rel =>
        refine ⟨k + 1, by omega, by omega, by go_num, ?_, below_drewN BW.out _⟩
        rw [H1.out]; congr 1; omega
    · have hltz : ¬ (k : Int) < (n : Int) := by omega
      have he : k = n := by omega
      subst he
      go_wp2
      go_ret
      exact ⟨ret_int (by rw [HALL.out]), hB.out.trans (BW.out.mono hB.out.size)⟩
theorem isFull_any (f : Forme) (A : Option Addr) (b off c : Nat) (w : World) (hA : Lies A f.ps.length w.heap.size b off) (hps : PsAt w b off f.ps) (hf : f.Laid) (_hc : f.ps.length ≤ c) (hm : f.ps.length ≤ 1000000) :
    Calls Try.prog 75 #[.agg #[.int .i64 f.W, .int .i64 f.H, .slice A f.ps.length c]] w fun e w' => e = .returned (.bool (f.W * f.H - areas f.ps == 0)) ∧ Below w.heap.size w w' := by
  have hcall := fun W (hb : Below w.heap.size w W) => refUnc_any f A b off c W (hA.mono hb.size) (fun j hj => (hps j hj).below hb ((hA (by omega)).2)) hf hm
  generalize f.ps.length = n at *
  generalize f.W * f.H - areas f.ps = u at *
  clear hps hA
  go_enter Try.func75, Try.ntmps75
  go_wp2_with fail
  refine (hcall _ (below_new _ _)).mono ?_
  rintro e w1 ⟨rfl, b1⟩
  go_wp2_with fail
  go_ret
  exact ⟨rfl, (below_new _ _).trans (b1.mono (by simp))⟩
end Go.Proofs.Ytlfeoofchebbkaa
