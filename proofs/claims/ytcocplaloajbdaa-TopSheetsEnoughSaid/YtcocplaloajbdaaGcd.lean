/- The greatest common divisor, sizes, Mod and Floor. -/
import Derived.Test.YtcocplaloajbdaaBas
import Derived.Deep.RegionHeld3
namespace Go.Proofs.Ytcocplaloajbdaa
set_option linter.unusedSimpArgs false
set_option linter.unusedVariables false
open Go.RowKit
theorem gcd_step (x y : Int) : Int.gcd y (x.tmod y) = Int.gcd x y := by
  unfold Int.gcd
  rw [Int.natAbs_tmod, Nat.gcd_comm, ← Nat.gcd_rec, Nat.gcd_comm]
theorem tmod_small {x y : Int} (hy : y ≠ 0) : (x.tmod y).natAbs < y.natAbs := by
  rw [Int.natAbs_tmod]; exact Nat.mod_lt _ (by omega)
theorem size_any (n : Int) (w : World) (h : -9223372036854775807 ≤ n) (h' : n ≤ 9223372036854775807) : Calls Try.prog 28 #[.int .i64 n] w fun e w' => e = .returned (.int .i64 (n.natAbs : Int)) ∧ w = w' := by
  go_enter Try.func28, Try.ntmps28
  go_wp2_with fail
  all_goals go_ret
  all_goals exact ⟨ret_int (by omega), rfl⟩
set_option maxHeartbeats 1000000 in
theorem gcd_any (a b : Int) (w : World) (ha : -9223372036854775808 ≤ a) (ha' : a ≤ 9223372036854775807) (hb : 1 ≤ b) (hb' : b ≤ 9223372036854775807) : Calls Try.prog 26 #[.int .i64 a, .int .i64 b] w fun e w' => e = .returned (.int .i64 (Int.gcd a b : Int)) ∧ Below w.heap.size w w' := by
  generalize hG : Int.gcd a b = G
  go_enter Try.func26, Try.ntmps26
  go_wp2_with fail
  go_loopg [0, 1] b.natAbs (fun gg s0 s1 wr => ∃ x y : Int, s0 = .int .i64 x ∧ s1 = .int .i64 y ∧ y.natAbs ≤ gg ∧ Hid (Int.gcd x y = G) ∧ -9223372036854775808 ≤ x ∧ x ≤ 9223372036854775807 ∧ -9223372036854775807 ≤ y ∧ y ≤ 9223372036854775807 ∧ (y = 0 → -9223372036854775807 ≤ x) ∧ Hid (Below w.heap.size w wr))
  case atStart => exact ⟨a, b, rfl, rfl, Nat.le_refl _, Lib.hid hG, ha, ha', by omega, hb', by omega, Below.refl _ _⟩
  case round =>
    obtain ⟨x, y, rfl, rfl, hg, HG, hx, hx', hy, hy', hx0, BW⟩ := hrel
    by_cases hz : y = 0
    · have hyb : (y != 0) = false := bne_f hz
      have hx1 := hx0 hz
      have HF : Hid ((x.natAbs : Int) = (G : Int)) := by
        show _ = _
        rw [← HG.out, hz, Int.gcd_zero_right]
      clear hx0 hz
      go_wp2_with fail
      refine (size_any _ _ hx1 hx').mono ?_
      rintro e w' ⟨rfl, rfl⟩
      rw [HF.out]
      go_wp2_with fail
      go_ret
      exact ⟨rfl, BW.out⟩
    · have hyb : (y != 0) = true := bne_t hz
      have hsm := tmod_small (x := x) hz
      have HS : Hid (Int.gcd y (x.tmod y) = G) := by show _ = _; rw [gcd_step]; exact HG.out
      have hy0 : ¬ y = 0 := hz
      clear hx0 HG
      go_wp2_with fail
      go_quiet (fail)
      have BWN := Lib.hid (below_drewN BW.out nq)
      go_wp2_with fail
      go_roundg (x.tmod y).natAbs
      case measure => omega
      case rel => exact ⟨y, x.tmod y, rfl, rfl, Nat.le_refl _, HS, by omega, by omega, by omega, by omega, fun _ => by omega, BWN.out⟩
set_option maxHeartbeats 1000000 in
theorem divisor_any (a b : Int) (w : World) (ha : -9223372036854775808 ≤ a) (ha' : a ≤ 9223372036854775807) (hb : 1 ≤ b) (hb' : b ≤ 9223372036854775807) : Calls Try.prog 15 #[.int .i64 a, .int .i64 b] w fun e w' => e = .returned (.int .i64 (Int.gcd a b : Int)) ∧ Below w.heap.size w w' := by
  generalize hG : Int.gcd a b = G
  go_enter Try.func15, Try.ntmps15
  go_wp2_with fail
  go_loopg [0, 1] b.natAbs (fun gg s0 s1 wr => ∃ x y : Int, s0 = .int .i64 x ∧ s1 = .int .i64 y ∧ y.natAbs ≤ gg ∧ Hid (Int.gcd x y = G) ∧ -9223372036854775808 ≤ x ∧ x ≤ 9223372036854775807 ∧ -9223372036854775807 ≤ y ∧ y ≤ 9223372036854775807 ∧ (y = 0 → -9223372036854775807 ≤ x) ∧ Hid (Below w.heap.size w wr))
  case atStart => exact ⟨a, b, rfl, rfl, Nat.le_refl _, Lib.hid hG, ha, ha', by omega, hb', by omega, Below.refl _ _⟩
  case round =>
    obtain ⟨x, y, rfl, rfl, hg, HG, hx, hx', hy, hy', hx0, BW⟩ := hrel
    by_cases hz : y = 0
    · have hyb : (y != 0) = false := bne_f hz
      have hx1 := hx0 hz
      have HF : Hid ((x.natAbs : Int) = (G : Int)) := by
        show _ = _
        rw [← HG.out, hz, Int.gcd_zero_right]
      clear hx0 hz
      have HN : Hid (∀ z : Int, z = x ∨ z = -x → 0 ≤ z → z = (G : Int)) := (show ∀ z : Int, _ from fun z h1 h2 => by have := HF.out; omega)
      go_wp2_with fail
      all_goals go_ret
      all_goals exact ⟨ret_int (HN.out _ (by omega) (by omega)), BW.out⟩
    · have hyb : (y != 0) = true := bne_t hz
      have hsm := tmod_small (x := x) hz
      have HS : Hid (Int.gcd y (x.tmod y) = G) := by show _ = _; rw [gcd_step]; exact HG.out
      have hy0 : ¬ y = 0 := hz
      clear hx0 HG
      go_wp2_with fail
      go_quiet (fail)
      have BWN := Lib.hid (below_drewN BW.out nq)
      go_wp2_with fail
      go_roundg (x.tmod y).natAbs
      case measure => omega
      case rel => exact ⟨y, x.tmod y, rfl, rfl, Nat.le_refl _, HS, by omega, by omega, by omega, by omega, fun _ => by omega, BWN.out⟩
theorem mod_any (n b : Nat) (w : World) (hn : n ≤ 100000000) (hb : 1 ≤ b) (hb' : b ≤ 100000000) : Calls Try.prog 16 #[.int .i64 (n : Int), .int .i64 (b : Int)] w fun e w' => e = .returned (.int .i64 ((n % b : Nat) : Int)) ∧ w = w' := by
  have hb0 : ¬ (b : Int) = 0 := by omega
  have h0 : ¬ (n : Int) % (b : Int) < 0 := by rw [← Int.natCast_emod]; omega
  go_enter Try.func16, Try.ntmps16
  go_wp2_with fail
  go_ret
  exact ⟨ret_int rfl, rfl⟩
theorem floor_any (n b : Nat) (w : World) (hn : n ≤ 100000000) (hb : 1 ≤ b) (hb' : b ≤ 100000000) : Calls Try.prog 17 #[.int .i64 (n : Int), .int .i64 (b : Int)] w fun e w' => e = .returned (.int .i64 ((n / b : Nat) : Int)) ∧ w = w' := by
  have hb0 : ¬ (b : Int) = 0 := by omega
  have h0 : ¬ (n : Int) % (b : Int) < 0 := by rw [← Int.natCast_emod]; omega
  go_enter Try.func17, Try.ntmps17
  go_wp2_with fail
  go_ret
  exact ⟨ret_int (IntWalk.wrap64_in _ ⟨by have := Int.ediv_nonneg (by omega : (0 : Int) ≤ (n : Int)) (by omega : (0 : Int) ≤ (b : Int)); omega, by have := Int.ediv_le_self (b : Int) (by omega : (0 : Int) ≤ (n : Int)); omega⟩), rfl⟩
def lowB (a b : Int) : Bool := decide (0 < b ∧ Int.gcd a b = 1)
theorem isLowest_any (a b : Int) (w : World) (ha : -9223372036854775808 ≤ a) (ha' : a ≤ 9223372036854775807) (hb' : b ≤ 9223372036854775807) : Calls Try.prog 21 #[.agg #[.int .i64 a, .int .i64 b]] w fun e w' => e = .returned (.bool (lowB a b)) ∧ Below w.heap.size w w' := by
  by_cases hb : 0 < b
  · have HL : Hid (lowB a b = ((Int.gcd a b : Int) == 1)) := by
      show _ = _
      unfold lowB
      rw [Bool.eq_iff_iff, decide_eq_true_iff, beq_iff_eq]
      omega
    have hg := fun w => gcd_any a b w ha ha' (by omega) hb'
    generalize Int.gcd a b = g at *
    go_enter Try.func21, Try.ntmps21
    go_wp2_with fail
    refine (hg _).mono ?_
    rintro e w' ⟨rfl, b1⟩
    have HB := Lib.hid ((below_new w (Obj.cells #[Value.int IntKind.i64 a, Value.int IntKind.i64 b] 23)).trans (b1.mono (by simp)))
    clear hg b1
    go_wp2_with fail
    go_ret
    exact ⟨ret_bool (by rw [HL.out]), HB.out⟩
  · have HL : Hid (lowB a b = false) := decide_eq_false fun h => hb h.1
    go_enter Try.func21, Try.ntmps21
    go_wp2_with fail
    go_ret
    exact ⟨ret_bool (by rw [HL.out]), below_new _ _⟩
end Go.Proofs.Ytcocplaloajbdaa
