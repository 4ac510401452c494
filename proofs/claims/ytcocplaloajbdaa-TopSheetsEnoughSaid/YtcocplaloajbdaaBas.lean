/- The small functions: numbers, names, powers, the greatest common divisor. -/
import Derived.Test.YtcocplaloajbdaaProg
import Derived.Test.YtcocplaloajbdaaPl
import Derived.WalkKit
import Derived.WalkSpells
import Derived.WalkLawsBesides
import Derived.Deep.LoopGhost
import Derived.Deep.QuietTactic
import Derived.BigQuiet
import Derived.IntWalk
import Derived.Lib.Hide
import Derived.Lib.ConvBytes
namespace Go.Proofs.Ytcocplaloajbdaa
set_option linter.unusedSimpArgs false
set_option linter.unusedVariables false
open Go.RowKit
theorem ret_bool {a b : Bool} (h : a = b) : Ending.returned (.bool a) = .returned (.bool b) := by rw [h]
theorem ret_int {a b : Int} (h : a = b) : Ending.returned (.int .i64 a) = .returned (.int .i64 b) := by rw [h]
def win (n lo hi : Int) : Bool := decide (lo ≤ n ∧ n ≤ hi)
theorem win_t {n lo hi : Int} : win n lo hi = true ↔ lo ≤ n ∧ n ≤ hi := by unfold win; exact decide_eq_true_iff
theorem win_f {n lo hi : Int} : win n lo hi = false ↔ ¬ (lo ≤ n ∧ n ≤ hi) := by unfold win; exact decide_eq_false_iff_not
theorem bne_t {a b : Int} (h : a ≠ b) : (a != b) = true := by rw [bne_iff_ne]; exact h
theorem bne_f {a b : Int} (h : a = b) : (a != b) = false := by rw [h]; simp
theorem below_new (w : World) (o : Obj) : Below w.heap.size w (w.alloc o) := (Below.refl _ _).alloc (Nat.le_refl _) _
theorem below_drewN {B : Nat} {w w' : World} (h : Below B w w') (k : Nat) : Below B w (w'.drewN k) := ⟨h.os, h.tape, h.output, h.size, h.block⟩
theorem within12_any (n lo hi : Int) (w : World) : Calls Try.prog 12 #[.int .i64 n, .int .i64 lo, .int .i64 hi] w fun e w' => e = .returned (.bool (win n lo hi)) ∧ w = w' := by
  go_enter Try.func12, Try.ntmps12
  go_wp2
  all_goals go_ret
  all_goals exact ⟨ret_bool (by unfold win; first | exact decide_eq_decide.2 (by omega) | exact (decide_eq_false (by omega)).symm), rfl⟩
theorem within6_any (n lo hi : Int) (w : World) : Calls Try.prog 6 #[.int .i64 n, .int .i64 lo, .int .i64 hi] w fun e w' => e = .returned (.bool (win n lo hi)) ∧ w = w' := by
  go_enter Try.func6, Try.ntmps6
  go_wp2
  all_goals go_ret
  all_goals exact ⟨ret_bool (by unfold win; first | exact decide_eq_decide.2 (by omega) | exact (decide_eq_false (by omega)).symm), rfl⟩
theorem isMinutes_any (n : Int) (w : World) : Calls Try.prog 25 #[.int .i64 n] w fun e w' => e = .returned (.bool (win n 0 10000)) ∧ w = w' := by
  go_enter Try.func25, Try.ntmps25
  go_wp2_with (go_at_call 12; refine (within12_any _ _ _ _).mono ?_; rintro e w' ⟨rfl, rfl⟩)
  go_ret
  exact ⟨rfl, rfl⟩
theorem pow_le {x k : Nat} (hx : x ≤ 10) (hk : k ≤ 7) : x ^ k ≤ 10000000 :=
  Nat.le_trans (Nat.pow_le_pow_left hx k) (Nat.le_trans (Nat.pow_le_pow_right (by omega) hk) (by decide))
set_option maxHeartbeats 1000000 in
theorem power_any (x k : Nat) (w : World) (hx : x ≤ 10) (hk : k ≤ 7) : Calls Try.prog 22 #[.int .i64 (x : Int), .int .i64 (k : Int)] w fun e w' => e = .returned (.int .i64 ((x ^ k : Nat) : Int)) ∧ w = w' := by
  go_enter Try.func22, Try.ntmps22
  go_wp2_with fail
  go_loopg [5, 7] k (fun gg s5 s7 wr => ∃ j : Nat, j ≤ k ∧ k - j ≤ gg ∧ s7 = .int .i64 j ∧ s5 = .int .i64 ((x ^ j : Nat) : Int) ∧ w = wr)
  case atStart => exact ⟨0, Nat.zero_le _, by omega, rfl, by rw [Nat.pow_zero]; rfl, rfl⟩
  case round =>
    obtain ⟨j, hj, hg, rfl, rfl, rfl⟩ := hrel
    by_cases hlt : j < k
    · have hltz : (j : Int) < (k : Int) := by omega
      have h1 := pow_le hx (by omega : j ≤ 7)
      have h2 : x ^ j * x ≤ 10000000 * 10 := Nat.mul_le_mul h1 hx
      have HS : Hid (x ^ (j + 1) = x ^ j * x) := Lib.hid (Nat.pow_succ x j)
      generalize x ^ j = y at *
      have e1 : IntKind.i64.wrap ((y : Int) * (x : Int)) = ((y * x : Nat) : Int) := by rw [← Int.natCast_mul]; exact IntWalk.i64_in _ (by omega)
      clear h2
      generalize y * x = z at *
      go_wp2_with fail
      go_roundg (k - (j + 1))
      case measure => omega
      case rel => exact ⟨j + 1, by omega, by omega, by go_num, by rw [HS.out], rfl⟩
    · have hltz : ¬ (j : Int) < (k : Int) := by omega
      have he : j = k := by omega
      subst he
      go_wp2_with fail
      go_ret
      exact ⟨rfl, rfl⟩
end Go.Proofs.Ytcocplaloajbdaa
