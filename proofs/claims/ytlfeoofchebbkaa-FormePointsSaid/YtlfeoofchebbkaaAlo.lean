/- RowAt, ColumnAt: the functions that they hand to along. -/
import Derived.Test.YtlfeoofchebbkaaRwp
namespace Go.Proofs.Ytlfeoofchebbkaa
set_option linter.unusedSimpArgs false
set_option linter.unusedVariables false
open Go.RowKit
theorem enters119 : ∀ (args : Array Value) (w : World), (callFunc 119 args).run Try.prog w = .ok (.enter 119 args) w := enters_of' Try.func119 (by kernel_rfl) rfl
theorem enters121 : ∀ (args : Array Value) (w : World), (callFunc 121 args).run Try.prog w = .ok (.enter 121 args) w := enters_of' Try.func121 (by kernel_rfl) rfl
theorem enters122 : ∀ (args : Array Value) (w : World), (callFunc 122 args).run Try.prog w = .ok (.enter 122 args) w := enters_of' Try.func122 (by kernel_rfl) rfl
theorem enters123 : ∀ (args : Array Value) (w : World), (callFunc 123 args).run Try.prog w = .ok (.enter 123 args) w := enters_of' Try.func123 (by kernel_rfl) rfl
theorem row_is (q : Piece) (y : Int) (b1 : Nat) (w : World) (hy : w.cell? ⟨b1, 0, none⟩ = some (.int .i64 y)) (hq : Sml q) :
    Calls Try.prog 119 (#[.agg (pcs q)] ++ #[.pointer (some ⟨b1, 0, none⟩)]) w fun e w' => e = .returned (.bool (isRow y q)) ∧ Below w.heap.size w w' := by
  have h1 := block_lt_of_cell hy
  have HQ := Lib.hid hq
  have HR : Hid (isRow y q = covB q q.x y) := rfl
  clear hq
  go_enter Try.func119, Try.ntmps119
  go_wp2_with fail
  refine (covers_any q q.x y _ HQ.out).mono ?_
  rintro e w' ⟨rfl, hb'⟩
  go_wp2_with fail
  go_ret
  exact ⟨by rw [HR.out]; rfl, ((Below.refl _ _).alloc (Nat.le_refl _) _).trans (hb'.mono (by simp))⟩
theorem col_is (q : Piece) (x : Int) (b1 : Nat) (w : World) (hy : w.cell? ⟨b1, 0, none⟩ = some (.int .i64 x)) (hq : Sml q) :
    Calls Try.prog 122 (#[.agg (pcs q)] ++ #[.pointer (some ⟨b1, 0, none⟩)]) w fun e w' => e = .returned (.bool (isCol x q)) ∧ Below w.heap.size w w' := by
  have h1 := block_lt_of_cell hy
  have HQ := Lib.hid hq
  have HR : Hid (isCol x q = covB q x q.y) := rfl
  clear hq
  go_enter Try.func122, Try.ntmps122
  go_wp2_with fail
  refine (covers_any q x q.y _ HQ.out).mono ?_
  rintro e w' ⟨rfl, hb'⟩
  go_wp2_with fail
  go_ret
  exact ⟨by rw [HR.out]; rfl, ((Below.refl _ _).alloc (Nat.le_refl _) _).trans (hb'.mono (by simp))⟩
theorem row_ord (q : Piece) (w : World) : Calls Try.prog 121 #[.agg (pcs q)] w fun e w' => e = .returned (.int .i64 q.x) ∧ w' = w.alloc (Obj.cells (pcs q) 70) := by
  go_enter Try.func121, Try.ntmps121
  go_wp2_with fail
  go_ret
  exact ⟨rfl, rfl⟩
theorem col_ord (q : Piece) (w : World) : Calls Try.prog 123 #[.agg (pcs q)] w fun e w' => e = .returned (.int .i64 q.y) ∧ w' = w.alloc (Obj.cells (pcs q) 70) := by
  go_enter Try.func123, Try.ntmps123
  go_wp2_with fail
  go_ret
  exact ⟨rfl, rfl⟩
end Go.Proofs.Ytlfeoofchebbkaa
