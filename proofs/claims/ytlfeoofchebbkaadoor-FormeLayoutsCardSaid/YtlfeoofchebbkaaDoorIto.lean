/- strconv.Itoa of small naturals. -/
import Derived.Test.YtlfeoofchebbkaaDoorDcm
namespace Go.Proofs.YtlfeoofchebbkaaDoor
set_option linter.unusedSimpArgs false
set_option linter.unusedVariables false
open Go.RowKit
theorem ext_all (C : ByteArray) (f g : Nat → Nat) (l k : Nat) (h : (List.range k).all (fun n => decide (n < l) || (C.extract (f n) (g n)).data.toList == (decB n).data.toList) = true) (n : Nat) (hl : ¬ n < l) (hn : n < k) : C.extract (f n) (g n) = decB n := by
  have := List.all_eq_true.1 h n (List.mem_range.2 hn)
  rw [decide_eq_false hl, Bool.false_or, beq_iff_eq] at this
  refine ByteArray.ext ?_
  exact Array.ext' this
theorem ret_str {a b : ByteArray} (h : a = b) : Ending.returned (.string a) = Ending.returned (.string b) := by rw [h]
set_option maxRecDepth 100000 in
theorem smallI_any (n : Nat) (w : World) (hn : n < 100) : Calls Tryd.prog 69 #[.int .i64 (n : Int)] w fun e w' => e = .returned (.string (decB n)) ∧ w = w' := by
  by_cases h10 : n < 10
  · have hz : (n : Int) < 10 := by omega
    have h0 : (0 : Int) ≤ (n : Int) := by omega
    go_enter Tryd.func69, Tryd.ntmps69
    go_wp2_with fail
    go_ret
    refine ⟨ret_str (ext_all _ (fun n => n) (fun n => n + 1) 0 10 ?_ n (Nat.not_lt_zero _) h10), rfl⟩
    kernel_rfl
  · have hz : ¬ (n : Int) < 10 := by omega
    have h0 : (0 : Int) ≤ (n : Int) := by omega
    go_enter Tryd.func69, Tryd.ntmps69
    go_wp2_with fail
    go_ret
    refine ⟨ret_str (ext_all _ (fun n => n * 2) (fun n => n * 2 + 2) 10 100 ?_ n h10 hn), rfl⟩
    kernel_rfl
theorem formatInt_any (n : Nat) (w : World) (hn : n < 100) : Calls Tryd.prog 67 #[.int .i64 (n : Int), .int .i64 10] w fun e w' => e = .returned (.string (decB n)) ∧ w = w' := by
  have hz : (n : Int) < 100 := by omega
  have h0 : (0 : Int) ≤ (n : Int) := by omega
  go_enter Tryd.func67, Tryd.ntmps67
  go_wp2_with fail
  refine (smallI_any n w hn).mono ?_
  rintro e w' ⟨rfl, rfl⟩
  go_wp2_with fail
  go_ret
  exact ⟨rfl, rfl⟩
theorem itoa58_any (n : Nat) (w : World) (hn : n < 100) : Calls Tryd.prog 58 #[.int .i64 (n : Int)] w fun e w' => e = .returned (.string (decB n)) ∧ w = w' := by
  go_enter Tryd.func58, Tryd.ntmps58
  go_wp2_with fail
  refine (formatInt_any n w hn).mono ?_
  rintro e w' ⟨rfl, rfl⟩
  go_wp2_with fail
  go_ret
  exact ⟨rfl, rfl⟩
theorem itoa_any (n : Nat) (w : World) (hn : n < 100) : Calls Tryd.prog 46 #[.int .i64 (n : Int)] w fun e w' => e = .returned (.string (decB n)) ∧ w = w' := by
  go_enter Tryd.func46, Tryd.ntmps46
  go_wp2_with fail
  refine (itoa58_any n w hn).mono ?_
  rintro e w' ⟨rfl, rfl⟩
  go_wp2_with fail
  go_ret
  exact ⟨rfl, rfl⟩
end Go.Proofs.YtlfeoofchebbkaaDoor
