/- along: the comparison. -/
import Derived.Test.YtlfeoofchebbkaaAlo
import Derived.Shelf.SlSortCmp.QuietGrown
import Derived.BigQuiet
import Derived.Deep.DeepCutAuto
namespace Go.Proofs.Ytlfeoofchebbkaa
set_option linter.unusedSimpArgs false
set_option linter.unusedVariables false
open Go.RowKit Go.Sort
def cmpI (a b : Int) : Int := if a < b then -1 else if b < a then 1 else 0
theorem nan_any (a : Int) (w : World) : Calls Try.prog 150 #[.int .i64 a] w fun e w' => e = .returned (.bool false) ∧ w = w' := by
  go_enter Try.func150, Try.ntmps150
  go_wp2_with fail
  go_ret
  exact ⟨by simp, rfl⟩
theorem cmp_any (a b : Int) (w : World) : Calls Try.prog 143 #[.int .i64 a, .int .i64 b] w fun e w' => e = .returned (.int .i64 (cmpI a b)) ∧ w = w' := by
  have HC : Hid (cmpI a b = if a < b then -1 else if b < a then 1 else 0) := rfl
  go_enter Try.func143, Try.ntmps143
  go_wp2_with fail
  refine (nan_any a w).mono ?_
  rintro e w1 ⟨rfl, rfl⟩
  go_wp2_with fail
  refine (nan_any b w).mono ?_
  rintro e w1 ⟨rfl, rfl⟩
  by_cases h1 : a < b
  · go_wp2_with fail
    go_ret
    exact ⟨by rw [HC.out, if_pos h1]; rfl, rfl⟩
  · by_cases h2 : b < a
    · go_wp2_with fail
      go_ret
      exact ⟨by rw [HC.out, if_neg (Int.not_lt.2 h1), if_pos h2]; rfl, rfl⟩
    · go_wp2_with fail
      go_ret
      exact ⟨by rw [HC.out, if_neg (Int.not_lt.2 h1), if_neg (Int.not_lt.2 h2)]; rfl, rfl⟩
theorem row_grown (W : World) (q : Piece) (n : Nat) (os : Array Obj) : Calls Try.prog 121 #[.agg (pcs q)] (grow (W.drewN n) os) fun e w'' => e = .returned (.int .i64 q.x) ∧ ∃ p : GrownBy, w'' = grow (W.drewN p.n) p.os :=
  Calls.grown_of ((row_ord q _).mono fun _ _ ⟨he, hw⟩ => ⟨he, 0, #[Obj.cells (pcs q) 70], by rw [hw]; rfl⟩)
set_option maxRecDepth 100000 in
theorem row_cmp (ps : List Piece) (Wd Ht : Int) (bo bf b off c : Nat) (i k : Nat) (W : World) (ho : W.cell? ⟨bo, 0, none⟩ = some (.func (.func 121) #[] #[])) (hf : W.cell? ⟨bf, 2, none⟩ = some (.slice (some ⟨b, off, none⟩) ps.length c)) (hb : b < W.heap.size) (hps : PsAt W b off ps) (hi : i < ps.length) (hk : k < ps.length) :
    Calls Try.prog 142 (#[.int .i64 i, .int .i64 k] ++ #[.pointer (some ⟨bo, 0, none⟩), .pointer (some ⟨bf, 0, none⟩)]) W fun e w' => e = .returned (.int .i64 (cmpI (gp ps i).x (gp ps k).x)) ∧ ∃ q os', w' = grow (W.drewN q) os' := by
  have hbo := block_lt_of_cell ho
  have hbf := block_lt_of_cell hf
  obtain ⟨p0, p1, p2, p3, p4, p5⟩ := hps i hi
  obtain ⟨r0, r1, r2, r3, r4, r5⟩ := hps k hk
  have hiz : (i : Int) < (ps.length : Int) := by omega
  have hkz : (k : Int) < (ps.length : Int) := by omega
  have hi0 : (0 : Int) ≤ (i : Int) := by omega
  have hk0 : (0 : Int) ≤ (k : Int) := by omega
  have xo := cell_grown hbo ho
  have xf := cell_grown hbf hf
  have y0 := cell_grown hb p0
  have y1 := cell_grown hb p1
  have y2 := cell_grown hb p2
  have y3 := cell_grown hb p3
  have y4 := cell_grown hb p4
  have y5 := cell_grown hb p5
  have z0 := cell_grown hb r0
  have z1 := cell_grown hb r1
  have z2 := cell_grown hb r2
  have z3 := cell_grown hb r3
  have z4 := cell_grown hb r4
  have z5 := cell_grown hb r5
  have cO := row_grown W
  have cC : ∀ a b n os, Calls Try.prog 143 #[.int .i64 a, .int .i64 b] (grow (W.drewN n) os) fun e w'' => e = .returned (.int .i64 (cmpI a b)) ∧ ∃ p : GrownBy, w'' = grow (W.drewN p.n) p.os := fun a b n os => (cmp_any a b _).mono fun _ _ ⟨he, hw⟩ => ⟨he, ⟨n, os⟩, hw.symm⟩
  generalize gp ps i = p at *
  generalize gp ps k = r at *
  go_enter Try.func142, Try.ntmps142
  go_upto_region 1 with (fail)
  refine wp_region_quiet_grown (by kernel_rfl) (by kernel_rfl) ?_
  repeat (first | quiet_step ((go_at_call 121; exact cO _ _ _)) | quiet_step ((go_at_call 143; exact cC _ _ _ _)))
  refine wpQuiet_nil ?_
  intro _ hw'
  obtain ⟨⟨nq, osq⟩, hw''⟩ := hw'
  subst hw''
  go_wp2_with fail
  go_ret
  exact ⟨rfl, nq, osq, rfl⟩
theorem col_grown (W : World) (q : Piece) (n : Nat) (os : Array Obj) : Calls Try.prog 123 #[.agg (pcs q)] (grow (W.drewN n) os) fun e w'' => e = .returned (.int .i64 q.y) ∧ ∃ p : GrownBy, w'' = grow (W.drewN p.n) p.os :=
  Calls.grown_of ((col_ord q _).mono fun _ _ ⟨he, hw⟩ => ⟨he, 0, #[Obj.cells (pcs q) 70], by rw [hw]; rfl⟩)
set_option maxRecDepth 100000 in
theorem col_cmp (ps : List Piece) (Wd Ht : Int) (bo bf b off c : Nat) (i k : Nat) (W : World) (ho : W.cell? ⟨bo, 0, none⟩ = some (.func (.func 123) #[] #[])) (hf : W.cell? ⟨bf, 2, none⟩ = some (.slice (some ⟨b, off, none⟩) ps.length c)) (hb : b < W.heap.size) (hps : PsAt W b off ps) (hi : i < ps.length) (hk : k < ps.length) :
    Calls Try.prog 142 (#[.int .i64 i, .int .i64 k] ++ #[.pointer (some ⟨bo, 0, none⟩), .pointer (some ⟨bf, 0, none⟩)]) W fun e w' => e = .returned (.int .i64 (cmpI (gp ps i).y (gp ps k).y)) ∧ ∃ q os', w' = grow (W.drewN q) os' := by
  have hbo := block_lt_of_cell ho
  have hbf := block_lt_of_cell hf
  obtain ⟨p0, p1, p2, p3, p4, p5⟩ := hps i hi
  obtain ⟨r0, r1, r2, r3, r4, r5⟩ := hps k hk
  have hiz : (i : Int) < (ps.length : Int) := by omega
  have hkz : (k : Int) < (ps.length : Int) := by omega
  have hi0 : (0 : Int) ≤ (i : Int) := by omega
  have hk0 : (0 : Int) ≤ (k : Int) := by omega
  have xo := cell_grown hbo ho
  have xf := cell_grown hbf hf
  have y0 := cell_grown hb p0
  have y1 := cell_grown hb p1
  have y2 := cell_grown hb p2
  have y3 := cell_grown hb p3
  have y4 := cell_grown hb p4
  have y5 := cell_grown hb p5
  have z0 := cell_grown hb r0
  have z1 := cell_grown hb r1
  have z2 := cell_grown hb r2
  have z3 := cell_grown hb r3
  have z4 := cell_grown hb r4
  have z5 := cell_grown hb r5
  have cO := col_grown W
  have cC : ∀ a b n os, Calls Try.prog 143 #[.int .i64 a, .int .i64 b] (grow (W.drewN n) os) fun e w'' => e = .returned (.int .i64 (cmpI a b)) ∧ ∃ p : GrownBy, w'' = grow (W.drewN p.n) p.os := fun a b n os => (cmp_any a b _).mono fun _ _ ⟨he, hw⟩ => ⟨he, ⟨n, os⟩, hw.symm⟩
  generalize gp ps i = p at *
  generalize gp ps k = r at *
  go_enter Try.func142, Try.ntmps142
  go_upto_region 1 with (fail)
  refine wp_region_quiet_grown (by kernel_rfl) (by kernel_rfl) ?_
  repeat (first | quiet_step ((go_at_call 123; exact cO _ _ _)) | quiet_step ((go_at_call 143; exact cC _ _ _ _)))
  refine wpQuiet_nil ?_
  intro _ hw'
  obtain ⟨⟨nq, osq⟩, hw''⟩ := hw'
  subst hw''
  go_wp2_with fail
  go_ret
  exact ⟨rfl, nq, osq, rfl⟩
end Go.Proofs.Ytlfeoofchebbkaa
