/- ChanceOf of right sheets; the reference's check of sheets; scaled. -/
import Derived.Test.YtcocplaloajbdaaGcd
namespace Go.Proofs.Ytcocplaloajbdaa
set_option linter.unusedSimpArgs false
set_option linter.unusedVariables false
open Go.RowKit
def chkC (a b : Int) : Int := if lowB a b = false then 3 else if win a 0 b = false ∨ 10 < b then 2 else 0
theorem refChance_any (a b : Int) (w : World) (ha : -9223372036854775808 ≤ a) (ha' : a ≤ 9223372036854775807) (hb' : b ≤ 9223372036854775807) : Calls Try.prog 11 #[.agg #[.int .i64 a, .int .i64 b], .int .i64 10] w fun e w' => e = .returned (.int .i64 (chkC a b)) ∧ Below w.heap.size w w' := by
  have HC : Hid (chkC a b = if lowB a b = false then 3 else if win a 0 b = false ∨ 10 < b then 2 else 0) := rfl
  go_enter Try.func11, Try.ntmps11
  go_wp2_with fail
  have HB0 := Lib.hid (below_new w (Obj.cells #[Value.int IntKind.i64 a, Value.int IntKind.i64 b] 23))
  have c0 : (w.alloc (Obj.cells #[Value.int IntKind.i64 a, Value.int IntKind.i64 b] 23)).cell? ⟨w.heap.size, 0, none⟩ = some (.int .i64 a) := by simp [go_sem]
  have c1 : (w.alloc (Obj.cells #[Value.int IntKind.i64 a, Value.int IntKind.i64 b] 23)).cell? ⟨w.heap.size, 1, none⟩ = some (.int .i64 b) := by simp [go_sem]
  have hz : w.heap.size < (w.alloc (Obj.cells #[Value.int IntKind.i64 a, Value.int IntKind.i64 b] 23)).heap.size := by simp
  generalize w.alloc (Obj.cells #[Value.int IntKind.i64 a, Value.int IntKind.i64 b] 23) = W at *
  refine (isLowest_any a b W ha ha' hb').mono ?_
  rintro e w1 ⟨rfl, b1⟩
  have d0 := (b1.cell (p := ⟨w.heap.size, 0, none⟩) hz).trans c0
  have d1 := (b1.cell (p := ⟨w.heap.size, 1, none⟩) hz).trans c1
  have HB1 := Lib.hid (HB0.out.trans (b1.mono HB0.out.size))
  clear b1 c0 c1 hz HB0
  cases hl : lowB a b with
  | false =>
    rw [hl] at HC
    have HR := Lib.hid (HC.out.trans (if_pos rfl))
    clear HC hl
    go_wp2_with fail
    go_ret
    exact ⟨ret_int HR.out.symm, HB1.out⟩
  | true =>
    rw [hl] at HC
    have HC2 := Lib.hid (HC.out.trans (if_neg (by decide)))
    clear HC hl
    go_wp2_with fail
    refine (within6_any _ _ _ _).mono ?_
    rintro e w2 ⟨rfl, rfl⟩
    cases hq : win a 0 b with
    | false =>
      rw [hq] at HC2
      have HR := Lib.hid (HC2.out.trans (if_pos (.inl rfl)))
      clear HC2 hq
      go_wp2_with fail
      go_ret
      exact ⟨ret_int HR.out.symm, HB1.out⟩
    | true =>
      rw [hq] at HC2
      clear hq
      by_cases hb : 10 < b
      · have HR := Lib.hid (HC2.out.trans (if_pos (.inr hb)))
        clear HC2
        go_wp2_with fail
        go_ret
        exact ⟨ret_int HR.out.symm, HB1.out⟩
      · have HR := Lib.hid (HC2.out.trans (if_neg (by rintro (h | h); exact absurd h (by decide); exact hb h)))
        have hb2 : ¬ 10 < b := hb
        clear HC2
        go_wp2_with fail
        go_ret
        exact ⟨ret_int HR.out.symm, HB1.out⟩
def chkS (n k a b : Int) : Int := if win n 0 17 = false ∨ win k 0 n = false then 2 else chkC a b
/-- Right sheets. -/
structure ShOk (n k a b : Int) (N K Q D P : Nat) : Prop where
  n : n = (N : Int)
  k : k = (K : Int)
  a : a = (Q : Int)
  b : b = (D : Int)
  hk : K ≤ N
  hn : N ≤ 17
  hq : Q ≤ D
  hd : D ≤ 10
  h1 : 1 ≤ D
  hp : D = P + Q
  g : Nat.gcd Q D = 1
theorem chkS_ok {n k a b : Int} (h : chkS n k a b = 0) : ShOk n k a b n.toNat k.toNat a.toNat b.toNat (b.toNat - a.toNat) := by
  unfold chkS at h
  by_cases h1 : win n 0 17 = false ∨ win k 0 n = false
  · rw [if_pos h1] at h; exact absurd h (by decide)
  · rw [if_neg h1] at h
    simp only [not_or, Bool.not_eq_false] at h1
    have a1 := win_t.1 h1.1
    have a2 := win_t.1 h1.2
    unfold chkC at h
    by_cases h2 : lowB a b = false
    · rw [if_pos h2] at h; exact absurd h (by decide)
    · rw [if_neg h2] at h
      by_cases h3 : win a 0 b = false ∨ 10 < b
      · rw [if_pos h3] at h; exact absurd h (by decide)
      · simp only [not_or, Bool.not_eq_false] at h3
        have a3 := win_t.1 h3.1
        have h4 : lowB a b = true := by simpa using h2
        unfold lowB at h4
        obtain ⟨h5, h6⟩ := of_decide_eq_true h4
        have h7 : Nat.gcd a.toNat b.toNat = 1 := by
          rw [← h6]; unfold Int.gcd
          rw [show a.natAbs = a.toNat by omega, show b.natAbs = b.toNat by omega]
        exact ⟨by omega, by omega, by omega, by omega, by omega, by omega, by omega, by omega, by omega, by omega, h7⟩
theorem box4 (w : World) (n k a b : Int) : ∃ W, w.alloc (Obj.cells #[Value.int IntKind.i64 n, Value.int IntKind.i64 k, Value.int IntKind.i64 a, Value.int IntKind.i64 b] 25) = W ∧ Below w.heap.size w W ∧ W.heap.size = w.heap.size + 1 ∧
    W.cell? ⟨w.heap.size, 0, none⟩ = some (.int .i64 n) ∧ W.cell? ⟨w.heap.size, 1, none⟩ = some (.int .i64 k) ∧ W.cell? ⟨w.heap.size, 2, none⟩ = some (.int .i64 a) ∧ W.cell? ⟨w.heap.size, 3, none⟩ = some (.int .i64 b) :=
  ⟨_, rfl, below_new _ _, by simp, by simp [go_sem], by simp [go_sem], by simp [go_sem], by simp [go_sem]⟩
def Keeps4 (W : World) (x : Nat) (n k a b : Int) : Prop := x < W.heap.size ∧ W.cell? ⟨x, 0, none⟩ = some (.int .i64 n) ∧ W.cell? ⟨x, 1, none⟩ = some (.int .i64 k) ∧ W.cell? ⟨x, 2, none⟩ = some (.int .i64 a) ∧ W.cell? ⟨x, 3, none⟩ = some (.int .i64 b)
theorem Keeps4.below {W W' : World} {x : Nat} {n k a b : Int} (h : Keeps4 W x n k a b) (hb : Below W.heap.size W W') : Keeps4 W' x n k a b := by
  obtain ⟨h0, h1, h2, h3, h4⟩ := h
  exact ⟨Nat.lt_of_lt_of_le h0 hb.size, (hb.cell (p := ⟨x, _, none⟩) h0).trans h1, (hb.cell (p := ⟨x, _, none⟩) h0).trans h2, (hb.cell (p := ⟨x, _, none⟩) h0).trans h3, (hb.cell (p := ⟨x, _, none⟩) h0).trans h4⟩
theorem refSheets_any (n k a b : Int) (w : World) (ha : -9223372036854775808 ≤ a) (ha' : a ≤ 9223372036854775807) (hb' : b ≤ 9223372036854775807) : Calls Try.prog 5 #[.agg #[.int .i64 n, .int .i64 k, .int .i64 a, .int .i64 b]] w fun e w' => e = .returned (.int .i64 (chkS n k a b)) ∧ Below w.heap.size w w' := by
  have HC : Hid (chkS n k a b = if win n 0 17 = false ∨ win k 0 n = false then 2 else chkC a b) := rfl
  obtain ⟨W, hW, hB0, hz, c0, c1, c2, c3⟩ := box4 w n k a b
  go_enter Try.func5, Try.ntmps5
  go_wp2_with fail
  have HB0 := Lib.hid hB0
  clear hW hB0
  have hz1 : w.heap.size < W.heap.size := by omega
  refine (within6_any _ _ _ _).mono ?_
  rintro e w2 ⟨rfl, rfl⟩
  cases hq : win n 0 17 with
  | false =>
    have HR := Lib.hid (HC.out.trans (if_pos (.inl hq)))
    clear HC hq hz
    go_wp2_with fail
    go_ret
    exact ⟨ret_int HR.out.symm, HB0.out⟩
  | true =>
    go_wp2_with fail
    refine (within6_any _ _ _ _).mono ?_
    rintro e w2 ⟨rfl, rfl⟩
    cases hq2 : win k 0 n with
    | false =>
      have HR := Lib.hid (HC.out.trans (if_pos (.inr hq2)))
      clear HC hq hq2 hz
      go_wp2_with fail
      go_ret
      exact ⟨ret_int HR.out.symm, HB0.out⟩
    | true =>
      have HR := Lib.hid (HC.out.trans (if_neg (by rw [hq, hq2]; decide)))
      clear HC hq hq2 hz
      go_wp2_with fail
      refine (refChance_any a b _ ha ha' hb').mono ?_
      rintro e w3 ⟨rfl, b3⟩
      have HB3 := Lib.hid (HB0.out.trans (b3.mono HB0.out.size))
      clear b3 c0 c1 c2 c3
      generalize chkC a b = v at *
      go_wp2_with fail
      go_ret
      exact ⟨ret_int HR.out.symm, HB3.out⟩
theorem ok_low {Q D : Nat} (hg : Nat.gcd Q D = 1) : Int.gcd (Q : Int) (D : Int) = 1 := by unfold Int.gcd; simpa using hg
theorem chance0_any (Q D : Nat) (w : World) (hg : Nat.gcd Q D = 1) (hq : Q ≤ D) (h1 : 1 ≤ D) (hd : D ≤ 10) : Calls Try.prog 13 #[.agg #[.int .i64 (Q : Int), .int .i64 (D : Int)], .int .i64 10] w fun e w' => e = .returned (.int .i64 0) ∧ Below w.heap.size w w' := by
  have hgi := ok_low hg
  have hdv : ∀ w, Calls Try.prog 15 #[.int .i64 (Q : Int), .int .i64 (D : Int)] w fun e w' => e = .returned (.int .i64 1) ∧ Below w.heap.size w w' := fun w => by
    have := divisor_any (Q : Int) (D : Int) w (by omega) (by omega) (by omega) (by omega)
    rw [hgi] at this
    exact this
  have HW : win (Q : Int) 0 (D : Int) = true := win_t.2 (by omega)
  clear hg hgi
  have hdz : ¬ (D : Int) < 1 := by omega
  have hdm : ¬ (10 : Int) < (D : Int) := by omega
  go_enter Try.func13, Try.ntmps13
  go_wp2_with fail
  have HB0 := Lib.hid (below_new w (Obj.cells #[Value.int IntKind.i64 (Q : Int), Value.int IntKind.i64 (D : Int)] 23))
  have c0 : (w.alloc (Obj.cells #[Value.int IntKind.i64 (Q : Int), Value.int IntKind.i64 (D : Int)] 23)).cell? ⟨w.heap.size, 0, none⟩ = some (.int .i64 (Q : Int)) := by simp [go_sem]
  have c1 : (w.alloc (Obj.cells #[Value.int IntKind.i64 (Q : Int), Value.int IntKind.i64 (D : Int)] 23)).cell? ⟨w.heap.size, 1, none⟩ = some (.int .i64 (D : Int)) := by simp [go_sem]
  have hz : w.heap.size < (w.alloc (Obj.cells #[Value.int IntKind.i64 (Q : Int), Value.int IntKind.i64 (D : Int)] 23)).heap.size := by simp
  generalize w.alloc (Obj.cells #[Value.int IntKind.i64 (Q : Int), Value.int IntKind.i64 (D : Int)] 23) = W at *
  refine (hdv _).mono ?_
  rintro e w1 ⟨rfl, b1⟩
  have d0 := (b1.cell (p := ⟨w.heap.size, 0, none⟩) hz).trans c0
  have d1 := (b1.cell (p := ⟨w.heap.size, 1, none⟩) hz).trans c1
  have HB1 := Lib.hid (HB0.out.trans (b1.mono HB0.out.size))
  clear b1 c0 c1 hz HB0 hdv
  go_wp2_with fail
  refine (within12_any _ _ _ _).mono ?_
  rintro e w2 ⟨rfl, rfl⟩
  rw [HW]
  clear HW
  go_wp2_with fail
  go_ret
  exact ⟨rfl, HB1.out⟩
end Go.Proofs.Ytcocplaloajbdaa
