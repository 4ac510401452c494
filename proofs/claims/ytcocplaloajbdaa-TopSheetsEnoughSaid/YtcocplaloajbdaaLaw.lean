/- TopSheetsEnough: the walk. -/
import Derived.Test.YtcocplaloajbdaaEst
namespace Go.Proofs.Ytcocplaloajbdaa
set_option linter.unusedSimpArgs false
set_option linter.unusedVariables false
open Go.RowKit Go.Sort Chance
theorem eq29 (a b c d : Int) (w : World) : (Op.equalIn 10000 29 (.agg #[.int .i64 a, .int .i64 b]) (.agg #[.int .i64 c, .int .i64 d])).run Try.prog w = .ok (a == c && b == d) w := by
  have u3 := Try.underlying3
  have a3 := Try.isAgg3
  have z3 := Try.sizeOf3
  rw [show (10000 : Nat) = 9999 + 1 from rfl, Op.equalIn]
  simp only [Sem.run_bind, run_underlying Try.underlying29, Result.andThen_ok]
  simp only [Std.Legacy.Range.forIn_eq_forIn_range', Std.Legacy.Range.size, Nat.sub_zero, Nat.add_sub_cancel, Nat.div_one, List.range'_succ, List.range'_zero, List.forIn_cons, List.forIn_nil]
  go_simp
  by_cases h1 : a = c <;> by_cases h2 : b = d <;> simp [h1, h2]
theorem boxv (w : World) (x y : Int) : ∃ W, w.alloc (Obj.cells #[Value.int IntKind.i64 x, Value.int IntKind.i64 y] 29) = W ∧ Below w.heap.size w W ∧ W.heap.size = w.heap.size + 1 ∧
    W.cell? ⟨w.heap.size, 0, none⟩ = some (.int .i64 x) ∧ W.cell? ⟨w.heap.size, 1, none⟩ = some (.int .i64 y) ∧ W.frozen? ⟨w.heap.size, 0, none⟩ = false ∧ W.frozen? ⟨w.heap.size, 1, none⟩ = false :=
  ⟨_, rfl, below_new _ _, by simp, by simp [go_sem], by simp [go_sem], by simp [go_sem], by simp [go_sem]⟩
/-- A chance in lowest terms, scaled, is the number of cases. -/
theorem scaled_low (s d : Nat) (w : World) (hs : s ≤ d) (h1 : 1 ≤ d) (hd : d ≤ 10000000) (X Y : Nat) (hX : s / Nat.gcd s d = X) (hY : d / Nat.gcd s d = Y) :
    Calls Try.prog 8 #[.agg #[.int .i64 (X : Int), .int .i64 (Y : Int)], .int .i64 (d : Int)] w fun e w' => e = .returned (.int .i64 (s : Int)) ∧ Below w.heap.size w w' := by
  have hg0 : 0 < Nat.gcd s d := Nat.gcd_pos_of_pos_right _ (by omega)
  have e1 : Nat.gcd s d * X = s := by rw [← hX]; exact Nat.mul_div_cancel' (Nat.gcd_dvd_left _ _)
  have e2 : Nat.gcd s d * Y = d := by rw [← hY]; exact Nat.mul_div_cancel' (Nat.gcd_dvd_right _ _)
  clear hX hY
  generalize Nat.gcd s d = g at *
  have hY1 : 1 ≤ Y := by
    rcases Nat.eq_zero_or_pos Y with h | h
    · rw [h, Nat.mul_zero] at e2; omega
    · exact h
  have hXY : X ≤ Y := by
    refine Classical.byContradiction fun h => ?_
    have := Nat.mul_lt_mul_of_pos_left (by omega : Y < X) hg0
    omega
  have hYd : Y ≤ d := by rw [← e2]; exact Nat.le_mul_of_pos_left _ hg0
  have hq : d / Y = g := by rw [← e2]; exact Nat.mul_div_cancel _ (by omega)
  have h := scaled_any X Y d w hY1 hYd hXY ⟨g, by rw [← e2, Nat.mul_comm]⟩ hd
  rw [hq, Nat.mul_comm, e1] at h
  exact h
theorem cb {B : Nat} {w w' : World} {b o : Nat} (hb : Below B w w') (h : b < B) : w'.cell? ⟨b, o, none⟩ = w.cell? ⟨b, o, none⟩ := hb.cell (p := ⟨b, o, none⟩) h
theorem fb {B : Nat} {w w' : World} {b o : Nat} (hb : Below B w w') (h : b < B) : w'.frozen? ⟨b, o, none⟩ = w.frozen? ⟨b, o, none⟩ := hb.frozen (p := ⟨b, o, none⟩) h
/-- The last box, and what is stored into an elder one. -/
theorem stored {w w3 w4 W4 w6 W6 : World} {x : Nat} {n k a b : Int} {X1 Y1 X2 Y2 u v : Value} (hlt : w3.heap.size < w4.heap.size ∧ w4.heap.size < W4.heap.size ∧ w.heap.size < w3.heap.size) (hB : Below w6.heap.size w6 W6) (hz : W4.heap.size < w6.heap.size) (hb : Below w.heap.size w w6) (hk : Keeps4 w6 w.heap.size n k a b)
    (a0 : w6.cell? ⟨w3.heap.size, 0, none⟩ = some X1) (a1 : w6.cell? ⟨w3.heap.size, 1, none⟩ = some Y1) (b0 : w6.cell? ⟨w4.heap.size, 0, none⟩ = some X2) (b1 : w6.cell? ⟨w4.heap.size, 1, none⟩ = some Y2)
    (c0 : w6.cell? ⟨W4.heap.size, 0, none⟩ = some u) (c1 : w6.cell? ⟨W4.heap.size, 1, none⟩ = some v) (cf : w6.frozen? ⟨W4.heap.size, 0, none⟩ = false) (cf' : w6.frozen? ⟨W4.heap.size, 1, none⟩ = false) (hz' : W4.heap.size < w6.heap.size) (X3 Y3 : Int) :
    ∃ W7, (W6.setCell ⟨W4.heap.size, 0, none⟩ (.int .i64 X3)).setCell ⟨W4.heap.size, 1, none⟩ (.int .i64 Y3) = W7 ∧ Below w.heap.size w W7 ∧ Keeps4 W7 w.heap.size n k a b ∧ W7.cell? ⟨w3.heap.size, 0, none⟩ = some X1 ∧ W7.cell? ⟨w3.heap.size, 1, none⟩ = some Y1 ∧ W7.cell? ⟨w4.heap.size, 0, none⟩ = some X2 ∧ W7.cell? ⟨w4.heap.size, 1, none⟩ = some Y2 ∧
      W7.cell? ⟨W4.heap.size, 0, none⟩ = some (.int .i64 X3) ∧ W7.cell? ⟨W4.heap.size, 1, none⟩ = some (.int .i64 Y3) ∧ W6.heap.size ≤ W7.heap.size := by
  obtain ⟨h1, h2, h3⟩ := hlt
  obtain ⟨q, q0, q1, q2, q3⟩ := hk
  have far : ∀ (p : Nat) (o : Nat) (y : Value), p < W4.heap.size → w6.cell? ⟨p, o, none⟩ = some y → ((W6.setCell ⟨W4.heap.size, 0, none⟩ (.int .i64 X3)).setCell ⟨W4.heap.size, 1, none⟩ (.int .i64 Y3)).cell? ⟨p, o, none⟩ = some y := fun p o y hp hy => by
    rw [World.cell?_setCell_far _ _ _ _ (by show W4.heap.size ≠ p; omega), World.cell?_setCell_far _ _ _ _ (by show W4.heap.size ≠ p; omega)]
    exact (hB.cell (p := ⟨p, o, none⟩) (by show p < _; omega)).trans hy
  have d0 : W6.cell? ⟨W4.heap.size, 0, none⟩ = some u := (hB.cell (p := ⟨W4.heap.size, 0, none⟩) hz).trans c0
  have d1 : W6.cell? ⟨W4.heap.size, 1, none⟩ = some v := (hB.cell (p := ⟨W4.heap.size, 1, none⟩) hz).trans c1
  have hs := hB.size
  have hs2 := hb.size
  refine ⟨_, rfl, ((hb.trans (hB.mono hb.size)).setCell (p := ⟨W4.heap.size, 0, none⟩) (by show w.heap.size ≤ W4.heap.size; omega) _).setCell (p := ⟨W4.heap.size, 1, none⟩) (by show w.heap.size ≤ W4.heap.size; omega) _, ⟨by simp [World.setCell]; omega, far _ _ _ (by omega) q0, far _ _ _ (by omega) q1, far _ _ _ (by omega) q2, far _ _ _ (by omega) q3⟩, far _ _ _ (by omega) a0, far _ _ _ (by omega) a1, far _ _ _ h2 b0, far _ _ _ h2 b1, ?_, ?_, by simp [World.setCell]⟩
  · simp [go_sem, d0, d1]
  · simp [go_sem, d0, d1]
set_option maxRecDepth 100000 in
set_option maxHeartbeats 8000000 in
theorem sheets_any (n k a b : Int) (w : World) (ha : -9223372036854775808 ≤ a) (ha' : a ≤ 9223372036854775807) (hb' : b ≤ 9223372036854775807) :
    Calls Try.prog 3 #[.agg #[.int .i64 n, .int .i64 k, .int .i64 a, .int .i64 b]] w fun e w' => e = .returned (.bool true) ∧ Below w.heap.size w w' := by
  obtain ⟨W, hW, hB0, hz, c0, c1, c2, c3⟩ := box4 w n k a b
  have HB0 := Lib.hid hB0
  have HK0 : Hid (Keeps4 W w.heap.size n k a b) := ⟨by omega, c0, c1, c2, c3⟩
  clear hB0 c0 c1 c2 c3
  go_enter Try.func3, Try.ntmps3
  go_wp2_with fail
  clear hW hz
  refine (printed_any _).mono ?_
  rintro e w1 ⟨rfl, b1⟩
  have HB1 := Lib.hid (HB0.out.trans (b1.mono HB0.out.size))
  have HK1 := Lib.hid (HK0.out.below b1)
  obtain ⟨k0, k1, k2, k3, k4⟩ := HK1.out
  clear b1 HB0 HK0
  go_wp2_with fail
  refine (refSheets_any n k a b _ ha ha' hb').mono ?_
  rintro e w2 ⟨rfl, b2⟩
  have HB2 := Lib.hid (HB1.out.trans (b2.mono HB1.out.size))
  have HK2 := Lib.hid (HK1.out.below b2)
  clear k0 k1 k2 k3 k4 b2 HB1 HK1
  by_cases hv : chkS n k a b = 0
  · have hok := chkS_ok hv
    rw [hv]
    clear hv
    generalize n.toNat = N' at *
    generalize k.toNat = K at *
    generalize b.toNat - a.toNat = P at *
    generalize a.toNat = Q at *
    generalize b.toNat = D at *
    obtain ⟨rfl, rfl, rfl, rfl, hkn, hn17, hqd, hd10, hd1, hdp, hgc⟩ := hok
    have HGC := Lib.hid hgc
    have HDP := Lib.hid hdp
    clear hgc hdp ha ha' hb'
    obtain ⟨k0, k1, k2, k3, k4⟩ := HK2.out
    go_wp2_with fail
    refine (within6_any _ _ _ _).mono ?_
    rintro e w3 ⟨rfl, rfl⟩
    cases hq : win (N' : Int) 1 7 with
    | false =>
      go_wp2_with fail
      go_ret
      exact ⟨rfl, HB2.out⟩
    | true =>
      have h17 := win_t.1 hq
      obtain ⟨M, rfl⟩ : ∃ M : Nat, N' = M + 1 := ⟨N' - 1, by omega⟩
      clear hq hn17
      have hM : M ≤ 6 := by omega
      have hQ10 : Q ≤ 10 := by omega
      have hP10 : P ≤ 10 := by have := HDP.out; omega
      have hD1 := pow_le hd10 (by omega : M + 1 ≤ 7)
      have hD2 := pow_le hd10 (by omega : M ≤ 7)
      have hDp : 1 ≤ D ^ M := Nat.one_le_pow _ _ hd1
      have hDp1 : 1 ≤ D ^ (M + 1) := Nat.one_le_pow _ _ hd1
      have hle1 : S P Q (M + 1) K ≤ D ^ (M + 1) := by rw [HDP.out]; exact S_le _ _ _ _
      have hle2 : S P Q M (K - 1) ≤ D ^ M := by rw [HDP.out]; exact S_le _ _ _ _
      have hle3 : S P Q M K ≤ D ^ M := by rw [HDP.out]; exact S_le _ _ _ _
      have HST := Lib.hid (S_step P Q M K)
      have HDM : Hid (IntKind.i64.wrap ((D ^ M : Nat) * (D : Int)) = ((D ^ (M + 1) : Nat) : Int)) := by
        show _ = _
        rw [← Int.natCast_mul, show D ^ M * D = D ^ (M + 1) from (Nat.pow_succ D M).symm]
        exact IntWalk.i64_in _ (by omega)
      have HPQ : Hid (IntKind.i64.wrap ((D : Int) - (Q : Int)) = (P : Int)) := by
        show _ = _
        rw [IntWalk.i64_in _ (by omega)]
        have := HDP.out
        omega
      have HALL := Lib.hid (fun h : K = 0 => (show S P Q (M + 1) K = D ^ (M + 1) by rw [h, HDP.out]; exact S_all _ _ _))
      have HNO := Lib.hid (fun h : M < K => (S_none (p := P) (q := Q) h : S P Q M K = 0))
      obtain ⟨X1, hX1⟩ : ∃ X, S P Q (M + 1) K / Nat.gcd (S P Q (M + 1) K) (D ^ (M + 1)) = X := ⟨_, rfl⟩
      obtain ⟨Y1, hY1⟩ : ∃ X, D ^ (M + 1) / Nat.gcd (S P Q (M + 1) K) (D ^ (M + 1)) = X := ⟨_, rfl⟩
      obtain ⟨X2, hX2⟩ : ∃ X, S P Q M (K - 1) / Nat.gcd (S P Q M (K - 1)) (D ^ M) = X := ⟨_, rfl⟩
      obtain ⟨Y2, hY2⟩ : ∃ X, D ^ M / Nat.gcd (S P Q M (K - 1)) (D ^ M) = X := ⟨_, rfl⟩
      have HC1 : Hid (∀ W', Calls Try.prog 7 #[.agg #[.int .i64 ((M : Int) + 1), .int .i64 (K : Int), .int .i64 (Q : Int), .int .i64 (D : Int)]] W' fun e w' => e = .returned (.tuple #[.agg #[.int .i64 (X1 : Int), .int .i64 (Y1 : Int)], .int .i64 0]) ∧ Below W'.heap.size W' w') := (show ∀ W', _ from fun W' => chanceOf_any (M + 1) K Q D P W' HDP.out hd10 hd1 hkn (by omega) HGC.out X1 Y1 hX1 hY1)
      have HC2 := Lib.hid (fun W' => chanceOf_any M (K - 1) Q D P W' HDP.out hd10 hd1 (by omega) (by omega) HGC.out X2 Y2 hX2 hY2)
      have HC3 := Lib.hid (fun W' (h : K ≤ M) => chanceOf_any M K Q D P W' HDP.out hd10 hd1 h (by omega) HGC.out _ _ rfl rfl)
      have HS1 := Lib.hid (fun W' => scaled_low (S P Q (M + 1) K) (D ^ (M + 1)) W' hle1 hDp1 hD1 X1 Y1 hX1 hY1)
      have HS2 := Lib.hid (fun W' => scaled_low (S P Q M (K - 1)) (D ^ M) W' hle2 hDp hD2 X2 Y2 hX2 hY2)
      have HONE : Hid (K = 0 → X1 = 1 ∧ Y1 = 1) := (show K = 0 → _ from fun h => by
        have e := HALL.out h
        rw [e, Nat.gcd_self, Nat.div_self hDp1] at hX1
        rw [e, Nat.gcd_self, Nat.div_self hDp1] at hY1
        exact ⟨hX1.symm, hY1.symm⟩)
      have HS30 := Lib.hid (fun W' => scaled_low (S P Q M K) (D ^ M) W' hle3 hDp hD2 _ _ rfl rfl)
      have HS31 := Lib.hid (fun W' (h : M < K) => scaled_any 0 1 (D ^ M) W' (by omega) hDp (by omega) (Nat.one_dvd _) hD2)
      clear hX1 hY1 hX2 hY2
      generalize S P Q (M + 1) K = s1 at *
      generalize S P Q M (K - 1) = s2 at *
      generalize hs3 : S P Q M K = s3 at *
      have hm1 : P * s2 ≤ 10 * 10000000 := Nat.mul_le_mul hP10 (by omega)
      have hm2 : Q * s3 ≤ 10 * 10000000 := Nat.mul_le_mul hQ10 (by omega)
      have HEQ : Hid ((s1 : Int) = ((D : Int) - (Q : Int)) * (s2 : Int) + (Q : Int) * (s3 : Int)) := by
        show _ = _
        rw [HST.out, show (D : Int) - (Q : Int) = (P : Int) by have := HDP.out; omega]
        simp
      have HBD : Hid (0 ≤ ((D : Int) - (Q : Int)) * (s2 : Int) ∧ ((D : Int) - (Q : Int)) * (s2 : Int) ≤ 100000000 ∧ 0 ≤ (Q : Int) * (s3 : Int) ∧ (Q : Int) * (s3 : Int) ≤ 100000000) := by
        show _ ∧ _
        rw [show (D : Int) - (Q : Int) = (P : Int) by have := HDP.out; omega, ← Int.natCast_mul, ← Int.natCast_mul]
        omega
      clear hm1 hm2 hs3
      have hm1z : IntKind.i64.wrap (((M + 1 : Nat) : Int) - 1) = (M : Int) := by rw [IntWalk.i64_in _ (by omega)]; omega
      have hmx : max ((K : Int) - 1) 0 = ((K - 1 : Nat) : Int) := by omega
      have HPJ := Lib.hid (fun j (h : j ≤ M) => pow_le hd10 (by omega : j ≤ 7))
      go_wp2_with fail
      go_loopg [3, 4] M (fun gg s3 s4 wr => ∃ j : Nat, j ≤ M ∧ M - j ≤ gg ∧ s4 = .int .i64 ((j : Int) + 1) ∧ s3 = .int .i64 ((D ^ j : Nat) : Int) ∧ w2 = wr)
      case atStart => exact ⟨0, Nat.zero_le _, by omega, rfl, by rw [Nat.pow_zero]; rfl, rfl⟩
      case round =>
        obtain ⟨j, hj, hg, rfl, rfl, rfl⟩ := hrel
        by_cases hlt : j < M
        · have hltz : (j : Int) + 1 < (M : Int) + 1 := by omega
          have h1 := HPJ.out j hj
          have HPS : Hid (∀ i, i = j + 1 → D ^ i = D ^ j * D) := (show ∀ i, _ from fun i h => by rw [h]; exact Nat.pow_succ D j)
          have h2 : D ^ j * D ≤ 10000000 * 10 := Nat.mul_le_mul h1 hd10
          generalize D ^ j = y at *
          have e1 : IntKind.i64.wrap ((y : Int) * (D : Int)) = ((y * D : Nat) : Int) := by rw [← Int.natCast_mul]; exact IntWalk.i64_in _ (by omega)
          have e2 : wrap64 ((y : Int) * (D : Int)) = ((y * D : Nat) : Int) := by rw [← Int.natCast_mul]; exact IntWalk.wrap64_in _ (by omega)
          clear h2
          generalize y * D = z at *
          go_wp2_with fail
          go_roundg (M - (j + 1))
          case measure => omega
          case rel => exact ⟨j + 1, by omega, by omega, by first | go_num | rfl, by rw [HPS.out _ rfl], rfl⟩
        · have hltz : ¬ (j : Int) + 1 < (M : Int) + 1 := by omega
          have he : j = M := by omega
          subst he
          obtain ⟨M, hMM⟩ : ∃ M, M = j := ⟨j, rfl⟩
          subst hMM
          clear hj hg hlt HPJ
          generalize D ^ (M + 1) = dd at *
          generalize D ^ M = d at *
          go_wp2_with fail
          refine (HC1.out _).mono ?_
          rintro e w3 ⟨rfl, b3⟩
          have HSZ3 : Hid (w.heap.size < w3.heap.size) := Nat.lt_of_lt_of_le k0 b3.size
          by_cases hK0 : K = 0
          · have hK0z : (K : Int) ≤ 0 := by omega
            have hkl : K < 1 := by omega
            clear hK0
            have HB3 := Lib.hid (HB2.out.trans (b3.mono HB2.out.size))
            have HK3 := Lib.hid (HK2.out.below b3)
            obtain ⟨W3, hW3, hB3, hz3, a0, a1, af, af'⟩ := boxv w3 X1 Y1
            have HB3' := Lib.hid (HB3.out.trans (hB3.mono HB3.out.size))
            have HK3' := Lib.hid (HK3.out.below hB3)
            have HA3 : Hid (w3.heap.size < W3.heap.size ∧ W3.cell? ⟨w3.heap.size, 0, none⟩ = some (.int .i64 (X1 : Int)) ∧ W3.cell? ⟨w3.heap.size, 1, none⟩ = some (.int .i64 (Y1 : Int))) := ⟨by omega, a0, a1⟩
            clear k0 k1 k2 k3 k4 b3 HB2 HK2 HC1 hB3 hz3 a0 a1 af af' hltz HB3 HK3 hmx
            obtain ⟨k0, k1, k2, k3, k4⟩ := HK3'.out
            have HC2' : Hid (∀ W', Calls Try.prog 7 #[.agg #[.int .i64 (M : Int), .int .i64 (0), .int .i64 (Q : Int), .int .i64 (D : Int)]] W' fun e w' => e = .returned (.tuple #[.agg #[.int .i64 (X2 : Int), .int .i64 (Y2 : Int)], .int .i64 0]) ∧ Below W'.heap.size W' w') := (show ∀ W', _ from fun W' => by
              have := HC2.out W'
              rw [show ((K - 1 : Nat) : Int) = 0 by omega] at this
              exact this)
            clear HC2
            go_wp2_with fail
            clear hW3
            refine (HC2'.out _).mono ?_
            rintro e w4 ⟨rfl, b4⟩
            have HB4 := Lib.hid (HB3'.out.trans (b4.mono HB3'.out.size))
            have HK4 := Lib.hid (HK3'.out.below b4)
            obtain ⟨za, a0, a1⟩ := HA3.out
            have HA4 : Hid (w3.heap.size < w4.heap.size ∧ w4.cell? ⟨w3.heap.size, 0, none⟩ = some (.int .i64 (X1 : Int)) ∧ w4.cell? ⟨w3.heap.size, 1, none⟩ = some (.int .i64 (Y1 : Int))) := ⟨Nat.lt_of_lt_of_le za b4.size, (cb b4 (b := w3.heap.size) za).trans a0, (cb b4 (b := w3.heap.size) za).trans a1⟩
            clear k0 k1 k2 k3 k4 b4 HB3' HK3' za a0 a1 HA3 HC2'
            obtain ⟨W4, hW4, hB4, hz4, b0, b1, bf, bf'⟩ := boxv w4 X2 Y2
            obtain ⟨W5, hW5, hB5, hz5, c0, c1, cf, cf'⟩ := boxv W4 0 1
            have HB5 := Lib.hid ((HB4.out.trans (hB4.mono HB4.out.size)).trans (hB5.mono (Nat.le_trans HB4.out.size hB4.size)))
            have HK5 := Lib.hid ((HK4.out.below hB4).below hB5)
            obtain ⟨za, a0, a1⟩ := HA4.out
            have HA5 : Hid (w3.heap.size < W5.heap.size ∧ W5.cell? ⟨w3.heap.size, 0, none⟩ = some (.int .i64 (X1 : Int)) ∧ W5.cell? ⟨w3.heap.size, 1, none⟩ = some (.int .i64 (Y1 : Int))) := ⟨by omega, (cb hB5 (b := w3.heap.size) (by omega)).trans ((cb hB4 (b := w3.heap.size) za).trans a0), (cb hB5 (b := w3.heap.size) (by omega)).trans ((cb hB4 (b := w3.heap.size) za).trans a1)⟩
            have HBB5 : Hid (w4.heap.size < W5.heap.size ∧ W5.cell? ⟨w4.heap.size, 0, none⟩ = some (.int .i64 (X2 : Int)) ∧ W5.cell? ⟨w4.heap.size, 1, none⟩ = some (.int .i64 (Y2 : Int))) := ⟨by omega, (cb hB5 (b := w4.heap.size) (by omega)).trans b0, (cb hB5 (b := w4.heap.size) (by omega)).trans b1⟩
            have HC5 : Hid (W4.heap.size < W5.heap.size ∧ W5.cell? ⟨W4.heap.size, 0, none⟩ = some (.int .i64 0) ∧ W5.cell? ⟨W4.heap.size, 1, none⟩ = some (.int .i64 1) ∧ W5.frozen? ⟨W4.heap.size, 0, none⟩ = false ∧ W5.frozen? ⟨W4.heap.size, 1, none⟩ = false) := ⟨by omega, c0, c1, cf, cf'⟩
            have HLT : Hid (w3.heap.size < w4.heap.size ∧ w4.heap.size < W4.heap.size ∧ w.heap.size < w3.heap.size) := ⟨za, by omega, HSZ3.out⟩
            clear hB4 hB5 hz4 hz5 b0 b1 bf bf' c0 c1 cf cf' za a0 a1 HA4 HB4 HK4
            obtain ⟨k0, k1, k2, k3, k4⟩ := HK5.out

            have hlt : (K : Int) < (M : Int) + 1 := by omega
            have HC3' := Lib.hid (fun W' => HC3.out W' (by omega))
            have HS3 := HS30
            clear HC3 HS31 HS30
            generalize s3 / Nat.gcd s3 d = X3 at *
            generalize d / Nat.gcd s3 d = Y3 at *
            go_wp2_with fail
            clear hW4 hW5
            refine (HC3'.out _).mono ?_
            rintro e w6 ⟨rfl, b6⟩
            have HB6 := Lib.hid (HB5.out.trans (b6.mono HB5.out.size))
            have HK6 := Lib.hid (HK5.out.below b6)
            obtain ⟨za, a0, a1⟩ := HA5.out
            obtain ⟨zb, b0, b1⟩ := HBB5.out
            obtain ⟨zc, c0, c1, cf, cf'⟩ := HC5.out
            have a0 := (cb b6 (b := w3.heap.size) za).trans a0
            have a1 := (cb b6 (b := w3.heap.size) za).trans a1
            have b0 := (cb b6 (b := w4.heap.size) zb).trans b0
            have b1 := (cb b6 (b := w4.heap.size) zb).trans b1
            have c0 := (cb b6 (b := W4.heap.size) zc).trans c0
            have c1 := (cb b6 (b := W4.heap.size) zc).trans c1
            have cf := (fb b6 (b := W4.heap.size) zc).trans cf
            have cf' := (fb b6 (b := W4.heap.size) zc).trans cf'
            have zd := b6.size
            clear k0 k1 k2 k3 k4 b6 HB5 HK5 HC3' HA5 HBB5 HC5
            obtain ⟨W6, hW6, hB6, hz6, d0, d1, df, df'⟩ := boxv w6 X3 Y3
            obtain ⟨W7, hW7, HB7, HK7, e0, e1, f0, f1, g0, g1, hz7⟩ := stored (x := w.heap.size) HLT.out hB6 (by omega) HB6.out HK6.out a0 a1 b0 b1 c0 c1 cf cf' (by omega) (X3 : Int) (Y3 : Int)
            have cc0 : W6.cell? ⟨W4.heap.size, 0, none⟩ = some (.int .i64 0) := (cb hB6 (b := W4.heap.size) (by omega)).trans c0
            have cc1 : W6.cell? ⟨W4.heap.size, 1, none⟩ = some (.int .i64 1) := (cb hB6 (b := W4.heap.size) (by omega)).trans c1
            have ccf : W6.frozen? ⟨W4.heap.size, 0, none⟩ = false := (fb hB6 (b := W4.heap.size) (by omega)).trans cf
            have ccf' : W6.frozen? ⟨W4.heap.size, 1, none⟩ = false := (fb hB6 (b := W4.heap.size) (by omega)).trans cf'
            have HBF := Lib.hid HB7
            have HKF := Lib.hid HK7
            have HE : Hid (W7.cell? ⟨w3.heap.size, 0, none⟩ = some (.int .i64 (X1 : Int)) ∧ W7.cell? ⟨w3.heap.size, 1, none⟩ = some (.int .i64 (Y1 : Int)) ∧ W7.cell? ⟨w4.heap.size, 0, none⟩ = some (.int .i64 (X2 : Int)) ∧ W7.cell? ⟨w4.heap.size, 1, none⟩ = some (.int .i64 (Y2 : Int)) ∧ W7.cell? ⟨W4.heap.size, 0, none⟩ = some (.int .i64 (X3 : Int)) ∧ W7.cell? ⟨W4.heap.size, 1, none⟩ = some (.int .i64 (Y3 : Int)) ∧ w3.heap.size < W7.heap.size) := ⟨e0, e1, f0, f1, g0, g1, by omega⟩
            clear a0 a1 b0 b1 c0 c1 cf cf' HB6 HK6 HB7 HK7 e0 e1 f0 f1 g0 g1 hB6 df df' za zb zc zd hz6 hz7
            go_wp2_with fail
            clear hW6 hW7 d0 d1 cc0 cc1 ccf ccf'
            obtain ⟨wf, hwf⟩ : ∃ wf, wf = W7 := ⟨_, rfl⟩
            subst hwf
            obtain ⟨a0, a1, b0, b1, c0, c1, za⟩ := HE.out
            obtain ⟨k0, k1, k2, k3, k4⟩ := HKF.out
            have HA0 := Lib.hid a0
            have HA1 := Lib.hid a1
            clear HE
            have i1 : IntKind.i64.wrap ((d : Int) * (D : Int)) = (dd : Int) := HDM.out
            have HSC : Hid (∀ W', (Calls Try.prog 8 #[.agg #[.int .i64 (X1 : Int), .int .i64 (Y1 : Int)], .int .i64 (dd : Int)] W' fun e w' => e = .returned (.int .i64 (s1 : Int)) ∧ Below W'.heap.size W' w') ∧ (Calls Try.prog 8 #[.agg #[.int .i64 (X2 : Int), .int .i64 (Y2 : Int)], .int .i64 (d : Int)] W' fun e w' => e = .returned (.int .i64 (s2 : Int)) ∧ Below W'.heap.size W' w') ∧ (Calls Try.prog 8 #[.agg #[.int .i64 (X3 : Int), .int .i64 (Y3 : Int)], .int .i64 (d : Int)] W' fun e w' => e = .returned (.int .i64 (s3 : Int)) ∧ Below W'.heap.size W' w')) := (show ∀ W', _ from fun W' => ⟨HS1.out W', HS2.out W', HS3.out W'⟩)
            clear HS1 HS2 HS3
            have xk := cell_regrown k4
            have xa0 := cell_regrown a0
            have xa1 := cell_regrown a1
            have xb0 := cell_regrown b0
            have xb1 := cell_regrown b1
            have xc0 := cell_regrown c0
            have xc1 := cell_regrown c1
            have cA : ∀ d' os, Calls Try.prog 8 #[.agg #[.int .i64 (X1 : Int), .int .i64 (Y1 : Int)], .int .i64 (dd : Int)] (grow (redrawn wf d') os) fun e w'' => e = .returned (.int .i64 (s1 : Int)) ∧ ∃ p : Regrown, w'' = grow (redrawn wf p.d) p.os := fun d' os => Calls.regrown_of (HSC.out (grow (redrawn wf d') os)).1
            have cB : ∀ d' os, Calls Try.prog 8 #[.agg #[.int .i64 (X2 : Int), .int .i64 (Y2 : Int)], .int .i64 (d : Int)] (grow (redrawn wf d') os) fun e w'' => e = .returned (.int .i64 (s2 : Int)) ∧ ∃ p : Regrown, w'' = grow (redrawn wf p.d) p.os := fun d' os => Calls.regrown_of (HSC.out (grow (redrawn wf d') os)).2.1
            have cC : ∀ d' os, Calls Try.prog 8 #[.agg #[.int .i64 (X3 : Int), .int .i64 (Y3 : Int)], .int .i64 (d : Int)] (grow (redrawn wf d') os) fun e w'' => e = .returned (.int .i64 (s3 : Int)) ∧ ∃ p : Regrown, w'' = grow (redrawn wf p.d) p.os := fun d' os => Calls.regrown_of (HSC.out (grow (redrawn wf d') os)).2.2
            clear k0 k1 k2 k3 k4 a0 a1 b0 b1 c0 c1 HSC
            refine wp_region_quiet_below (by kernel_rfl) (by kernel_rfl) ?_
            repeat (first | go_big_quiet_step (first | (with_reducible exact cA _ _) | (with_reducible exact cB _ _) | (with_reducible exact cC _ _)) | quiet_step (first | (with_reducible exact cA _ _) | (with_reducible exact cB _ _) | (with_reducible exact cC _ _)))
            refine wpQuiet_nil ?_
            intro _ hw'
            obtain ⟨⟨dq, osq⟩, hw''⟩ := hw'
            subst hw''
            have b3 := below_regrown wf dq osq
            have HBN := Lib.hid (HBF.out.trans (b3.mono HBF.out.size))
            have HKN := Lib.hid (HKF.out.below b3)
            have g0 := (b3.cell (p := ⟨w3.heap.size, 0, none⟩) za).trans HA0.out
            have g1 := (b3.cell (p := ⟨w3.heap.size, 1, none⟩) za).trans HA1.out
            generalize grow (redrawn wf dq) osq = w9 at *
            clear cA cB cC xk xa0 xa1 xb0 xb1 xc0 xc1 b3 HKF
            obtain ⟨k0, k1, k2, k3, k4⟩ := HKN.out
            have n1 : ¬ ((s1 : Int) < 0) := by omega
            have n2 : ¬ ((s2 : Int) < 0) := by omega
            have n3 : ¬ ((s3 : Int) < 0) := by omega
            obtain ⟨j1, j2, j3, j4⟩ := HBD.out
            clear HPQ HDM HST
            have hkb : ((K : Int) == 0) = true := by simp; omega
            obtain ⟨rfl, rfl⟩ := HONE.out (by omega)
            have heq := eq29
            go_wp2_with fail
            go_ret
            exact ⟨ret_bool (by simpa using HEQ.out), HBN.out⟩
          · have hK0z : (1 : Int) ≤ (K : Int) := by omega
            have hkl : 0 < K := by omega
            have HB3 := Lib.hid (HB2.out.trans (b3.mono HB2.out.size))
            have HK3 := Lib.hid (HK2.out.below b3)
            obtain ⟨W3, hW3, hB3, hz3, a0, a1, af, af'⟩ := boxv w3 X1 Y1
            have HB3' := Lib.hid (HB3.out.trans (hB3.mono HB3.out.size))
            have HK3' := Lib.hid (HK3.out.below hB3)
            have HA3 : Hid (w3.heap.size < W3.heap.size ∧ W3.cell? ⟨w3.heap.size, 0, none⟩ = some (.int .i64 (X1 : Int)) ∧ W3.cell? ⟨w3.heap.size, 1, none⟩ = some (.int .i64 (Y1 : Int))) := ⟨by omega, a0, a1⟩
            clear k0 k1 k2 k3 k4 b3 HB2 HK2 HC1 hB3 hz3 a0 a1 af af' hltz HB3 HK3 hmx
            obtain ⟨k0, k1, k2, k3, k4⟩ := HK3'.out
            have HC2' : Hid (∀ W', Calls Try.prog 7 #[.agg #[.int .i64 (M : Int), .int .i64 ((K : Int) - 1), .int .i64 (Q : Int), .int .i64 (D : Int)]] W' fun e w' => e = .returned (.tuple #[.agg #[.int .i64 (X2 : Int), .int .i64 (Y2 : Int)], .int .i64 0]) ∧ Below W'.heap.size W' w') := (show ∀ W', _ from fun W' => by
              have := HC2.out W'
              rw [show ((K - 1 : Nat) : Int) = (K : Int) - 1 by omega] at this
              exact this)
            clear HC2
            go_wp2_with fail
            clear hW3
            refine (HC2'.out _).mono ?_
            rintro e w4 ⟨rfl, b4⟩
            have HB4 := Lib.hid (HB3'.out.trans (b4.mono HB3'.out.size))
            have HK4 := Lib.hid (HK3'.out.below b4)
            obtain ⟨za, a0, a1⟩ := HA3.out
            have HA4 : Hid (w3.heap.size < w4.heap.size ∧ w4.cell? ⟨w3.heap.size, 0, none⟩ = some (.int .i64 (X1 : Int)) ∧ w4.cell? ⟨w3.heap.size, 1, none⟩ = some (.int .i64 (Y1 : Int))) := ⟨Nat.lt_of_lt_of_le za b4.size, (cb b4 (b := w3.heap.size) za).trans a0, (cb b4 (b := w3.heap.size) za).trans a1⟩
            clear k0 k1 k2 k3 k4 b4 HB3' HK3' za a0 a1 HA3 HC2'
            obtain ⟨W4, hW4, hB4, hz4, b0, b1, bf, bf'⟩ := boxv w4 X2 Y2
            obtain ⟨W5, hW5, hB5, hz5, c0, c1, cf, cf'⟩ := boxv W4 0 1
            have HB5 := Lib.hid ((HB4.out.trans (hB4.mono HB4.out.size)).trans (hB5.mono (Nat.le_trans HB4.out.size hB4.size)))
            have HK5 := Lib.hid ((HK4.out.below hB4).below hB5)
            obtain ⟨za, a0, a1⟩ := HA4.out
            have HA5 : Hid (w3.heap.size < W5.heap.size ∧ W5.cell? ⟨w3.heap.size, 0, none⟩ = some (.int .i64 (X1 : Int)) ∧ W5.cell? ⟨w3.heap.size, 1, none⟩ = some (.int .i64 (Y1 : Int))) := ⟨by omega, (cb hB5 (b := w3.heap.size) (by omega)).trans ((cb hB4 (b := w3.heap.size) za).trans a0), (cb hB5 (b := w3.heap.size) (by omega)).trans ((cb hB4 (b := w3.heap.size) za).trans a1)⟩
            have HBB5 : Hid (w4.heap.size < W5.heap.size ∧ W5.cell? ⟨w4.heap.size, 0, none⟩ = some (.int .i64 (X2 : Int)) ∧ W5.cell? ⟨w4.heap.size, 1, none⟩ = some (.int .i64 (Y2 : Int))) := ⟨by omega, (cb hB5 (b := w4.heap.size) (by omega)).trans b0, (cb hB5 (b := w4.heap.size) (by omega)).trans b1⟩
            have HC5 : Hid (W4.heap.size < W5.heap.size ∧ W5.cell? ⟨W4.heap.size, 0, none⟩ = some (.int .i64 0) ∧ W5.cell? ⟨W4.heap.size, 1, none⟩ = some (.int .i64 1) ∧ W5.frozen? ⟨W4.heap.size, 0, none⟩ = false ∧ W5.frozen? ⟨W4.heap.size, 1, none⟩ = false) := ⟨by omega, c0, c1, cf, cf'⟩
            have HLT : Hid (w3.heap.size < w4.heap.size ∧ w4.heap.size < W4.heap.size ∧ w.heap.size < w3.heap.size) := ⟨za, by omega, HSZ3.out⟩
            clear hB4 hB5 hz4 hz5 b0 b1 bf bf' c0 c1 cf cf' za a0 a1 HA4 HB4 HK4
            obtain ⟨k0, k1, k2, k3, k4⟩ := HK5.out
            by_cases hKM : K ≤ M
            · have hlt : (K : Int) < (M : Int) + 1 := by omega
              have HC3' := Lib.hid (fun W' => HC3.out W' (by omega))
              have HS3 := HS30
              clear HC3 HS31 HS30
              generalize s3 / Nat.gcd s3 d = X3 at *
              generalize d / Nat.gcd s3 d = Y3 at *
              go_wp2_with fail
              clear hW4 hW5
              refine (HC3'.out _).mono ?_
              rintro e w6 ⟨rfl, b6⟩
              have HB6 := Lib.hid (HB5.out.trans (b6.mono HB5.out.size))
              have HK6 := Lib.hid (HK5.out.below b6)
              obtain ⟨za, a0, a1⟩ := HA5.out
              obtain ⟨zb, b0, b1⟩ := HBB5.out
              obtain ⟨zc, c0, c1, cf, cf'⟩ := HC5.out
              have a0 := (cb b6 (b := w3.heap.size) za).trans a0
              have a1 := (cb b6 (b := w3.heap.size) za).trans a1
              have b0 := (cb b6 (b := w4.heap.size) zb).trans b0
              have b1 := (cb b6 (b := w4.heap.size) zb).trans b1
              have c0 := (cb b6 (b := W4.heap.size) zc).trans c0
              have c1 := (cb b6 (b := W4.heap.size) zc).trans c1
              have cf := (fb b6 (b := W4.heap.size) zc).trans cf
              have cf' := (fb b6 (b := W4.heap.size) zc).trans cf'
              have zd := b6.size
              clear k0 k1 k2 k3 k4 b6 HB5 HK5 HC3' HA5 HBB5 HC5
              obtain ⟨W6, hW6, hB6, hz6, d0, d1, df, df'⟩ := boxv w6 X3 Y3
              obtain ⟨W7, hW7, HB7, HK7, e0, e1, f0, f1, g0, g1, hz7⟩ := stored (x := w.heap.size) HLT.out hB6 (by omega) HB6.out HK6.out a0 a1 b0 b1 c0 c1 cf cf' (by omega) (X3 : Int) (Y3 : Int)
              have cc0 : W6.cell? ⟨W4.heap.size, 0, none⟩ = some (.int .i64 0) := (cb hB6 (b := W4.heap.size) (by omega)).trans c0
              have cc1 : W6.cell? ⟨W4.heap.size, 1, none⟩ = some (.int .i64 1) := (cb hB6 (b := W4.heap.size) (by omega)).trans c1
              have ccf : W6.frozen? ⟨W4.heap.size, 0, none⟩ = false := (fb hB6 (b := W4.heap.size) (by omega)).trans cf
              have ccf' : W6.frozen? ⟨W4.heap.size, 1, none⟩ = false := (fb hB6 (b := W4.heap.size) (by omega)).trans cf'
              have HBF := Lib.hid HB7
              have HKF := Lib.hid HK7
              have HE : Hid (W7.cell? ⟨w3.heap.size, 0, none⟩ = some (.int .i64 (X1 : Int)) ∧ W7.cell? ⟨w3.heap.size, 1, none⟩ = some (.int .i64 (Y1 : Int)) ∧ W7.cell? ⟨w4.heap.size, 0, none⟩ = some (.int .i64 (X2 : Int)) ∧ W7.cell? ⟨w4.heap.size, 1, none⟩ = some (.int .i64 (Y2 : Int)) ∧ W7.cell? ⟨W4.heap.size, 0, none⟩ = some (.int .i64 (X3 : Int)) ∧ W7.cell? ⟨W4.heap.size, 1, none⟩ = some (.int .i64 (Y3 : Int)) ∧ w3.heap.size < W7.heap.size) := ⟨e0, e1, f0, f1, g0, g1, by omega⟩
              clear a0 a1 b0 b1 c0 c1 cf cf' HB6 HK6 HB7 HK7 e0 e1 f0 f1 g0 g1 hB6 df df' za zb zc zd hz6 hz7
              go_wp2_with fail
              clear hW6 hW7 d0 d1 cc0 cc1 ccf ccf'
              obtain ⟨wf, hwf⟩ : ∃ wf, wf = W7 := ⟨_, rfl⟩
              subst hwf
              obtain ⟨a0, a1, b0, b1, c0, c1, za⟩ := HE.out
              obtain ⟨k0, k1, k2, k3, k4⟩ := HKF.out
              have HA0 := Lib.hid a0
              have HA1 := Lib.hid a1
              clear HE
              have i1 : IntKind.i64.wrap ((d : Int) * (D : Int)) = (dd : Int) := HDM.out
              have HSC : Hid (∀ W', (Calls Try.prog 8 #[.agg #[.int .i64 (X1 : Int), .int .i64 (Y1 : Int)], .int .i64 (dd : Int)] W' fun e w' => e = .returned (.int .i64 (s1 : Int)) ∧ Below W'.heap.size W' w') ∧ (Calls Try.prog 8 #[.agg #[.int .i64 (X2 : Int), .int .i64 (Y2 : Int)], .int .i64 (d : Int)] W' fun e w' => e = .returned (.int .i64 (s2 : Int)) ∧ Below W'.heap.size W' w') ∧ (Calls Try.prog 8 #[.agg #[.int .i64 (X3 : Int), .int .i64 (Y3 : Int)], .int .i64 (d : Int)] W' fun e w' => e = .returned (.int .i64 (s3 : Int)) ∧ Below W'.heap.size W' w')) := (show ∀ W', _ from fun W' => ⟨HS1.out W', HS2.out W', HS3.out W'⟩)
              clear HS1 HS2 HS3
              have xk := cell_regrown k4
              have xa0 := cell_regrown a0
              have xa1 := cell_regrown a1
              have xb0 := cell_regrown b0
              have xb1 := cell_regrown b1
              have xc0 := cell_regrown c0
              have xc1 := cell_regrown c1
              have cA : ∀ d' os, Calls Try.prog 8 #[.agg #[.int .i64 (X1 : Int), .int .i64 (Y1 : Int)], .int .i64 (dd : Int)] (grow (redrawn wf d') os) fun e w'' => e = .returned (.int .i64 (s1 : Int)) ∧ ∃ p : Regrown, w'' = grow (redrawn wf p.d) p.os := fun d' os => Calls.regrown_of (HSC.out (grow (redrawn wf d') os)).1
              have cB : ∀ d' os, Calls Try.prog 8 #[.agg #[.int .i64 (X2 : Int), .int .i64 (Y2 : Int)], .int .i64 (d : Int)] (grow (redrawn wf d') os) fun e w'' => e = .returned (.int .i64 (s2 : Int)) ∧ ∃ p : Regrown, w'' = grow (redrawn wf p.d) p.os := fun d' os => Calls.regrown_of (HSC.out (grow (redrawn wf d') os)).2.1
              have cC : ∀ d' os, Calls Try.prog 8 #[.agg #[.int .i64 (X3 : Int), .int .i64 (Y3 : Int)], .int .i64 (d : Int)] (grow (redrawn wf d') os) fun e w'' => e = .returned (.int .i64 (s3 : Int)) ∧ ∃ p : Regrown, w'' = grow (redrawn wf p.d) p.os := fun d' os => Calls.regrown_of (HSC.out (grow (redrawn wf d') os)).2.2
              clear k0 k1 k2 k3 k4 a0 a1 b0 b1 c0 c1 HSC
              refine wp_region_quiet_below (by kernel_rfl) (by kernel_rfl) ?_
              repeat (first | go_big_quiet_step (first | (with_reducible exact cA _ _) | (with_reducible exact cB _ _) | (with_reducible exact cC _ _)) | quiet_step (first | (with_reducible exact cA _ _) | (with_reducible exact cB _ _) | (with_reducible exact cC _ _)))
              refine wpQuiet_nil ?_
              intro _ hw'
              obtain ⟨⟨dq, osq⟩, hw''⟩ := hw'
              subst hw''
              have b3 := below_regrown wf dq osq
              have HBN := Lib.hid (HBF.out.trans (b3.mono HBF.out.size))
              have HKN := Lib.hid (HKF.out.below b3)
              have g0 := (b3.cell (p := ⟨w3.heap.size, 0, none⟩) za).trans HA0.out
              have g1 := (b3.cell (p := ⟨w3.heap.size, 1, none⟩) za).trans HA1.out
              generalize grow (redrawn wf dq) osq = w9 at *
              clear cA cB cC xk xa0 xa1 xb0 xb1 xc0 xc1 b3 HKF
              obtain ⟨k0, k1, k2, k3, k4⟩ := HKN.out
              have n1 : ¬ ((s1 : Int) < 0) := by omega
              have n2 : ¬ ((s2 : Int) < 0) := by omega
              have n3 : ¬ ((s3 : Int) < 0) := by omega
              obtain ⟨j1, j2, j3, j4⟩ := HBD.out
              clear HPQ HDM HST
              have hkb : ((K : Int) == 0) = false := by simp; omega
              go_wp2_with fail
              go_ret
              exact ⟨ret_bool (by simpa using HEQ.out), HBN.out⟩
            · have hlt : ¬ (K : Int) < (M : Int) + 1 := by omega
              have HS3 : Hid (∀ W', Calls Try.prog 8 #[.agg #[.int .i64 ((0 : Nat) : Int), .int .i64 ((1 : Nat) : Int)], .int .i64 (d : Int)] W' fun e w' => e = .returned (.int .i64 (s3 : Int)) ∧ Below W'.heap.size W' w') := (show ∀ W', _ from fun W' => by
                have h := HS31.out W' (by omega)
                rw [Nat.zero_mul] at h
                rw [HNO.out (by omega)]
                exact h)
              clear HC3 HS31 HS30
              obtain ⟨X3, hX3⟩ : ∃ X3, X3 = 0 := ⟨0, rfl⟩
              obtain ⟨Y3, hY3⟩ : ∃ Y3, Y3 = 1 := ⟨1, rfl⟩
              rw [← hX3, ← hY3] at HS3
              have HA5' := HA5
              obtain ⟨wf, hwf⟩ : ∃ wf, wf = W5 := ⟨_, rfl⟩
              subst hwf
              have HBF := HB5
              have HKF := HK5
              obtain ⟨za, a0, a1⟩ := HA5.out
              obtain ⟨zb, b0, b1⟩ := HBB5.out
              obtain ⟨zc, c0, c1, cf, cf'⟩ := HC5.out
              rw [show (0 : Int) = (X3 : Int) by rw [hX3]; rfl] at c0
              rw [show (1 : Int) = (Y3 : Int) by rw [hY3]; rfl] at c1
              have HA0 := Lib.hid a0
              have HA1 := Lib.hid a1
              clear hX3 hY3 HA5 HA5' HBB5 HC5 HB5 HK5 cf cf' zb zc
              go_wp2_with fail
              clear hW4 hW5
              have i1 : IntKind.i64.wrap ((d : Int) * (D : Int)) = (dd : Int) := HDM.out
              have HSC : Hid (∀ W', (Calls Try.prog 8 #[.agg #[.int .i64 (X1 : Int), .int .i64 (Y1 : Int)], .int .i64 (dd : Int)] W' fun e w' => e = .returned (.int .i64 (s1 : Int)) ∧ Below W'.heap.size W' w') ∧ (Calls Try.prog 8 #[.agg #[.int .i64 (X2 : Int), .int .i64 (Y2 : Int)], .int .i64 (d : Int)] W' fun e w' => e = .returned (.int .i64 (s2 : Int)) ∧ Below W'.heap.size W' w') ∧ (Calls Try.prog 8 #[.agg #[.int .i64 (X3 : Int), .int .i64 (Y3 : Int)], .int .i64 (d : Int)] W' fun e w' => e = .returned (.int .i64 (s3 : Int)) ∧ Below W'.heap.size W' w')) := (show ∀ W', _ from fun W' => ⟨HS1.out W', HS2.out W', HS3.out W'⟩)
              clear HS1 HS2 HS3
              have xk := cell_regrown k4
              have xa0 := cell_regrown a0
              have xa1 := cell_regrown a1
              have xb0 := cell_regrown b0
              have xb1 := cell_regrown b1
              have xc0 := cell_regrown c0
              have xc1 := cell_regrown c1
              have cA : ∀ d' os, Calls Try.prog 8 #[.agg #[.int .i64 (X1 : Int), .int .i64 (Y1 : Int)], .int .i64 (dd : Int)] (grow (redrawn wf d') os) fun e w'' => e = .returned (.int .i64 (s1 : Int)) ∧ ∃ p : Regrown, w'' = grow (redrawn wf p.d) p.os := fun d' os => Calls.regrown_of (HSC.out (grow (redrawn wf d') os)).1
              have cB : ∀ d' os, Calls Try.prog 8 #[.agg #[.int .i64 (X2 : Int), .int .i64 (Y2 : Int)], .int .i64 (d : Int)] (grow (redrawn wf d') os) fun e w'' => e = .returned (.int .i64 (s2 : Int)) ∧ ∃ p : Regrown, w'' = grow (redrawn wf p.d) p.os := fun d' os => Calls.regrown_of (HSC.out (grow (redrawn wf d') os)).2.1
              have cC : ∀ d' os, Calls Try.prog 8 #[.agg #[.int .i64 (X3 : Int), .int .i64 (Y3 : Int)], .int .i64 (d : Int)] (grow (redrawn wf d') os) fun e w'' => e = .returned (.int .i64 (s3 : Int)) ∧ ∃ p : Regrown, w'' = grow (redrawn wf p.d) p.os := fun d' os => Calls.regrown_of (HSC.out (grow (redrawn wf d') os)).2.2
              clear k0 k1 k2 k3 k4 a0 a1 b0 b1 c0 c1 HSC
              refine wp_region_quiet_below (by kernel_rfl) (by kernel_rfl) ?_
              repeat (first | go_big_quiet_step (first | (with_reducible exact cA _ _) | (with_reducible exact cB _ _) | (with_reducible exact cC _ _)) | quiet_step (first | (with_reducible exact cA _ _) | (with_reducible exact cB _ _) | (with_reducible exact cC _ _)))
              refine wpQuiet_nil ?_
              intro _ hw'
              obtain ⟨⟨dq, osq⟩, hw''⟩ := hw'
              subst hw''
              have b3 := below_regrown wf dq osq
              have HBN := Lib.hid (HBF.out.trans (b3.mono HBF.out.size))
              have HKN := Lib.hid (HKF.out.below b3)
              have g0 := (b3.cell (p := ⟨w3.heap.size, 0, none⟩) za).trans HA0.out
              have g1 := (b3.cell (p := ⟨w3.heap.size, 1, none⟩) za).trans HA1.out
              generalize grow (redrawn wf dq) osq = w9 at *
              clear cA cB cC xk xa0 xa1 xb0 xb1 xc0 xc1 b3 HKF
              obtain ⟨k0, k1, k2, k3, k4⟩ := HKN.out
              have n1 : ¬ ((s1 : Int) < 0) := by omega
              have n2 : ¬ ((s2 : Int) < 0) := by omega
              have n3 : ¬ ((s3 : Int) < 0) := by omega
              obtain ⟨j1, j2, j3, j4⟩ := HBD.out
              clear HPQ HDM HST
              have hkb : ((K : Int) == 0) = false := by simp; omega
              go_wp2_with fail
              go_ret
              exact ⟨ret_bool (by simpa using HEQ.out), HBN.out⟩
  · have hvb := bne_t hv
    generalize chkS n k a b = v at *
    go_wp2_with fail
    go_ret
    exact ⟨rfl, HB2.out⟩
end Go.Proofs.Ytcocplaloajbdaa
