/- chance, ChanceOf, scaled. -/
import Derived.Test.YtcocplaloajbdaaChc
import Derived.StillTailTactics
namespace Go.Proofs.Ytcocplaloajbdaa
set_option linter.unusedSimpArgs false
set_option linter.unusedVariables false
open Go.RowKit Chance
theorem bin_le (n : Nat) : ∀ g, bin n g ≤ 2 ^ n := by
  induction n with
  | zero => intro g; cases g <;> simp [bin]
  | succ n ih =>
    intro g
    cases g with
    | zero => rw [bin_zero]; exact Nat.one_le_two_pow
    | succ g =>
      show bin n g + bin n (g + 1) ≤ _
      have := ih g
      have := ih (g + 1)
      rw [Nat.pow_succ]
      omega
theorem bin_128 {n : Nat} (h : n ≤ 7) (g : Nat) : bin n g ≤ 128 := Nat.le_trans (bin_le n g) (Nat.le_trans (Nat.pow_le_pow_right (by omega) h) (by decide))
theorem three {b y z : Nat} (hb : b ≤ 128) (hy : y ≤ 10000000) (hz : z ≤ 10000000) : b * y ≤ 1280000000 ∧ b * y * z ≤ 12800000000000000 := by
  have h1 : b * y ≤ 128 * 10000000 := Nat.mul_le_mul hb hy
  exact ⟨by omega, Nat.le_trans (Nat.mul_le_mul h1 hz) (by omega)⟩
theorem acc_le {p q n k : Nat} (hp : p ≤ 10) (hq : q ≤ 10) (hn : n ≤ 7) : ∀ m, m ≤ n + 1 → acc p q n k m ≤ m * 12800000000000000 := by
  intro m
  induction m with
  | zero => intro _; exact Nat.zero_le _
  | succ m ih =>
    intro h
    have h1 := ih (by omega)
    have h2 : term p q n k m ≤ 12800000000000000 := by
      unfold term
      split
      · exact (three (bin_128 hn m) (pow_le hp (by omega)) (pow_le hq (by omega))).2
      · omega
    show acc p q n k m + term p q n k m ≤ _
    omega
theorem bin_div {b N g r : Nat} (hb : b ≤ 128) (hg : g ≤ N) (hN : N ≤ 7) (hr : b * (N - g) / (g + 1) = r) : 0 ≤ (b : Int) * ((N : Int) - (g : Int)) ∧ (b : Int) * ((N : Int) - (g : Int)) ≤ 1000 ∧ wrap64 ((b : Int) * ((N : Int) - (g : Int)) / ((g : Int) + 1)) = (r : Int) ∧ (b : Int) * ((N : Int) - (g : Int)) / ((g : Int) + 1) = (r : Int) := by
  have e : (b : Int) * ((N : Int) - (g : Int)) = ((b * (N - g) : Nat) : Int) := by rw [Int.natCast_mul, Int.natCast_sub hg]
  have h1 : b * (N - g) ≤ 128 * 7 := Nat.mul_le_mul hb (by omega)
  have h2 : (b : Int) * ((N : Int) - (g : Int)) / ((g : Int) + 1) = (r : Int) := by
    rw [e, ← hr, Int.natCast_ediv]; rfl
  have h3 : r ≤ b * (N - g) := by rw [← hr]; exact Nat.div_le_self _ _
  refine ⟨by omega, by omega, ?_, h2⟩
  rw [h2]
  exact IntWalk.wrap64_in _ (by omega)
set_option maxRecDepth 100000 in
set_option maxHeartbeats 2000000 in
theorem chance_any (N K Q D P : Nat) (w : World) (hp : D = P + Q) (hd : D ≤ 10) (hk : K ≤ N) (hn : N ≤ 7) :
    Calls Try.prog 14 #[.int .i64 (N : Int), .int .i64 (K : Int), .agg #[.int .i64 (Q : Int), .int .i64 (D : Int)]] w fun e w' => e = .returned (.tuple #[.int .i64 ((S P Q N K : Nat) : Int), .int .i64 ((D ^ N : Nat) : Int)]) ∧ Below w.heap.size w w' := by
  have e1 : IntKind.i64.wrap ((D : Int) - (Q : Int)) = (P : Int) := by rw [IntWalk.i64_in _ (by omega)]; omega
  have hP : P ≤ 10 := by omega
  have hQ : Q ≤ 10 := by omega
  have HS : Hid (S P Q N K = acc P Q N K (N + 1)) := rfl
  generalize S P Q N K = s at *
  clear hp
  go_enter Try.func14, Try.ntmps14
  go_wp2_with fail
  have HB0 := Lib.hid (below_new w (Obj.cells #[Value.int IntKind.i64 (Q : Int), Value.int IntKind.i64 (D : Int)] 23))
  have c0 : (w.alloc (Obj.cells #[Value.int IntKind.i64 (Q : Int), Value.int IntKind.i64 (D : Int)] 23)).cell? ⟨w.heap.size, 0, none⟩ = some (.int .i64 (Q : Int)) := by simp [go_sem]
  have c1 : (w.alloc (Obj.cells #[Value.int IntKind.i64 (Q : Int), Value.int IntKind.i64 (D : Int)] 23)).cell? ⟨w.heap.size, 1, none⟩ = some (.int .i64 (D : Int)) := by simp [go_sem]
  have hz : w.heap.size < (w.alloc (Obj.cells #[Value.int IntKind.i64 (Q : Int), Value.int IntKind.i64 (D : Int)] 23)).heap.size := by simp
  generalize w.alloc (Obj.cells #[Value.int IntKind.i64 (Q : Int), Value.int IntKind.i64 (D : Int)] 23) = W at *
  go_loopg [8, 9, 10] (N + 1) (fun gg s8 s9 s10 wr => ∃ g : Nat, g ≤ N + 1 ∧ N + 1 - g ≤ gg ∧ s10 = .int .i64 g ∧ s8 = .int .i64 ((bin N g : Nat) : Int) ∧ s9 = .int .i64 ((acc P Q N K g : Nat) : Int) ∧ Hid (Below W.heap.size W wr))
  case atStart => exact ⟨0, Nat.zero_le _, by omega, rfl, by rw [bin_zero]; rfl, rfl, Below.refl _ _⟩
  case round =>
    obtain ⟨g, hg, hgg, rfl, rfl, rfl, BW⟩ := hrel
    have d0 := (BW.out.cell (p := ⟨w.heap.size, 0, none⟩) hz).trans c0
    have d1 := (BW.out.cell (p := ⟨w.heap.size, 1, none⟩) hz).trans c1
    by_cases hlt : g < N + 1
    · have hltz : (g : Int) ≤ (N : Int) := by omega
      have hb := bin_128 hn g
      have hy := pow_le hP (by omega : g ≤ 7)
      have hx := pow_le hQ (by omega : N - g ≤ 7)
      have ha := acc_le (k := K) hP hQ hn g (by omega)
      have HT : Hid (∀ j, j = g + 1 → acc P Q N K j = acc P Q N K g + if K ≤ g then bin N g * P ^ g * Q ^ (N - g) else 0) := (show ∀ j, _ from fun j hj => by rw [hj]; rfl)
      have HBJ : Hid (∀ j, j = g + 1 → bin N j = bin N (g + 1)) := (show ∀ j, _ from fun j hj => by rw [hj])
      have HBN := bin_next N g
      have HPG := Lib.hid (rfl : P ^ g = P ^ g)
      have HC1 : Hid (∀ W', Calls Try.prog 22 #[.int .i64 (P : Int), .int .i64 (g : Int)] W' fun e w' => e = .returned (.int .i64 ((P ^ g : Nat) : Int)) ∧ w' = W') := (show ∀ W', _ from fun W' => (power_any P g W' hP (by omega)).mono fun _ _ h => ⟨h.1, h.2.symm⟩)
      have HC2 : Hid (∀ W', Calls Try.prog 22 #[.int .i64 (Q : Int), .int .i64 ((N - g : Nat) : Int)] W' fun e w' => e = .returned (.int .i64 ((Q ^ (N - g) : Nat) : Int)) ∧ w' = W') := (show ∀ W', _ from fun W' => (power_any Q (N - g) W' hQ (by omega)).mono fun _ _ h => ⟨h.1, h.2.symm⟩)
      generalize bin N (g + 1) = b1 at *
      generalize bin N g = b at *
      generalize acc P Q N K g = a at *
      generalize P ^ g = y at *
      generalize Q ^ (N - g) = z at *
      obtain ⟨t1, t2⟩ := three hb hy hx
      obtain ⟨v1, v2, v3, v4⟩ := bin_div hb (by omega) hn HBN
      have e2 : IntKind.i64.wrap ((N : Int) - (g : Int)) = ((N - g : Nat) : Int) := by rw [IntWalk.i64_in _ (by omega)]; omega
      have e3 : IntKind.i64.wrap ((b : Int) * (y : Int)) = ((b * y : Nat) : Int) := by rw [← Int.natCast_mul]; exact IntWalk.i64_in _ (by omega)
      have e4 : IntKind.i64.wrap (((b * y : Nat) : Int) * (z : Int)) = ((b * y * z : Nat) : Int) := by rw [← Int.natCast_mul]; exact IntWalk.i64_in _ (by omega)
      have e5 : IntKind.i64.wrap ((a : Int) + ((b * y * z : Nat) : Int)) = ((a + b * y * z : Nat) : Int) := by rw [← Int.natCast_add]; exact IntWalk.i64_in _ (by omega)
      have V4 := Lib.hid v4
      have V3 := Lib.hid v3
      clear v3 v4 HBN
      by_cases hK : K ≤ g
      · have hKz : (K : Int) ≤ (g : Int) := by omega
        have HA : Hid (∀ j, j = g + 1 → acc P Q N K j = a + b * y * z) := (show ∀ j, _ from fun j hj => by rw [HT.out j hj, if_pos hK])
        generalize b * y * z = t at *
        generalize b * y = u at *
        clear HT
        go_wp2_with fail
        go_quiet ((go_at_call 22; first | (with_reducible exact Calls.quiet_of_same (HC1.out _)) | (with_reducible exact Calls.quiet_of_same (HC2.out _))))
        have BWN := Lib.hid (below_drewN BW.out nq)
        clear e1 e2 e3 e4 e5 HC1 HC2
        go_wp2_with fail
        go_roundg (N + 1 - (g + 1))
        case measure => omega
        case rel => exact ⟨g + 1, by omega, by omega, by go_num, by rw [V4.out, HBJ.out _ rfl], by rw [HA.out _ rfl]; rfl, BWN.out⟩
      · have hKz : ¬ (K : Int) ≤ (g : Int) := by omega
        have HA : Hid (∀ j, j = g + 1 → acc P Q N K j = a) := (show ∀ j, _ from fun j hj => by rw [HT.out j hj, if_neg hK]; rfl)
        clear HT e1 e2 e3 e4 e5 HC1 HC2
        go_wp2_with fail
        go_roundg (N + 1 - (g + 1))
        case measure => omega
        case rel => exact ⟨g + 1, by omega, by omega, by go_num, by rw [V4.out, HBJ.out _ rfl], by rw [HA.out _ rfl], BW.out⟩
    · have hltz : ¬ (g : Int) ≤ (N : Int) := by omega
      have he : g = N + 1 := by omega
      have HA : Hid (acc P Q N K g = s) := by show _ = _; rw [HS.out, he]
      have hpw : ∀ W', Calls Try.prog 22 #[.int .i64 (D : Int), .int .i64 (N : Int)] W' fun e w' => e = .returned (.int .i64 ((D ^ N : Nat) : Int)) ∧ w' = W' := fun W' => (power_any D N W' hd hn).mono fun _ _ h => ⟨h.1, h.2.symm⟩
      have HX := Lib.hid hpw
      clear hpw
      generalize acc P Q N K g = a at *
      generalize bin N g = b at *
      generalize hdn : D ^ N = dn at *
      have HDN := Lib.hid hdn
      clear hdn e1
      go_wp2_with fail
      refine (HX.out _).mono ?_
      rintro e w5 ⟨rfl, hw5⟩
      subst hw5
      go_wp2_with fail
      go_ret2
      refine ⟨?_, HB0.out.trans (BW.out.mono HB0.out.size)⟩
      rw [HA.out, HDN.out]
      rfl
theorem box2 (w : World) : ∃ W, w.alloc (Obj.cells #[Value.int IntKind.i64 0, Value.int IntKind.i64 0] 29) = W ∧ Below w.heap.size w W ∧ W.heap.size = w.heap.size + 1 ∧
    W.cell? ⟨w.heap.size, 0, none⟩ = some (.int .i64 0) ∧ W.cell? ⟨w.heap.size, 1, none⟩ = some (.int .i64 0) ∧ W.frozen? ⟨w.heap.size, 0, none⟩ = false ∧ W.frozen? ⟨w.heap.size, 1, none⟩ = false :=
  ⟨_, rfl, below_new _ _, by simp, by simp [go_sem], by simp [go_sem], by simp [go_sem], by simp [go_sem]⟩
/-- A box of two cells that may be written. -/
def R2 (W : World) (x : Nat) : Prop := x < W.heap.size ∧ (∃ v, W.cell? ⟨x, 0, none⟩ = some v) ∧ (∃ v, W.cell? ⟨x, 1, none⟩ = some v) ∧ W.frozen? ⟨x, 0, none⟩ = false ∧ W.frozen? ⟨x, 1, none⟩ = false
theorem R2.below {W W' : World} {x : Nat} (h : R2 W x) (hb : Below W.heap.size W W') : R2 W' x := by
  obtain ⟨h0, ⟨v, h1⟩, ⟨u, h2⟩, h3, h4⟩ := h
  exact ⟨Nat.lt_of_lt_of_le h0 hb.size, ⟨v, (hb.cell (p := ⟨x, _, none⟩) h0).trans h1⟩, ⟨u, (hb.cell (p := ⟨x, _, none⟩) h0).trans h2⟩, (hb.frozen (p := ⟨x, _, none⟩) h0).trans h3, (hb.frozen (p := ⟨x, _, none⟩) h0).trans h4⟩
set_option maxRecDepth 100000 in
set_option maxHeartbeats 2000000 in
theorem chanceOf_any (N K Q D P : Nat) (w : World) (hp : D = P + Q) (hd : D ≤ 10) (h1 : 1 ≤ D) (hk : K ≤ N) (hn : N ≤ 7) (hg : Nat.gcd Q D = 1) (X Y : Nat) (hX : S P Q N K / Nat.gcd (S P Q N K) (D ^ N) = X) (hY : D ^ N / Nat.gcd (S P Q N K) (D ^ N) = Y) :
    Calls Try.prog 7 #[.agg #[.int .i64 (N : Int), .int .i64 (K : Int), .int .i64 (Q : Int), .int .i64 (D : Int)]] w fun e w' => e = .returned (.tuple #[.agg #[.int .i64 (X : Int), .int .i64 (Y : Int)], .int .i64 0]) ∧ Below w.heap.size w w' := by
  have hD := pow_le hd hn
  have hD0 : 1 ≤ D ^ N := Nat.one_le_pow _ _ (by omega)
  have hSl : S P Q N K ≤ D ^ N := by rw [hp]; exact S_le _ _ _ _
  have HCH := Lib.hid (fun w => chance_any N K Q D P w hp hd hk hn)
  have hg0 : 1 ≤ Nat.gcd (S P Q N K) (D ^ N) := Nat.gcd_pos_of_pos_right _ (by omega)
  have hgl : Nat.gcd (S P Q N K) (D ^ N) ≤ D ^ N := Nat.le_of_dvd (by omega) (Nat.gcd_dvd_right _ _)
  have HDV := Lib.hid (fun w => divisor_any (S P Q N K : Nat) (D ^ N : Nat) w (by omega) (by omega) (by omega) (by omega))
  have hgi : Int.gcd ((S P Q N K : Nat) : Int) ((D ^ N : Nat) : Int) = Nat.gcd (S P Q N K) (D ^ N) := by unfold Int.gcd; simp
  rw [hgi] at HDV
  have hx1 : X ≤ S P Q N K := by rw [← hX]; exact Nat.div_le_self _ _
  have hy1 : Y ≤ D ^ N := by rw [← hY]; exact Nat.div_le_self _ _
  clear hgi
  generalize Nat.gcd (S P Q N K) (D ^ N) = g at *
  generalize S P Q N K = s at *
  generalize D ^ N = d at *
  have q1 : ((s : Int) / (g : Int)) = (X : Int) := by rw [← hX]; rfl
  have q2 : ((d : Int) / (g : Int)) = (Y : Int) := by rw [← hY]; rfl
  have q3 : IntKind.i64.wrap (X : Int) = (X : Int) := IntWalk.i64_in _ (by omega)
  have q4 : IntKind.i64.wrap (Y : Int) = (Y : Int) := IntWalk.i64_in _ (by omega)
  have q5 : (s : Int).tdiv (g : Int) = (X : Int) := by rw [Int.tdiv_eq_ediv_of_nonneg (by omega)]; exact q1
  have q6 : (d : Int).tdiv (g : Int) = (Y : Int) := by rw [Int.tdiv_eq_ediv_of_nonneg (by omega)]; exact q2
  clear hX hY
  have hgz : ¬ (g : Int) = 0 := by omega
  have hgn : ¬ g = 0 := by omega
  have hgb : ((g : Int) == 0) = false := by simp; omega
  have hW1 : win (N : Int) 0 17 = true := win_t.2 (by omega)
  have hW2 : win (K : Int) 0 (N : Int) = true := win_t.2 (by omega)
  have HW1 := Lib.hid hW1
  have HW2 := Lib.hid hW2
  clear hW1 hW2
  obtain ⟨W, hW, hB0, hz, c0, c1, c2, c3⟩ := box4 w N K Q D
  obtain ⟨W1, hW1, hB1, hz1, r0, r1, f0, f1⟩ := box2 W
  have K1 : Keeps4 W1 w.heap.size N K Q D := Keeps4.below (W := W) ⟨by omega, c0, c1, c2, c3⟩ hB1
  obtain ⟨k0, k1, k2, k3, k4⟩ := K1
  have hR : R2 W1 W.heap.size := ⟨by omega, ⟨_, r0⟩, ⟨_, r1⟩, f0, f1⟩
  have HR1 := Lib.hid hR
  have HB1 := Lib.hid (hB0.trans (hB1.mono hB0.size))
  have HK1 : Hid (Keeps4 W1 w.heap.size N K Q D) := ⟨k0, k1, k2, k3, k4⟩
  have HG := Lib.hid hg
  have hqd : Q ≤ D := by omega
  clear hR hB0 hB1 c0 c1 c2 c3 r0 r1 f0 f1 hp hg
  go_enter Try.func7, Try.ntmps7
  go_wp2_with fail
  refine (within12_any _ _ _ _).mono ?_
  rintro e w2 ⟨rfl, rfl⟩
  rw [HW1.out]
  go_wp2_with fail
  refine (within12_any _ _ _ _).mono ?_
  rintro e w2 ⟨rfl, rfl⟩
  rw [HW2.out]
  go_wp2_with fail
  refine (chance0_any Q D _ HG.out hqd h1 hd).mono ?_
  rintro e w2 ⟨rfl, b2⟩
  have HB2 := Lib.hid (HB1.out.trans (b2.mono HB1.out.size))
  have HK2 := Lib.hid (HK1.out.below b2)
  have HR2 := Lib.hid (HR1.out.below b2)
  obtain ⟨m0, m1, m2, m3, m4⟩ := HK2.out
  clear k0 k1 k2 k3 k4 b2 HB1 HK1 HR1
  go_wp2_with fail
  refine (HCH.out _).mono ?_
  rintro e w3 ⟨rfl, b3⟩
  have HB3 := Lib.hid (HB2.out.trans (b3.mono HB2.out.size))
  have HR3 := Lib.hid (HR2.out.below b3)
  clear m0 m1 m2 m3 m4 b3 HB2 HK2 HR2 HCH
  go_wp2_with fail
  refine (HDV.out _).mono ?_
  rintro e w4 ⟨rfl, b4⟩
  have HB4 := Lib.hid (HB3.out.trans (b4.mono HB3.out.size))
  have HR4 := Lib.hid (HR3.out.below b4)
  obtain ⟨n0, ⟨v0, n1⟩, ⟨v1, n2⟩, n3, n4⟩ := HR4.out
  clear b4 HB3 HR3 HDV
  clear hW hW1
  have HZ := Lib.hid hz
  rw [hz] at n0 n1 n2 n3 n4
  clear hz hz1
  go_wp2_with fail
  go_still_tail 7, (by kernel_rfl)
  change wpList _ _ _ _ _ w4.drew
  go_wp2_with fail
  exact bodyPost_ret (v := .tuple #[.agg #[.int .i64 (X : Int), .int .i64 (Y : Int)], .int .i64 0]) (by simp [results, Try.results7, go_sem, n0, n1, n2]) rfl ⟨rfl, ((HB4.out.setCell (by simp) _).setCell (by simp) _).drew⟩
theorem scaled_any (x y c : Nat) (w : World) (hy : 1 ≤ y) (hyc : y ≤ c) (hxy : x ≤ y) (hd : y ∣ c) (hc : c ≤ 10000000) : Calls Try.prog 8 #[.agg #[.int .i64 (x : Int), .int .i64 (y : Int)], .int .i64 (c : Int)] w fun e w' => e = .returned (.int .i64 ((x * (c / y) : Nat) : Int)) ∧ Below w.heap.size w w' := by
  have hW1 : win (y : Int) 1 (c : Int) = true := win_t.2 (by omega)
  have hW2 : win (x : Int) 0 (y : Int) = true := win_t.2 (by omega)
  have HW1 := Lib.hid hW1
  have HW2 := Lib.hid hW2
  have hq1 : x * (c / y) ≤ y * (c / y) := Nat.mul_le_mul_right _ hxy
  have hq2 : y * (c / y) ≤ c := Nat.mul_div_le _ _
  have HM := Lib.hid (fun w => mod_any c y w (by omega) hy (by omega))
  have HF := Lib.hid (fun w => floor_any c y w (by omega) hy (by omega))
  have h0 : c % y = 0 := Nat.mod_eq_zero_of_dvd hd
  rw [h0] at HM
  clear hW1 hW2 h0
  generalize c / y = q at *
  have hq3 : x * q ≤ c := by omega
  have e1 : IntKind.i64.wrap ((x : Int) * (q : Int)) = ((x * q : Nat) : Int) := by rw [← Int.natCast_mul]; exact IntWalk.i64_in _ (by omega)
  clear hq1 hq2
  generalize x * q = r at *
  go_enter Try.func8, Try.ntmps8
  go_wp2_with fail
  have HB0 := Lib.hid (below_new w (Obj.cells #[Value.int IntKind.i64 (x : Int), Value.int IntKind.i64 (y : Int)] 29))
  have c0 : (w.alloc (Obj.cells #[Value.int IntKind.i64 (x : Int), Value.int IntKind.i64 (y : Int)] 29)).cell? ⟨w.heap.size, 0, none⟩ = some (.int .i64 (x : Int)) := by simp [go_sem]
  have c1 : (w.alloc (Obj.cells #[Value.int IntKind.i64 (x : Int), Value.int IntKind.i64 (y : Int)] 29)).cell? ⟨w.heap.size, 1, none⟩ = some (.int .i64 (y : Int)) := by simp [go_sem]
  generalize w.alloc (Obj.cells #[Value.int IntKind.i64 (x : Int), Value.int IntKind.i64 (y : Int)] 29) = W at *
  refine (within6_any _ _ _ _).mono ?_
  rintro e w2 ⟨rfl, rfl⟩
  rw [HW1.out]
  go_wp2_with fail
  refine (within6_any _ _ _ _).mono ?_
  rintro e w2 ⟨rfl, rfl⟩
  rw [HW2.out]
  go_wp2_with fail
  refine (HM.out _).mono ?_
  rintro e w2 ⟨rfl, hw⟩
  subst hw
  go_wp2_with fail
  go_quiet ((go_at_call 17; exact Calls.quiet_of_same ((HF.out _).mono fun _ _ h => ⟨h.1, h.2.symm⟩)))
  go_wp2_with fail
  go_ret
  exact ⟨rfl, below_drewN HB0.out _⟩
end Go.Proofs.Ytcocplaloajbdaa
