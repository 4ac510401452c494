/- The example of the chapter: the cents of a poster. -/
import Derived.Test.YtcocplaloajbdaaNam
import Derived.LoopN
import Derived.Lib.QuietBelow
namespace Go.Proofs.Ytcocplaloajbdaa
set_option linter.unusedSimpArgs false
set_option linter.unusedVariables false
open Go.RowKit Go.Sort
def sPo : ByteArray := { data := #[112, 111, 115, 116, 101, 114] }
def sRe : ByteArray := { data := #[114, 101, 100] }
def sBl : ByteArray := { data := #[98, 108, 117, 101] }
def posterV (b : Nat) : Array Value := #[.string sPo, .int .i64 3, .int .i64 100, .int .i64 110, .slice (some ⟨b, 0, none⟩) 2 2, .int .i64 30, .int .i64 600]
def Two (w : World) (b : Nat) : Prop := b < w.heap.size ∧ w.cell? ⟨b, 0, none⟩ = some (.string sRe) ∧ w.cell? ⟨b, 1, none⟩ = some (.string sBl)
theorem Two.below {w w' : World} {b : Nat} (h : Two w b) (hb : Below w.heap.size w w') : Two w' b := by
  obtain ⟨h0, h1, h2⟩ := h
  exact ⟨Nat.lt_of_lt_of_le h0 hb.size, (hb.cell (p := ⟨b, _, none⟩) h0).trans h1, (hb.cell (p := ⟨b, _, none⟩) h0).trans h2⟩
def PosterPost (w : World) (e : Ending) (w' : World) : Prop := ∃ b, e = .returned (.agg (posterV b)) ∧ Two w' b ∧ Below w.heap.size w w'
set_option maxHeartbeats 1000000 in
theorem poster_any (w : World) : Calls Try.prog 10 #[] w (PosterPost w) := by
  go_enter Try.func10, Try.ntmps10
  go_wp2_with fail
  exact bodyPost_ret (v := .agg (posterV (w.heap.size + 1))) (by simp [results, Try.results10, go_sem, posterV, sPo]) rfl ⟨_, rfl, ⟨by simp, by simp [go_sem, sRe], by simp [go_sem, sBl]⟩, (below_new _ _).alloc (by simp) _⟩
theorem name_po (w : World) : Calls Try.prog 23 #[.string sPo] w fun e w' => e = .returned (.bool true) ∧ Below w.heap.size w w' := isName_yes sPo w (by decide) (by decide) (by decide)
theorem name_re (w : World) : Calls Try.prog 23 #[.string sRe] w fun e w' => e = .returned (.bool true) ∧ Below w.heap.size w w' := isName_yes sRe w (by decide) (by decide) (by decide)
theorem name_bl (w : World) : Calls Try.prog 23 #[.string sBl] w fun e w' => e = .returned (.bool true) ∧ Below w.heap.size w w' := isName_yes sBl w (by decide) (by decide) (by decide)
/-- The box of the poster. -/
def P7 (W : World) (x b : Nat) : Prop := x < W.heap.size ∧ W.cell? ⟨x, 0, none⟩ = some (.string sPo) ∧ W.cell? ⟨x, 1, none⟩ = some (.int .i64 3) ∧ W.cell? ⟨x, 2, none⟩ = some (.int .i64 100) ∧ W.cell? ⟨x, 3, none⟩ = some (.int .i64 110) ∧
  W.cell? ⟨x, 4, none⟩ = some (.slice (some ⟨b, 0, none⟩) 2 2) ∧ W.cell? ⟨x, 5, none⟩ = some (.int .i64 30) ∧ W.cell? ⟨x, 6, none⟩ = some (.int .i64 600)
theorem P7.below {W W' : World} {x b : Nat} (h : P7 W x b) (hb : Below W.heap.size W W') : P7 W' x b := by
  obtain ⟨h, h0, h1, h2, h3, h4, h5, h6⟩ := h
  exact ⟨Nat.lt_of_lt_of_le h hb.size, (hb.cell (p := ⟨x, _, none⟩) h).trans h0, (hb.cell (p := ⟨x, _, none⟩) h).trans h1, (hb.cell (p := ⟨x, _, none⟩) h).trans h2, (hb.cell (p := ⟨x, _, none⟩) h).trans h3, (hb.cell (p := ⟨x, _, none⟩) h).trans h4, (hb.cell (p := ⟨x, _, none⟩) h).trans h5, (hb.cell (p := ⟨x, _, none⟩) h).trans h6⟩
theorem boxP (w : World) (b : Nat) : ∃ W, w.alloc (Obj.cells #[.string sPo, .int .i64 3, .int .i64 100, .int .i64 110, .slice (some ⟨b, 0, none⟩) 2 2, .int .i64 30, .int .i64 600] 39) = W ∧ Below w.heap.size w W ∧ W.heap.size = w.heap.size + 1 ∧ P7 W w.heap.size b :=
  ⟨_, rfl, below_new _ _, by simp, by simp, by simp [go_sem], by simp [go_sem], by simp [go_sem], by simp [go_sem], by simp [go_sem], by simp [go_sem], by simp [go_sem]⟩
theorem win_eq {n lo hi : Int} (h : lo ≤ n ∧ n ≤ hi) : win n lo hi = true := win_t.2 h
theorem w12_t {n lo hi : Int} (h : lo ≤ n ∧ n ≤ hi) (w : World) : Calls Try.prog 12 #[.int .i64 n, .int .i64 lo, .int .i64 hi] w fun e w' => e = .returned (.bool true) ∧ w = w' :=
  (within12_any n lo hi w).mono fun _ _ h' => ⟨by rw [h'.1, win_eq h], h'.2⟩
set_option maxRecDepth 100000 in
set_option maxHeartbeats 4000000 in
theorem checkRun_any (b : Nat) (w : World) (ht : Two w b) : Calls Try.prog 18 #[.agg #[.string sPo, .int .i64 3, .int .i64 100, .int .i64 110, .slice (some ⟨b, 0, none⟩) 2 2, .int .i64 30, .int .i64 600]] w fun e w' => e = .returned (.int .i64 0) ∧ Below w.heap.size w w' := by
  obtain ⟨W, hW, hB0, hz, hP⟩ := boxP w b
  have HB0 := Lib.hid hB0
  have HP0 := Lib.hid hP
  have HT0 := Lib.hid (ht.below hB0)
  obtain ⟨p, p0, p1, p2, p3, p4, p5, p6⟩ := hP
  clear hB0 ht
  go_enter Try.func18, Try.ntmps18
  go_wp2_with fail
  refine (name_po _).mono ?_
  rintro e w1 ⟨rfl, b1⟩
  have HB1 := Lib.hid (HB0.out.trans (b1.mono HB0.out.size))
  have HP1 := Lib.hid (HP0.out.below b1)
  have HT1 := Lib.hid (HT0.out.below b1)
  clear p p0 p1 p2 p3 p4 p5 p6 hW hz b1 HP0 HT0 HB0
  obtain ⟨p, p0, p1, p2, p3, p4, p5, p6⟩ := HP1.out
  go_wp2_with (go_at_call 12; refine (w12_t (by omega) _).mono ?_; rintro e w' ⟨rfl, rfl⟩)
  go_loopg [42] 2 (fun gg s42 wr => ∃ k : Nat, k ≤ 2 ∧ 2 - k ≤ gg ∧ s42 = .int .i64 k ∧ Hid (Below w1.heap.size w1 wr))
  case atStart => exact ⟨0, by omega, by omega, rfl, Below.refl _ _⟩
  case round =>
    clear p p0 p1 p2 p3 p4 p5 p6
    obtain ⟨k, hk, hg, rfl, BW⟩ := hrel
    have HP2 := Lib.hid (HP1.out.below BW.out)
    have HT2 := Lib.hid (HT1.out.below BW.out)
    obtain ⟨q, q0, q1⟩ := HT2.out
    rcases (show k = 0 ∨ k = 1 ∨ k = 2 by omega) with rfl | rfl | rfl
    · go_wp2_with fail
      refine (name_re _).mono ?_
      rintro e w3 ⟨rfl, b3⟩
      have HB3 := Lib.hid (BW.out.trans (b3.mono BW.out.size))
      have HP3 := Lib.hid (HP2.out.below b3)
      obtain ⟨p, p0, p1, p2, p3, p4, p5, p6⟩ := HP3.out
      clear b3 q q0 q1
      go_wp2_with fail
      refine (contains_no (fun _ => sRe) _ _ _ 0 _ _ (fun j hj => absurd hj (Nat.not_lt_zero _)) (fun j hj => absurd hj (Nat.not_lt_zero _)) (by omega)).mono ?_
      rintro e w' ⟨rfl, rfl⟩
      go_wp2_with fail
      go_roundg 1
      case measure => omega
      case rel => exact ⟨1, by omega, by omega, rfl, HB3.out⟩
    · go_wp2_with fail
      refine (name_bl _).mono ?_
      rintro e w3 ⟨rfl, b3⟩
      have HB3 := Lib.hid (BW.out.trans (b3.mono BW.out.size))
      have HP3 := Lib.hid (HP2.out.below b3)
      obtain ⟨p, p0, p1, p2, p3, p4, p5, p6⟩ := HP3.out
      obtain ⟨q, q0, q1⟩ := HT2.out.below b3
      clear b3
      go_wp2_with fail
      refine (contains_no (fun _ => sRe) _ _ _ 1 _ _ (fun j hj => by obtain rfl : j = 0 := (by omega); exact q0) (fun j hj => by rw [ByteArray.toList_eq, ByteArray.toList_eq]; decide) (by omega)).mono ?_
      rintro e w' ⟨rfl, rfl⟩
      go_wp2_with fail
      go_roundg 0
      case measure => omega
      case rel => exact ⟨2, by omega, by omega, rfl, HB3.out⟩
    · obtain ⟨p, p0, p1, p2, p3, p4, p5, p6⟩ := HP2.out
      go_wp2_with fail
      refine ((isMinutes_any _ _).mono (R' := fun e w' => e = .returned (.bool true) ∧ wr = w') (fun _ _ h => ⟨by rw [h.1]; rfl, h.2⟩)).mono ?_
      rintro e w' ⟨rfl, rfl⟩
      go_wp2_with (go_at_call 12; refine (w12_t (by omega) _).mono ?_; rintro e w' ⟨rfl, rfl⟩)
      go_ret
      exact ⟨rfl, HB1.out.trans (BW.out.mono HB1.out.size)⟩
theorem up_any (n b : Nat) (w : World) (hn : n ≤ 100000000) (hb : 1 ≤ b) (hb' : b ≤ 100000000) : Calls Try.prog 19 #[.int .i64 (n : Int), .int .i64 (b : Int)] w fun e w' => e = .returned (.int .i64 (((n + b - 1) / b : Nat) : Int)) ∧ w = w' := by
  have hbz : ¬ (b : Int) = 0 := by omega
  have hbn : ¬ b = 0 := by omega
  have h1 : (((n + b - 1) / b : Nat) : Int) = ((n : Int) + (b : Int) - 1) / (b : Int) := by rw [Int.natCast_ediv]; congr 1; omega
  have h2 : 0 ≤ ((n : Int) + (b : Int) - 1) / (b : Int) := Int.ediv_nonneg (by omega) (by omega)
  have h3 : ((n : Int) + (b : Int) - 1) / (b : Int) ≤ (n : Int) + (b : Int) - 1 := Int.ediv_le_self _ (by omega)
  have H := Lib.hid h1
  clear h1
  go_enter Try.func19, Try.ntmps19
  go_wp2_with fail
  go_ret
  exact ⟨ret_int (by rw [H.out]), rfl⟩
theorem minutes_any (b : Nat) (w : World) : Calls Try.prog 20 #[.agg #[.string sPo, .int .i64 3, .int .i64 100, .int .i64 110, .slice (some ⟨b, 0, none⟩) 2 2, .int .i64 30, .int .i64 600]] w fun e w' => e = .returned (.int .i64 82) ∧ Below w.heap.size w w' := by
  obtain ⟨W, hW, hB0, hz, hP⟩ := boxP w b
  have HB0 := Lib.hid hB0
  obtain ⟨p, p0, p1, p2, p3, p4, p5, p6⟩ := hP
  have hu : ∀ W', Calls Try.prog 19 #[.int .i64 13200, .int .i64 600] W' fun e w' => e = .returned (.int .i64 22) ∧ w' = W' := fun W' => (up_any 13200 600 W' (by omega) (by omega) (by omega)).mono fun _ _ h => ⟨h.1, h.2.symm⟩
  clear hB0
  go_enter Try.func20, Try.ntmps20
  go_wp2_with fail
  clear hz
  go_quiet ((go_at_call 19; exact Calls.quiet_of_same (hu _)))
  go_wp2_with fail
  go_ret
  exact ⟨rfl, below_drewN HB0.out _⟩
set_option maxRecDepth 100000 in
set_option maxHeartbeats 4000000 in
theorem estimate_any (b : Nat) (w : World) (ht : Two w b) : Calls Try.prog 9 #[.agg #[.string sPo, .int .i64 3, .int .i64 100, .int .i64 110, .slice (some ⟨b, 0, none⟩) 2 2, .int .i64 30, .int .i64 600], .agg #[.int .i64 5, .int .i64 100, .int .i64 3000]] w fun e w' => e = .returned (.tuple #[.int .i64 4850, .int .i64 0]) ∧ Below w.heap.size w w' := by
  obtain ⟨W, hW, hB0, hz, hP⟩ := boxP w b
  have hPn : ∃ W1, W.alloc (Obj.cells #[.int .i64 5, .int .i64 100, .int .i64 3000] 42) = W1 ∧ Below W.heap.size W W1 ∧ W.heap.size < W1.heap.size ∧ W1.cell? ⟨W.heap.size, 0, none⟩ = some (.int .i64 5) ∧ W1.cell? ⟨W.heap.size, 1, none⟩ = some (.int .i64 100) ∧ W1.cell? ⟨W.heap.size, 2, none⟩ = some (.int .i64 3000) :=
    ⟨_, rfl, below_new _ _, by simp, by simp [go_sem], by simp [go_sem], by simp [go_sem]⟩
  obtain ⟨W1, hW1, hB1, r, r0, r1, r2⟩ := hPn
  have HB1 := Lib.hid (hB0.trans (hB1.mono hB0.size))
  have HP1 := Lib.hid (hP.below hB1)
  have HT1 := Lib.hid ((ht.below hB0).below hB1)
  rw [hz] at r r0 r1 r2
  obtain ⟨p, p0, p1, p2, p3, p4, p5, p6⟩ := HP1.out
  clear hB0 hB1 ht hP
  go_enter Try.func9, Try.ntmps9
  go_wp2_with fail
  clear hW hW1 hz
  refine (checkRun_any b _ HT1.out).mono ?_
  rintro e w2 ⟨rfl, b2⟩
  have HB2 := Lib.hid (HB1.out.trans (b2.mono HB1.out.size))
  have HP2 := Lib.hid (HP1.out.below b2)
  have s0 := (b2.cell (p := ⟨w.heap.size + 1, 0, none⟩) r).trans r0
  have s1 := (b2.cell (p := ⟨w.heap.size + 1, 1, none⟩) r).trans r1
  have s2 := (b2.cell (p := ⟨w.heap.size + 1, 2, none⟩) r).trans r2
  clear p p0 p1 p2 p3 p4 p5 p6 r r0 r1 r2 b2 HB1 HP1 HT1
  obtain ⟨p, p0, p1, p2, p3, p4, p5, p6⟩ := HP2.out
  have j0 : ∀ w, (Instr.index 49 (Value.agg #[.int .i64 5, .int .i64 100, .int .i64 3000]) (.int .i64 0)).run Try.prog w = .ok (.int .i64 5) w := fun _ => by kernel_rfl
  have j1 : ∀ w, (Instr.index 49 (Value.agg #[.int .i64 5, .int .i64 100, .int .i64 3000]) (.int .i64 1)).run Try.prog w = .ok (.int .i64 100) w := fun _ => by kernel_rfl
  have j2 : ∀ w, (Instr.index 49 (Value.agg #[.int .i64 5, .int .i64 100, .int .i64 3000]) (.int .i64 2)).run Try.prog w = .ok (.int .i64 3000) w := fun _ => by kernel_rfl
  go_wp2_with fail
  go_loopg [21] 3 (fun gg s21 wr => ∃ k : Nat, k ≤ 3 ∧ 3 - k ≤ gg ∧ s21 = .int .i64 k ∧ w2 = wr)
  case atStart => exact ⟨0, by omega, by omega, rfl, rfl⟩
  case round =>
    obtain ⟨k, hk, hg, rfl, rfl⟩ := hrel
    rcases (show k = 0 ∨ k = 1 ∨ k = 2 ∨ k = 3 by omega) with rfl | rfl | rfl | rfl
    · go_wp2_with (go_at_call 12; refine (w12_t (by omega) _).mono ?_; rintro e w' ⟨rfl, rfl⟩)
      go_roundg 2
      case measure => omega
      case rel => exact ⟨1, by omega, by omega, rfl, rfl⟩
    · go_wp2_with (go_at_call 12; refine (w12_t (by omega) _).mono ?_; rintro e w' ⟨rfl, rfl⟩)
      go_roundg 1
      case measure => omega
      case rel => exact ⟨2, by omega, by omega, rfl, rfl⟩
    · go_wp2_with (go_at_call 12; refine (w12_t (by omega) _).mono ?_; rintro e w' ⟨rfl, rfl⟩)
      go_roundg 0
      case measure => omega
      case rel => exact ⟨3, by omega, by omega, rfl, rfl⟩
    · have hu : ∀ W', Calls Try.prog 19 #[.int .i64 246000, .int .i64 60] W' fun e w' => e = .returned (.int .i64 4100) ∧ w' = W' := fun W' => (up_any 246000 60 W' (by omega) (by omega) (by omega)).mono fun _ _ h => ⟨h.1, h.2.symm⟩
      have HM := Lib.hid (minutes_any b)
      clear j0 j1 j2
      go_wp2_with fail
      have x0 := cell_regrown p0
      have x1 := cell_regrown p1
      have x2 := cell_regrown p2
      have x3 := cell_regrown p3
      have x4 := cell_regrown p4
      have x5 := cell_regrown p5
      have x6 := cell_regrown p6
      have y0 := cell_regrown s0
      have y1 := cell_regrown s1
      have y2 := cell_regrown s2
      have cN : ∀ d os, Calls Try.prog 20 #[.agg #[.string sPo, .int .i64 3, .int .i64 100, .int .i64 110, .slice (some ⟨b, 0, none⟩) 2 2, .int .i64 30, .int .i64 600]] (grow (redrawn w2 d) os) fun e w'' => e = .returned (.int .i64 82) ∧ ∃ p : Regrown, w'' = grow (redrawn w2 p.d) p.os := fun d os => Calls.regrown_of (HM.out (grow (redrawn w2 d) os))
      have cU : ∀ d os, Calls Try.prog 19 #[.int .i64 246000, .int .i64 60] (grow (redrawn w2 d) os) fun e w'' => e = .returned (.int .i64 4100) ∧ ∃ p : Regrown, w'' = grow (redrawn w2 p.d) p.os := fun d os => Calls.regrown_of ((hu (grow (redrawn w2 d) os)).mono fun _ _ h => ⟨h.1, by rw [h.2]; exact Below.refl _ _⟩)
      clear hu p p0 p1 p2 p3 p4 p5 p6 s0 s1 s2
      refine wp_region_quiet_below (by kernel_rfl) (by kernel_rfl) ?_
      repeat (first | go_big_quiet_step (first | exact cN _ _ | exact cU _ _) | quiet_step (first | exact cN _ _ | exact cU _ _))
      refine wpQuiet_nil ?_
      intro _ hw'
      obtain ⟨⟨dq, osq⟩, hw''⟩ := hw'
      subst hw''
      have b3 := below_regrown w2 dq osq
      generalize grow (redrawn w2 dq) osq = w3 at *
      have BWN := Lib.hid (HB2.out.trans (b3.mono HB2.out.size))
      clear cN cU x0 x1 x2 x3 x4 x5 x6 y0 y1 y2 b3
      go_wp2_with fail
      go_ret2
      exact ⟨rfl, BWN.out⟩
theorem printed_any (w : World) : Calls Try.prog 4 #[] w fun e w' => e = .returned (.bool true) ∧ Below w.heap.size w w' := by
  go_enter Try.func4, Try.ntmps4
  go_wp2_with fail
  refine (poster_any _).mono ?_
  rintro e w1 ⟨b, rfl, ht, b1⟩
  have HB1 := Lib.hid b1
  have HT := Lib.hid ht
  clear b1 ht
  unfold posterV
  go_wp2_with fail
  refine (estimate_any b _ HT.out).mono ?_
  rintro e w2 ⟨rfl, b2⟩
  have HB2 := Lib.hid (HB1.out.trans (b2.mono HB1.out.size))
  clear b2
  go_wp2_with fail
  go_ret
  exact ⟨rfl, HB2.out⟩
end Go.Proofs.Ytcocplaloajbdaa
