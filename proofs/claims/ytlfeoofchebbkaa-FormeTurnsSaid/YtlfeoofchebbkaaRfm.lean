/- ref.CheckForme computes what CheckForme computes. -/
import Derived.Test.YtlfeoofchebbkaaRfa
import Derived.StillTailTactics
namespace Go.Proofs.Ytlfeoofchebbkaa
set_option linter.unusedSimpArgs false
set_option linter.unusedVariables false
open Go.RowKit
set_option maxRecDepth 100000 in
set_option maxHeartbeats 4000000 in
theorem refForme_main (f : Forme) (n : Nat) (A : Option Addr) (b off c : Nat) (w : World) (hA : Lies A n w.heap.size b off) (hps : PsAt w b off f.ps) (hnm : NameOk f.ps) (hn : f.ps.length = n) (hl : n ≤ 60) (hW : win f.W 1 4000 = true) (hH : win f.H 1 4000 = true) :
    Calls Try.prog 43 #[.agg #[.int .i64 f.W, .int .i64 f.H, .slice A n c]] w fun e w' => e = .returned (.tuple #[.int .i64 (fstE (pErr f) n).1, .int .i64 (fstE (pErr f) n).2]) ∧ Below w.heap.size w w' := by
  have hlz : ¬ (60 : Int) < (n : Int) := by omega
  have HN := Lib.hid hn
  clear hn
  obtain ⟨w1, w2⟩ := win_t.1 hW
  obtain ⟨w3, w4⟩ := win_t.1 hH
  go_enter Try.func43, Try.ntmps43
  go_wp2_with (go_at_call 49; refine (withinB_any _ _ _ _).mono ?_; rintro e w' ⟨rfl, rfl⟩)
  have hB : Below w.heap.size w (w.alloc (Obj.cells #[Value.int IntKind.i64 f.W, Value.int IntKind.i64 f.H, Value.slice A n c] 37)) := (Below.refl _ _).alloc (Nat.le_refl _) _
  have hz : (w.alloc (Obj.cells #[Value.int IntKind.i64 f.W, Value.int IntKind.i64 f.H, Value.slice A n c] 37)).heap.size = w.heap.size + 1 := by simp
  have q0 : (w.alloc (Obj.cells #[Value.int IntKind.i64 f.W, Value.int IntKind.i64 f.H, Value.slice A n c] 37)).cell? ⟨w.heap.size, 0, none⟩ = some (.int .i64 f.W) := by simp
  have q1 : (w.alloc (Obj.cells #[Value.int IntKind.i64 f.W, Value.int IntKind.i64 f.H, Value.slice A n c] 37)).cell? ⟨w.heap.size, 1, none⟩ = some (.int .i64 f.H) := by simp
  have q2 : (w.alloc (Obj.cells #[Value.int IntKind.i64 f.W, Value.int IntKind.i64 f.H, Value.slice A n c] 37)).cell? ⟨w.heap.size, 2, none⟩ = some (.slice A n c) := by simp
  generalize w.alloc (Obj.cells #[Value.int IntKind.i64 f.W, Value.int IntKind.i64 f.H, Value.slice A n c] 37) = W0 at *
  have HZ := Lib.hid hz
  clear hz
  go_loopg [4, 5, 6] n (fun gg s4 _ _ wr => ∃ k : Nat, k ≤ n ∧ n - k ≤ gg ∧ s4 = .int .i64 k ∧ Hid (Below (w.heap.size + 1) W0 wr) ∧ Hid (∀ j, j < k → pErr f j = 0))
  case atStart => exact ⟨0, Nat.zero_le _, by omega, rfl, Below.refl _ _, fun j hj => absurd hj (Nat.not_lt_zero _)⟩
  case round =>
    obtain ⟨k, hk, hg, rfl, BW, E⟩ := hrel
    have r0 := (BW.out.cell (p := ⟨w.heap.size, 0, none⟩) (by simp)).trans q0
    have r1 := (BW.out.cell (p := ⟨w.heap.size, 1, none⟩) (by simp)).trans q1
    have r2 := (BW.out.cell (p := ⟨w.heap.size, 2, none⟩) (by simp)).trans q2
    clear q0 q1 q2
    have BW' : Hid (Below w.heap.size w wr) := hB.trans (BW.out.mono (by omega))
    by_cases hlt : k < n
    · have hltz : (k : Int) < (n : Int) := by omega
      obtain ⟨rfl, hb⟩ := hA (by omega)
      obtain ⟨c0, c1, c2, c3, c4, c5⟩ := (hps k (by have := HN.out; omega)).below BW'.out hb
      have hwr : w.heap.size < wr.heap.size := by have := BW.out.size; have := HZ.out; omega
      have HFF := Lib.hid (find_first f.ps k (by have := HN.out; omega))
      generalize hy : gp f.ps k = y at *
      have HY := Lib.hid hy
      clear hy
      have hsz : y.name.size ≤ 9223372036854775807 := by rw [← HY.out]; exact hnm k (by have := HN.out; omega)
      have F0 : Hid (FAt (wr.alloc (Obj.cells (pcs y) 70)) w.heap.size f (.slice (some ⟨b, off, none⟩) n c)) := FAt.below ⟨r0, r1, r2⟩ (below_new _ _) hwr
      have P0 : Hid (PAt (wr.alloc (Obj.cells (pcs y) 70)) wr.heap.size 0 y) := PAt_new _ _ _
      have L0 : Hid (PsAt (wr.alloc (Obj.cells (pcs y) 70)) b off f.ps) := (hps.below BW'.out hb).below (below_new _ _) (by omega)
      have X0 : Hid (Below (w.heap.size + 1) W0 (wr.alloc (Obj.cells (pcs y) 70))) := BW.out.alloc (by omega) _
      clear hps
      have hB := Lib.hid hB
      go_wp2_with fail
      have hz1 : wr.heap.size < (wr.alloc (Obj.cells (pcs y) 70)).heap.size := by simp
      generalize wr.alloc (Obj.cells (pcs y) 70) = w1 at *
      refine (isNameB_any _ _ hsz).mono ?_
      rintro e w' ⟨rfl, rfl⟩
      obtain ⟨a0, a1, a2⟩ := F0.out
      obtain ⟨d0, d1, d2, d3, d4, d5⟩ := P0.out
      have hw1 : w.heap.size < w1.heap.size := by omega
      have HBB : Hid (Below w.heap.size w w1) := hB.out.trans (X0.out.mono (by omega))
      have ERR : Hid (∀ e : Int, pErr f k = e → e ≠ 0 → fstE (pErr f) n = ((k : Int), e)) := (show ∀ e, _ from fun e h he => fstE_at h he E.out hlt)
      cases hq1 : isNm y.name with
      | false =>
        go_wp2_with fail
        go_ret2
        rw [ERR.out 4 (by unfold pErr; rw [HY.out, if_pos hq1]) (by decide)]
        exact ⟨rfl, HBB.out⟩
      | true =>
        go_wp2_with fail
        have hfd := find_any f.ps y.name (some ⟨b, off, none⟩) b off c w1 (by rw [HN.out]; exact fun _ => ⟨rfl, by omega⟩) L0.out (by have := HN.out; omega)
        have hff := HFF.out
        rw [HN.out] at hfd hff
        generalize idx (fun j => nmEq (gp f.ps j).name y.name) n = fi at *
        generalize hq2 : idx (fun j => nmEq (gp f.ps j).name y.name) k = fk at *
        refine hfd.mono ?_
        rintro e w' ⟨rfl, rfl⟩
        have HQ2 := Lib.hid hq2
        clear hq2 hfd
        rcases hff with ⟨h0, hlk⟩ | ⟨h0, rfl⟩
        · go_wp2_with fail
          go_ret2
          rw [ERR.out 5 (by unfold pErr; rw [HY.out, if_neg (by rw [hq1]; decide), if_pos (by rw [HQ2.out]; exact h0)]) (by decide)]
          exact ⟨rfl, HBB.out⟩
        · have hkk : ¬ (k : Int) < (k : Int) := by omega
          go_wp2_with fail
          refine (isKind_any _ _).mono ?_
          rintro e w' ⟨rfl, rfl⟩
          have P5 : Hid (win y.kind 1 4 = true → insB y.x y.w f.W = true → insB y.y y.h f.H = true → pErr f k = if 0 ≤ idx (fun j => meetB y (gp f.ps j)) k then 28 else 0) := (show _ → _ → _ → _ from fun h3 h4 h5 => by
            unfold pErr; rw [HY.out, if_neg (by rw [hq1]; decide), if_neg (by rw [HQ2.out]; omega), if_neg (by rw [h3]; decide), if_neg (by rw [h4, h5]; decide)])
          have P4 : Hid (win y.kind 1 4 = true → (insB y.x y.w f.W = false ∨ insB y.y y.h f.H = false) → pErr f k = 26) := (show _ → _ → _ from fun h3 h4 => by
            unfold pErr; rw [HY.out, if_neg (by rw [hq1]; decide), if_neg (by rw [HQ2.out]; omega), if_neg (by rw [h3]; decide), if_pos h4])
          have P3 : Hid (win y.kind 1 4 = false → pErr f k = 15) := (show _ → _ from fun h3 => by
            unfold pErr; rw [HY.out, if_neg (by rw [hq1]; decide), if_neg (by rw [HQ2.out]; omega), if_pos h3])
          clear HQ2 HFF
          cases hq3 : win y.kind 1 4 with
          | false =>
            go_wp2_with fail
            go_ret2
            rw [ERR.out 15 (P3.out hq3) (by decide)]
            exact ⟨rfl, HBB.out⟩
          | true =>
            go_wp2_with fail
            refine (withinB_any _ _ _ _).mono ?_
            rintro e w' ⟨rfl, rfl⟩
            cases hq4 : win y.w 1 f.W with
            | false =>
              go_wp2_with fail
              go_ret2
              rw [ERR.out 26 (P4.out hq3 (Or.inl (decide_eq_false fun h => by have := win_f.1 hq4; omega))) (by decide)]
              exact ⟨rfl, HBB.out⟩
            | true =>
              go_wp2_with fail
              refine (withinB_any _ _ _ _).mono ?_
              rintro e w' ⟨rfl, rfl⟩
              cases hq5 : win y.h 1 f.H with
              | false =>
                go_wp2_with fail
                go_ret2
                rw [ERR.out 26 (P4.out hq3 (Or.inr (decide_eq_false fun h => by have := win_f.1 hq5; omega))) (by decide)]
                exact ⟨rfl, HBB.out⟩
              | true =>
                obtain ⟨g1, g2⟩ := win_t.1 hq4
                obtain ⟨g3, g4⟩ := win_t.1 hq5
                have e1 : IntKind.i64.wrap (f.W - y.w) = f.W - y.w := IntWalk.i64_in _ (by omega)
                have e2 : IntKind.i64.wrap (f.H - y.h) = f.H - y.h := IntWalk.i64_in _ (by omega)
                go_wp2_with fail
                refine (withinB_any _ _ _ _).mono ?_
                rintro e w' ⟨rfl, rfl⟩
                cases hq6 : win y.x 0 (f.W - y.w) with
                | false =>
                  go_wp2_with fail
                  go_ret2
                  rw [ERR.out 26 (P4.out hq3 (Or.inl (decide_eq_false fun h => by have := win_f.1 hq6; omega))) (by decide)]
                  exact ⟨rfl, HBB.out⟩
                | true =>
                  go_wp2_with fail
                  refine (withinB_any _ _ _ _).mono ?_
                  rintro e w' ⟨rfl, rfl⟩
                  cases hq7 : win y.y 0 (f.H - y.h) with
                  | false =>
                    go_wp2_with fail
                    go_ret2
                    rw [ERR.out 26 (P4.out hq3 (Or.inr (decide_eq_false fun h => by have := win_f.1 hq7; omega))) (by decide)]
                    exact ⟨rfl, HBB.out⟩
                  | true =>
                    have P6 : Hid (pErr f k = if 0 ≤ idx (fun j => meetB y (gp f.ps j)) k then 28 else 0) := P5.out hq3 (decide_eq_true (by have := win_t.1 hq6; omega)) (decide_eq_true (by have := win_t.1 hq7; omega))
                    clear P3 P4 P5 e1 e2 g1 g2 g3 g4
                    go_wp2_with fail
                    obtain ⟨wo, rfl⟩ : ∃ wo : World, wo = wr := ⟨_, rfl⟩
                    clear a0 a1 a2 d0 d1 d2 d3 d4 d5
                    go_loopg [6] k (fun gg s6 wi => ∃ i : Nat, i ≤ k ∧ k - i ≤ gg ∧ s6 = .int .i64 i ∧ Hid (Below w1.heap.size w1 wi) ∧ Hid (∀ j, j < i → meetB y (gp f.ps j) = false))
                    case atStart => exact ⟨0, Nat.zero_le _, by omega, rfl, Below.refl _ _, fun j hj => absurd hj (Nat.not_lt_zero _)⟩
                    case round =>
                      obtain ⟨i, hi, hgi, rfl, BI, EI⟩ := hrel
                      obtain ⟨a0, a1, a2⟩ := F0.out.below BI.out hw1
                      obtain ⟨d0, d1, d2, d3, d4, d5⟩ := P0.out.below BI.out hz1
                      by_cases hli : i < k
                      · have hliz : (i : Int) < (k : Int) := by omega
                        have hin : (i : Int) < (n : Int) := by omega
                        have hi0 : (0 : Int) ≤ (i : Int) := by omega
                        obtain ⟨q0, q1, q2, q3, q4, q5⟩ := (L0.out i (by have := HN.out; omega)).below BI.out (by omega)
                        generalize hz : gp f.ps i = z at *
                        have HZI := Lib.hid hz
                        clear hz
                        go_wp2_with fail
                        go_still_tail 6, (by kernel_rfl)
                        change wpList _ _ _ _ _ wr.drew
                        have HC := Lib.hid (overlap_any z y)
                        cases hq8 : meetB z y with
                        | true =>
                          go_wp2_with (go_at_call 107; refine (HC.out _).mono ?_; rintro e w2 ⟨rfl, b2⟩)
                          go_ret2
                          rw [ERR.out 28 (by rw [P6.out, if_pos (by rw [idx_hit (k := i) (pr := fun j => meetB y (gp f.ps j)) (by show meetB y (gp f.ps i) = true; rw [HZI.out, meetB_comm]; exact hq8) EI.out hli]; omega)]) (by decide)]
                          exact ⟨rfl, HBB.out.trans ((BI.out.trans ((Below.refl _ _).drew.trans b2 |>.mono BI.out.size)).mono (by omega))⟩
                        | false =>
                          go_wp2_with (go_at_call 107; refine (HC.out _).mono ?_; rintro e w2 ⟨rfl, b2⟩)
                          go_roundg (k - (i + 1))
                          case measure => omega
                          case rel =>
                            refine ⟨i + 1, by omega, by omega, by go_num, BI.out.trans ((Below.refl _ _).drew.trans b2 |>.mono BI.out.size), (show ∀ j, _ from fun j hj => ?_)⟩
                            by_cases e : j = i
                            · rw [e, HZI.out, meetB_comm]; exact hq8
                            · exact EI.out j (by omega)
                      · have hliz : ¬ (i : Int) < (k : Int) := by omega
                        have he : i = k := by omega
                        subst he
                        go_wp2_with fail
                        go_roundg (n - (i + 1))
                        case measure => omega
                        case rel =>
                          refine ⟨i + 1, by omega, by omega, by go_num, X0.out.trans (BI.out.mono (by omega)), (show ∀ j, _ from fun j hj => ?_)⟩
                          by_cases e : j = i
                          · rw [e, P6.out, idx_none (pr := fun j => meetB y (gp f.ps j)) EI.out]; rfl
                          · exact E.out j (by omega)
    · have hltz : ¬ (k : Int) < (n : Int) := by omega
      have he : k = n := by omega
      subst he
      go_wp2_with fail
      go_ret2
      rw [fstE_none E.out]
      exact ⟨rfl, hB.trans (BW.out.mono (by omega))⟩

end Go.Proofs.Ytlfeoofchebbkaa
