/- CheckForme returns the first wrong piece and its error, or none. -/
import Derived.Test.YtlfeoofchebbkaaDoorChk
namespace Go.Proofs.YtlfeoofchebbkaaDoor
set_option linter.unusedSimpArgs false
set_option linter.unusedVariables false
open Go.RowKit
theorem enters_of' {P : Program} {f : FuncId} {fn : Func} {c : Code} (hf : P.funcs[f]? = some fn) (hname : (fn.name == "runtime.NumGoroutine") = false) (hb : fn.body = some c) :
    ∀ (args : Array Value) (w : World), (callFunc f args).run P w = .ok (.enter f args) w := by
  intro args w
  have h1 : fn.name ≠ "runtime.NumGoroutine" := by simpa using hname
  simp [callFunc, hf, h1, hb, mark]
theorem enters98 : ∀ (args : Array Value) (w : World), (callFunc 61 args).run Tryd.prog w = .ok (.enter 61 args) w := enters_of' Tryd.func61 (by kernel_rfl) rfl
theorem enters100 : ∀ (args : Array Value) (w : World), (callFunc 63 args).run Tryd.prog w = .ok (.enter 63 args) w := enters_of' Tryd.func63 (by kernel_rfl) rfl
def NameOk (ps : List Piece) : Prop := ∀ j, j < ps.length → (gp ps j).name.size ≤ 9223372036854775807
/-- The three cells of a forme. -/
def FAt (w : World) (b : Nat) (f : Forme) (v : Value) : Prop := w.cell? ⟨b, 0, none⟩ = some (.int .i64 f.W) ∧ w.cell? ⟨b, 1, none⟩ = some (.int .i64 f.H) ∧ w.cell? ⟨b, 2, none⟩ = some v
theorem FAt.below {B : Nat} {w w' : World} {b : Nat} {f : Forme} {v : Value} (h : FAt w b f v) (hb : Below B w w') (hB : b < B) : FAt w' b f v := by
  obtain ⟨h0, h1, h2⟩ := h
  exact ⟨(hb.cell (p := ⟨b, _, none⟩) hB).trans h0, (hb.cell (p := ⟨b, _, none⟩) hB).trans h1, (hb.cell (p := ⟨b, _, none⟩) hB).trans h2⟩
theorem PAt.lt {w : World} {b off : Nat} {p : Piece} (h : PAt w b off p) : b < w.heap.size := block_lt_of_cell h.1
theorem PAt_new (w : World) (t : TypeId) (p : Piece) : PAt (w.alloc (.cells (pcs p) t)) w.heap.size 0 p := by
  unfold PAt; simp [go_sem]
theorem below_new (w : World) (o : Obj) : Below w.heap.size w (w.alloc o) := (Below.refl _ _).alloc (Nat.le_refl _) _
theorem FAt.lt {w : World} {b : Nat} {f : Forme} {v : Value} (h : FAt w b f v) : b < w.heap.size := block_lt_of_cell h.1
theorem fstE_at {f : Forme} {k n : Nat} {e : Int} (h : pErr f k = e) (he : e ≠ 0) (hE : ∀ j, j < k → pErr f j = 0) (hk : k < n) : fstE (pErr f) n = ((k : Int), e) := by
  rw [fstE_hit (by rw [h]; exact he) hE hk, h]
set_option maxHeartbeats 4000000 in
theorem checkForme_main (f : Forme) (n : Nat) (A : Option Addr) (b off c : Nat) (w : World) (hA : Lies A n w.heap.size b off) (hps : PsAt w b off f.ps) (hnm : NameOk f.ps) (hc : n ≤ c) (hn : f.ps.length = n)
    (hl : n ≤ 60) (hW : win f.W 1 4000 = true) (hH : win f.H 1 4000 = true) :
    Calls Tryd.prog 49 #[.agg #[.int .i64 f.W, .int .i64 f.H, .slice A n c]] w fun e w' => e = .returned (.tuple #[.int .i64 (fstE (pErr f) n).1, .int .i64 (fstE (pErr f) n).2]) ∧ Below w.heap.size w w' := by
  have hlz : ¬ (60 : Int) < (n : Int) := by omega
  have HN := Lib.hid hn
  clear hn
  obtain ⟨w1, w2⟩ := win_t.1 hW
  obtain ⟨w3, w4⟩ := win_t.1 hH
  go_enter Tryd.func49, Tryd.ntmps49
  go_wp2_with (go_at_call 42; refine (isSide_any _ _).mono ?_; rintro e w' ⟨rfl, rfl⟩)
  have hB : Below w.heap.size w (w.alloc (Obj.cells #[Value.int IntKind.i64 f.W, Value.int IntKind.i64 f.H, Value.slice A n c] 28)) := (Below.refl _ _).alloc (Nat.le_refl _) _
  have hz : (w.alloc (Obj.cells #[Value.int IntKind.i64 f.W, Value.int IntKind.i64 f.H, Value.slice A n c] 28)).heap.size = w.heap.size + 1 := by simp
  have q0 : (w.alloc (Obj.cells #[Value.int IntKind.i64 f.W, Value.int IntKind.i64 f.H, Value.slice A n c] 28)).cell? ⟨w.heap.size, 0, none⟩ = some (.int .i64 f.W) := by simp
  have q1 : (w.alloc (Obj.cells #[Value.int IntKind.i64 f.W, Value.int IntKind.i64 f.H, Value.slice A n c] 28)).cell? ⟨w.heap.size, 1, none⟩ = some (.int .i64 f.H) := by simp
  have q2 : (w.alloc (Obj.cells #[Value.int IntKind.i64 f.W, Value.int IntKind.i64 f.H, Value.slice A n c] 28)).cell? ⟨w.heap.size, 2, none⟩ = some (.slice A n c) := by simp
  generalize w.alloc (Obj.cells #[Value.int IntKind.i64 f.W, Value.int IntKind.i64 f.H, Value.slice A n c] 28) = W0 at *
  have HZ := Lib.hid hz
  clear hz
  go_loopg [26] n (fun gg s26 wr => ∃ k : Nat, k ≤ n ∧ n - k ≤ gg ∧ s26 = .int .i64 k ∧ Aside (Below (w.heap.size + 1) W0 wr) ∧ Aside (∀ j, j < k → pErr f j = 0))
  case atStart => exact ⟨0, Nat.zero_le _, by omega, rfl, Below.refl _ _, fun j hj => absurd hj (Nat.not_lt_zero _)⟩
  case round =>
    obtain ⟨k, hk, hg, rfl, BW, E⟩ := hrel
    by_cases hlt : k < n
    · have hltz : (k : Int) < (n : Int) := by omega
      obtain ⟨rfl, hb⟩ := hA (by omega)
      have BW' : Aside (Below w.heap.size w wr) := hB.trans (BW.out.mono (by omega))
      have r0 := (BW.out.cell (p := ⟨w.heap.size, 0, none⟩) (by simp)).trans q0
      have r1 := (BW.out.cell (p := ⟨w.heap.size, 1, none⟩) (by simp)).trans q1
      have r2 := (BW.out.cell (p := ⟨w.heap.size, 2, none⟩) (by simp)).trans q2
      obtain ⟨c0, c1, c2, c3, c4, c5⟩ := (hps k (by have := HN.out; omega)).below BW'.out hb
      have hwr : w.heap.size < wr.heap.size := by have := BW.out.size; have := HZ.out; omega
      generalize hy : gp f.ps k = y at *
      have HY := Lib.hid hy
      clear hy
      have hsz : y.name.size ≤ 9223372036854775807 := by rw [← HY.out]; exact hnm k (by have := HN.out; omega)
      have F0 : Aside (FAt (wr.alloc (Obj.cells (pcs y) 60)) w.heap.size f (.slice (some ⟨b, off, none⟩) n c)) := FAt.below ⟨r0, r1, r2⟩ (below_new _ _) hwr
      have P0 : Aside (PAt (wr.alloc (Obj.cells (pcs y) 60)) wr.heap.size 0 y) := PAt_new _ _ _
      have L0 : Aside (PsAt (wr.alloc (Obj.cells (pcs y) 60)) b off f.ps) := (hps.below BW'.out hb).below (below_new _ _) (by omega)
      have X0 : Aside (Below (w.heap.size + 1) W0 (wr.alloc (Obj.cells (pcs y) 60))) := BW.out.alloc (by omega) _
      clear hps q0 q1 q2
      have hB := Lib.hid hB
      go_wp2_with fail
      refine (isName_any _ _ hsz).mono ?_
      rintro e w1 ⟨rfl, b1⟩
      have z1 : wr.heap.size < w1.heap.size := by have := b1.size; simp at this; omega
      obtain ⟨a0, a1, a2⟩ := F0.out.below b1 (by simp; omega)
      obtain ⟨d0, d1, d2, d3, d4, d5⟩ := P0.out.below b1 (by simp)
      cases hq1 : isNm y.name with
      | false =>
        go_wp2_with fail
        go_ret2
        rw [fstE_at (by unfold pErr; rw [HY.out, if_pos hq1]) (by decide) E.out hlt]
        exact ⟨rfl, BW'.out.trans (((below_new _ _).trans (b1.mono (by simp))).mono (by omega))⟩
      | true =>
        go_wp2_with fail
        have P1 : Aside (PAt w1 wr.heap.size 0 y) := P0.out.below b1 (by simp)
        have F1 : Aside (FAt w1 w.heap.size f (.slice (some ⟨b, off, none⟩) n c)) := F0.out.below b1 (by simp; omega)
        have L1 : Aside (PsAt w1 b off f.ps) := L0.out.below b1 (by simp; omega)
        have X1 : Aside (Below (w.heap.size + 1) W0 w1) := X0.out.trans (b1.mono (by simp; omega))
        clear b1 P0 F0 L0 X0
        refine (containsP_any 61 #[.pointer (some ⟨wr.heap.size, 0, none⟩)] b off k _ f.ps (fun q => nmEq q.name y.name) w1 (fun W j hbW hj => (same_any y (gp f.ps j) wr.heap.size W (P1.out.below hbW z1)).mono fun _ _ ⟨h1, h2⟩ => ⟨h1, hbW.trans (h2.mono hbW.size)⟩) (by have := HN.out; omega) (by omega) (by omega) enters98 L1.out).mono ?_
        rintro e w2 ⟨rfl, b2⟩
        have z2 : wr.heap.size < w2.heap.size := by have := b2.size; omega
        obtain ⟨a0, a1, a2⟩ := F1.out.below b2 (by omega)
        obtain ⟨d0, d1, d2, d3, d4, d5⟩ := P1.out.below b2 z1
        have P2 : Aside (PAt w2 wr.heap.size 0 y) := P1.out.below b2 z1
        have L2 : Aside (PsAt w2 b off f.ps) := L1.out.below b2 (by omega)
        have X2 : Aside (Below (w.heap.size + 1) W0 w2) := X1.out.trans (b2.mono (by omega))
        generalize hq2 : decide (0 ≤ idx (fun j => nmEq (gp f.ps j).name y.name) k) = q2
        have HQ2 := Lib.hid hq2
        clear hq2 b2 P1 F1 L1 X1
        cases q2 with
        | true =>
          have Q := of_decide_eq_true HQ2.out
          have Q' := Lib.hid Q
          clear Q
          go_wp2_with fail
          go_ret2
          rw [fstE_at (e := 5) (by unfold pErr; rw [HY.out, if_neg (by rw [hq1]; decide), if_pos Q'.out]) (by decide) E.out hlt]
          exact ⟨rfl, hB.out.trans (X2.out.mono (by omega))⟩
        | false =>
          have Q2 := Lib.hid (Int.not_le.1 (of_decide_eq_false HQ2.out))
          clear HQ2
          go_wp2_with fail
          refine (within_any _ _ _ _).mono ?_
          rintro e w3 ⟨rfl, rfl⟩
          cases hq3 : win y.kind 1 4 with
          | false =>
            go_wp2_with fail
            go_ret2
            rw [fstE_at (e := 15) (by unfold pErr; rw [HY.out, if_neg (by rw [hq1]; decide), if_neg (Int.not_le.2 Q2.out), if_pos hq3]) (by decide) E.out hlt]
            exact ⟨rfl, hB.out.trans (X2.out.mono (by omega))⟩
          | true =>
            go_wp2_with fail
            refine (inside_any _ _ _ _ (by omega) (by omega)).mono ?_
            rintro e w3 ⟨rfl, rfl⟩
            cases hq4 : insB y.x y.w f.W with
            | false =>
              go_wp2_with fail
              go_ret2
              rw [fstE_at (e := 26) (by unfold pErr; rw [HY.out, if_neg (by rw [hq1]; decide), if_neg (Int.not_le.2 Q2.out), if_neg (by rw [hq3]; decide), if_pos (Or.inl hq4)]) (by decide) E.out hlt]
              exact ⟨rfl, hB.out.trans (X2.out.mono (by omega))⟩
            | true =>
              go_wp2_with fail
              refine (inside_any _ _ _ _ (by omega) (by omega)).mono ?_
              rintro e w3 ⟨rfl, rfl⟩
              cases hq5 : insB y.y y.h f.H with
              | false =>
                go_wp2_with fail
                go_ret2
                rw [fstE_at (e := 26) (by unfold pErr; rw [HY.out, if_neg (by rw [hq1]; decide), if_neg (Int.not_le.2 Q2.out), if_neg (by rw [hq3]; decide), if_pos (Or.inr hq5)]) (by decide) E.out hlt]
                exact ⟨rfl, hB.out.trans (X2.out.mono (by omega))⟩
              | true =>
                go_wp2_with fail
                refine (containsP_any 63 #[.pointer (some ⟨wr.heap.size, 0, none⟩)] b off k _ f.ps (fun q => meetB y q) w2 (fun W j hbW hj => (meets_fn y (gp f.ps j) wr.heap.size W (P2.out.below hbW z2)).mono fun _ _ ⟨h1, h2⟩ => ⟨h1, hbW.trans (h2.mono hbW.size)⟩) (by have := HN.out; omega) (by omega) (by omega) enters100 L2.out).mono ?_
                rintro e w3 ⟨rfl, b3⟩
                have z3 : wr.heap.size < w3.heap.size := by have := b3.size; omega
                have X3 : Aside (Below (w.heap.size + 1) W0 w3) := X2.out.trans (b3.mono (by omega))
                generalize hq6 : decide (0 ≤ idx (fun j => meetB y (gp f.ps j)) k) = q6
                have HQ6 := Lib.hid hq6
                clear hq6 b3 P2 L2 X2
                cases q6 with
                | true =>
                  have Q6 := Lib.hid (of_decide_eq_true HQ6.out)
                  go_wp2_with fail
                  go_ret2
                  rw [fstE_at (e := 28) (by unfold pErr; rw [HY.out, if_neg (by rw [hq1]; decide), if_neg (Int.not_le.2 Q2.out), if_neg (by rw [hq3]; decide), if_neg (by rw [hq4, hq5]; decide), if_pos Q6.out]) (by decide) E.out hlt]
                  exact ⟨rfl, hB.out.trans (X3.out.mono (by omega))⟩
                | false =>
                  have Q6 := Lib.hid (Int.not_le.1 (of_decide_eq_false HQ6.out))
                  go_wp2_with fail
                  go_roundg (n - (k + 1))
                  case measure => omega
                  case rel =>
                    refine ⟨k + 1, by omega, by omega, by go_num, X3, (show Aside _ from fun j hj => ?_)⟩
                    by_cases e : j = k
                    · subst e
                      unfold pErr
                      rw [HY.out, if_neg (by rw [hq1]; decide), if_neg (Int.not_le.2 Q2.out), if_neg (by rw [hq3]; decide), if_neg (by rw [hq4, hq5]; decide), if_neg (Int.not_le.2 Q6.out)]
                    · exact E.out j (by omega)
    · have hltz : ¬ (k : Int) < (n : Int) := by omega
      have he : k = n := by omega
      subst he
      go_wp2_with fail
      go_ret2
      rw [fstE_none E.out]
      exact ⟨rfl, hB.trans (BW.out.mono (by omega))⟩

theorem checkForme_any (f : Forme) (A : Option Addr) (b off c : Nat) (w : World) (hA : Lies A f.ps.length w.heap.size b off) (hps : PsAt w b off f.ps) (hnm : NameOk f.ps) (hc : f.ps.length ≤ c) (hm : f.ps.length ≤ 9223372036854775807) :
    Calls Tryd.prog 49 #[.agg #[.int .i64 f.W, .int .i64 f.H, .slice A f.ps.length c]] w fun e w' => e = .returned (.tuple #[.int .i64 (checkF f).1, .int .i64 (checkF f).2]) ∧ Below w.heap.size w w' := by
  by_cases hW : win f.W 1 4000 = true
  · by_cases hH : win f.H 1 4000 = true
    · by_cases hl : 60 < f.ps.length
      · have e1 : checkF f = (0, 8) := by unfold checkF; rw [if_neg (by simp [hW, hH]), if_pos hl]
        rw [e1]
        generalize f.ps.length = n at *
        have hlz : (60 : Int) < (n : Int) := by omega
        clear e1 hps hnm hA
        go_enter Tryd.func49, Tryd.ntmps49
        go_wp2_with (go_at_call 42; refine (isSide_any _ _).mono ?_; rintro e w' ⟨rfl, rfl⟩)
        go_ret2
        exact ⟨rfl, below_new _ _⟩
      · have e1 : checkF f = fstE (pErr f) f.ps.length := by
          unfold checkF; rw [if_neg (by simp [hW, hH]), if_neg (by omega)]
        rw [e1]
        exact checkForme_main f _ A b off c w hA hps hnm hc rfl (by omega) hW hH
    · have e1 : checkF f = (0, 2) := by unfold checkF; rw [if_pos (by simp [hW, hH])]
      rw [e1]
      have hH' : win f.H 1 4000 = false := by simpa using hH
      clear e1 hps hnm hA hH
      go_enter Tryd.func49, Tryd.ntmps49
      go_wp2_with (go_at_call 42; refine (isSide_any _ _).mono ?_; rintro e w' ⟨rfl, rfl⟩)
      go_ret2
      exact ⟨rfl, below_new _ _⟩
  · have e1 : checkF f = (0, 2) := by unfold checkF; rw [if_pos (by simp [hW])]
    rw [e1]
    have hW' : win f.W 1 4000 = false := by simpa using hW
    clear e1 hps hnm hA hW
    go_enter Tryd.func49, Tryd.ntmps49
    go_wp2_with (go_at_call 42; refine (isSide_any _ _).mono ?_; rintro e w' ⟨rfl, rfl⟩)
    go_ret2
    exact ⟨rfl, below_new _ _⟩
theorem check_any (f : Forme) (A : Option Addr) (b off c : Nat) (w : World) (hA : Lies A f.ps.length w.heap.size b off) (hps : PsAt w b off f.ps) (hnm : NameOk f.ps) (hc : f.ps.length ≤ c) (hm : f.ps.length ≤ 9223372036854775807) :
    Calls Tryd.prog 25 #[.agg #[.int .i64 f.W, .int .i64 f.H, .slice A f.ps.length c]] w fun e w' => e = .returned (.int .i64 (checkF f).2) ∧ Below w.heap.size w w' := by
  have hcall := fun W (hb : Below w.heap.size w W) => checkForme_any f A b off c W (hA.mono hb.size) (fun j hj => (hps j hj).below hb ((hA (by omega)).2)) hnm hc hm
  generalize f.ps.length = n at *
  clear hps hnm hA
  go_enter Tryd.func25, Tryd.ntmps25
  go_wp2_with fail
  refine (hcall _ (below_new _ _)).mono ?_
  rintro e w1 ⟨rfl, b1⟩
  go_wp2_with fail
  go_ret
  exact ⟨rfl, (below_new _ _).trans (b1.mono (by simp))⟩
end Go.Proofs.YtlfeoofchebbkaaDoor
