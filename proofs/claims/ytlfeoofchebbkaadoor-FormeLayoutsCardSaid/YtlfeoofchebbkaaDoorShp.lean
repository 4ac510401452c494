/- shaped: the first wrong size, and its error, but for whether sizes fit. -/
import Derived.Test.YtlfeoofchebbkaaDoorRgt
namespace Go.Proofs.YtlfeoofchebbkaaDoor
set_option linter.unusedSimpArgs false
set_option linter.unusedVariables false
open Go.RowKit
theorem FAt_new (w : World) (t : TypeId) (f : Forme) (v : Value) : FAt (w.alloc (.cells #[.int .i64 f.W, .int .i64 f.H, v] t)) w.heap.size f v := by
  unfold FAt; simp [go_sem]
theorem TAt_new (w : World) (t : TypeId) (u v x : Value) : TAt (w.alloc (.cells #[u, v, x] t)) w.heap.size u v x := by
  unfold TAt; simp [go_sem]
theorem bne_t {a b : Int} (h : a ≠ b) : (a != b) = true := by rw [bne_iff_ne]; exact h
theorem bne_f {a b : Int} (h : a = b) : (a != b) = false := by rw [h]; simp
set_option maxHeartbeats 2000000 in
theorem shaped_any (f : Forme) (r : Real) (A A1 A2 A3 : Option Addr) (b off c b1 o1 c1 b2 o2 c2 b3 o3 c3 : Nat) (w : World) (hA : Lies A f.ps.length w.heap.size b off) (hps : PsAt w b off f.ps) (hnm : NameOk f.ps) (hc : f.ps.length ≤ c) (hm : f.ps.length ≤ 9223372036854775807)
    (hr : RAt w w.heap.size r A1 A2 A3 b1 o1 b2 o2 b3 o3) (hc1 : r.ws.length ≤ c1) (hc2 : r.hs.length ≤ c2) (hc3 : r.ts.length ≤ c3) :
    Calls Tryd.prog 32 #[.agg #[.int .i64 f.W, .int .i64 f.H, .slice A f.ps.length c], .agg #[.slice A1 r.ws.length c1, .slice A2 r.hs.length c2, .slice A3 r.ts.length c3]] w
      fun e w' => e = .returned (.tuple #[.int .i64 (shapedF f r).1, .int .i64 (shapedF f r).2]) ∧ Below w.heap.size w w' := by
  have hcall := fun W (hb : Below w.heap.size w W) => check_any f A b off c W (hA.mono hb.size) (fun j hj => (hps j hj).below hb ((hA (by omega)).2)) hnm hc hm
  generalize hn : f.ps.length = n at *
  generalize hn1 : r.ws.length = n1 at *
  generalize hn2 : r.hs.length = n2 at *
  generalize hn3 : r.ts.length = n3 at *
  have HN := Lib.hid hn
  have HN1 := Lib.hid hn1
  have HN2 := Lib.hid hn2
  have HN3 := Lib.hid hn3
  clear hn hn1 hn2 hn3
  go_enter Tryd.func32, Tryd.ntmps32
  go_wp2_with fail
  have hB := (below_new w (Obj.cells #[Value.int IntKind.i64 f.W, Value.int IntKind.i64 f.H, Value.slice A n c] 28)).trans ((below_new (w.alloc (Obj.cells #[Value.int IntKind.i64 f.W, Value.int IntKind.i64 f.H, Value.slice A n c] 28)) (Obj.cells #[Value.slice A1 n1 c1, Value.slice A2 n2 c2, Value.slice A3 n3 c3] 43)).mono (by simp))
  have F0 := (FAt_new w 28 f (.slice A n c)).below (below_new _ (Obj.cells #[Value.slice A1 n1 c1, Value.slice A2 n2 c2, Value.slice A3 n3 c3] 43)) (by simp)
  have T0 := TAt_new (w.alloc (Obj.cells #[Value.int IntKind.i64 f.W, Value.int IntKind.i64 f.H, Value.slice A n c] 28)) 43 (Value.slice A1 n1 c1) (Value.slice A2 n2 c2) (Value.slice A3 n3 c3)
  have hz : ((w.alloc (Obj.cells #[Value.int IntKind.i64 f.W, Value.int IntKind.i64 f.H, Value.slice A n c] 28)).alloc (Obj.cells #[Value.slice A1 n1 c1, Value.slice A2 n2 c2, Value.slice A3 n3 c3] 43)).heap.size = w.heap.size + 2 := by simp
  rw [World.size_alloc] at T0
  generalize (w.alloc (Obj.cells #[Value.int IntKind.i64 f.W, Value.int IntKind.i64 f.H, Value.slice A n c] 28)).alloc (Obj.cells #[Value.slice A1 n1 c1, Value.slice A2 n2 c2, Value.slice A3 n3 c3] 43) = W0 at *
  have HZ := Lib.hid hz
  have HB := Lib.hid hB
  clear hz hB
  refine (hcall _ HB.out).mono ?_
  rintro e w1 ⟨rfl, e1⟩
  have F1 := F0.below e1 (by have := HZ.out; omega)
  have T1 := T0.below e1 (by have := HZ.out; omega)
  have B1 := Lib.hid (HB.out.trans (e1.mono HB.out.size))
  have z1 : w.heap.size + 1 < w1.heap.size := by have := e1.size; have := HZ.out; omega
  clear F0 T0 e1 hcall HZ
  have F1h := Lib.hid F1
  have T1h := Lib.hid T1
  obtain ⟨a0, a1, a2⟩ := F1
  obtain ⟨d0, d1, d2⟩ := T1
  by_cases hE : (checkF f).2 = 0
  · have hR := checkF_zero hE
    have S1 : Hid (shapedF f r = if f.W * f.H - areas f.ps ≠ 0 then (0, 14) else if r.ws.length ≠ f.ps.length ∨ r.hs.length ≠ f.ps.length ∨ r.ts.length ≠ f.ps.length then (0, 10) else fstE (sErr f r) f.ps.length) := by
      show shapedF f r = _
      unfold shapedF; rw [if_neg (by rw [hE]; decide)]
    have hcall2 := fun W (hb : Below w.heap.size w W) => uncovered_any f A b off c W (by rw [HN.out]; exact hA.mono hb.size) (fun j hj => (hps j hj).below hb ((hA (by have := HN.out; omega)).2)) hR.toLaid (by rw [HN.out]; exact hc) (by have := hR.few; omega)
    rw [HN.out] at hcall2
    have h1 := bne_f hE
    have H0 := Lib.hid hE
    clear hE
    generalize (checkF f).2 = e0 at *
    go_wp2_with fail
    refine (hcall2 _ B1.out).mono ?_
    rintro e w2 ⟨rfl, e2⟩
    have F2 := F1h.out.below e2 (by omega)
    have T2 := T1h.out.below e2 (by omega)
    have B2 := Lib.hid (B1.out.trans (e2.mono B1.out.size))
    have z2 : w.heap.size + 1 < w2.heap.size := by have := e2.size; omega
    clear F1h T1h e2 hcall2 h1 z1 B1 a0 a1 a2 d0 d1 d2
    have F2h := Lib.hid F2
    have T2h := Lib.hid T2
    obtain ⟨a0, a1, a2⟩ := F2
    obtain ⟨d0, d1, d2⟩ := T2
    by_cases hU : f.W * f.H - areas f.ps = 0
    · have h3 := bne_f hU
      have HU := Lib.hid hU
      clear hU
      generalize f.W * f.H - areas f.ps = u at *
      by_cases hl : n1 = n ∧ n2 = n ∧ n3 = n
      · obtain ⟨rfl, rfl, rfl⟩ := hl
        have S2 : Hid (shapedF f r = fstE (sErr f r) n3) := by
          show shapedF f r = _
          rw [S1.out, if_neg (by rw [HU.out]; decide), if_neg (by rw [HN.out, HN1.out, HN2.out, HN3.out]; omega), HN.out]
        clear S1
        go_wp2_with fail
        have N1 := Lib.hid HN1.out
        have N2 := Lib.hid HN2.out
        have N3 := Lib.hid HN3.out
        clear HN1 HN2 HN3
        go_loopg [45] n3 (fun gg s45 wr => ∃ k : Nat, k ≤ n3 ∧ n3 - k ≤ gg ∧ s45 = .int .i64 k ∧ Aside (Below (w.heap.size + 2) w2 wr) ∧ Aside (∀ j, j < k → sErr f r j = 0))
        case atStart => exact ⟨0, Nat.zero_le _, by omega, rfl, Below.refl _ _, fun j hj => absurd hj (Nat.not_lt_zero _)⟩
        case round =>
          obtain ⟨k, hk, hg, rfl, BW, E⟩ := hrel
          clear a0 a1 a2 d0 d1 d2
          by_cases hlt : k < n3
          · have hltz : (k : Int) < (n3 : Int) := by omega
            obtain ⟨rfl, hb⟩ := hA (by omega)
            have BB := Lib.hid (B2.out.trans (BW.out.mono (by omega)))
            have HBB := Lib.hid B2.out
            have hr' := hr.below BB.out
            obtain ⟨rfl, hb1⟩ := hr.l1 (by rw [N1.out]; omega)
            obtain ⟨rfl, hb2⟩ := hr.l2 (by rw [N2.out]; omega)
            obtain ⟨rfl, hb3⟩ := hr.l3 (by rw [N3.out]; omega)
            have g1 := hr'.z1 k (by rw [N1.out]; omega)
            have g2 := hr'.z2 k (by rw [N2.out]; omega)
            have g3 := hr'.z3 k (by rw [N3.out]; omega)
            obtain ⟨c0, c1', c2', c3', c4, c5⟩ := (hps k (by rw [HN.out]; omega)).below BB.out hb
            have hwr : w.heap.size + 1 < wr.heap.size := by have := BW.out.size; omega
            obtain ⟨a0, a1, a2⟩ := F2h.out.below BW.out (by omega)
            obtain ⟨d0, d1, d2⟩ := T2h.out.below BW.out (by omega)
            have hb1' : b1 < wr.heap.size := by omega
            have hb2' : b2 < wr.heap.size := by omega
            have hb3' : b3 < wr.heap.size := by omega
            have hwr' : w.heap.size < wr.heap.size := by omega
            clear hr' hr hps F2h T2h B2 hA
            have SE : Hid (sErr f r k = if win (gz r.ws k) 1 480000 = false ∨ win (gz r.hs k) 1 480000 = false ∨ win (gz r.ts k) 0 6000 = false then 2 else if gz r.ts k ≠ 0 ∧ isQ (gp f.ps k).kind = false then 3 else 0) := rfl
            generalize gz r.ws k = x at *
            generalize gz r.hs k = y at *
            generalize gz r.ts k = t at *
            generalize gp f.ps k = p at *
            go_wp2_with fail
            refine (within_any _ _ _ _).mono ?_
            rintro e w' ⟨rfl, rfl⟩
            cases hq1 : win x 1 480000 with
            | false =>
              go_wp2_with fail
              go_ret2
              rw [S2.out, fstE_hit (by rw [SE.out, if_pos (Or.inl hq1)]; decide) E.out hlt, SE.out, if_pos (Or.inl hq1)]
              exact ⟨rfl, BB.out.trans (below_new _ _ |>.mono (by omega))⟩
            | true =>
              go_wp2_with fail
              refine (within_any _ _ _ _).mono ?_
              rintro e w' ⟨rfl, rfl⟩
              cases hq2 : win y 1 480000 with
              | false =>
                go_wp2_with fail
                go_ret2
                rw [S2.out, fstE_hit (by rw [SE.out, if_pos (Or.inr (Or.inl hq2))]; decide) E.out hlt, SE.out, if_pos (Or.inr (Or.inl hq2))]
                exact ⟨rfl, BB.out.trans (below_new _ _ |>.mono (by omega))⟩
              | true =>
                go_wp2_with fail
                refine (within_any _ _ _ _).mono ?_
                rintro e w' ⟨rfl, rfl⟩
                cases hq3 : win t 0 6000 with
                | false =>
                  go_wp2_with fail
                  go_ret2
                  rw [S2.out, fstE_hit (by rw [SE.out, if_pos (Or.inr (Or.inr hq3))]; decide) E.out hlt, SE.out, if_pos (Or.inr (Or.inr hq3))]
                  exact ⟨rfl, BB.out.trans (below_new _ _ |>.mono (by omega))⟩
                | true =>
                  have SE2 : Hid (sErr f r k = if t ≠ 0 ∧ isQ p.kind = false then 3 else 0) := by
                    show sErr f r k = _
                    rw [SE.out, if_neg (by rw [hq1, hq2, hq3]; decide)]
                  clear SE
                  by_cases ht : t = 0
                  · have ht' := bne_f ht
                    have HT := Lib.hid ht
                    clear ht
                    go_wp2_with fail
                    go_roundg (n3 - (k + 1))
                    case measure => omega
                    case rel =>
                      refine ⟨k + 1, by omega, by omega, by go_num, BW.out.alloc (by omega) _, (show Aside _ from fun j hj => ?_)⟩
                      by_cases e : j = k
                      · rw [e, SE2.out, if_neg (by rw [HT.out]; simp)]
                      · exact E.out j (by omega)
                  · have ht' := bne_t ht
                    have HT := Lib.hid ht
                    clear ht
                    go_wp2_with fail
                    refine (isQuoin_any p _).mono ?_
                    rintro e w3 ⟨rfl, e3⟩
                    have B3 := Lib.hid (BW.out.trans ((below_new _ _).trans (e3.mono (by simp)) |>.mono (by omega)))
                    clear e3
                    cases hq4 : isQ p.kind with
                    | false =>
                      go_wp2_with fail
                      go_ret2
                      rw [S2.out, fstE_hit (by rw [SE2.out, if_pos ⟨HT.out, hq4⟩]; decide) E.out hlt, SE2.out, if_pos ⟨HT.out, hq4⟩]
                      exact ⟨rfl, HBB.out.trans (B3.out.mono (by omega))⟩
                    | true =>
                      go_wp2_with fail
                      go_roundg (n3 - (k + 1))
                      case measure => omega
                      case rel =>
                        refine ⟨k + 1, by omega, by omega, by go_num, B3.out, (show Aside _ from fun j hj => ?_)⟩
                        by_cases e : j = k
                        · rw [e, SE2.out, if_neg (by rw [hq4]; simp)]
                        · exact E.out j (by omega)
          · have hltz : ¬ (k : Int) < (n3 : Int) := by omega
            have he : k = n3 := by omega
            subst he
            go_wp2_with fail
            go_ret2
            rw [S2.out, fstE_none E.out]
            exact ⟨rfl, B2.out.trans (BW.out.mono (by omega))⟩
      · have e2 : shapedF f r = (0, 10) := by
          rw [S1.out, if_neg (by rw [HU.out]; decide), if_pos (by rw [HN.out, HN1.out, HN2.out, HN3.out]; omega)]
        have E2 := Lib.hid e2
        clear e2
        by_cases hl1 : n1 = n
        · subst hl1
          by_cases hl2 : n2 = n1
          · subst hl2
            have hl3 : ((n3 : Int) != (n2 : Int)) = true := bne_t (by omega)
            clear hl
            go_wp2_with fail
            go_ret2
            rw [E2.out]
            exact ⟨rfl, B2.out⟩
          · have hl3 : ((n2 : Int) != (n1 : Int)) = true := bne_t (by omega)
            clear hl hl2
            go_wp2_with fail
            go_ret2
            rw [E2.out]
            exact ⟨rfl, B2.out⟩
        · have hl3 : ((n1 : Int) != (n : Int)) = true := bne_t (by omega)
          clear hl hl1
          go_wp2_with fail
          go_ret2
          rw [E2.out]
          exact ⟨rfl, B2.out⟩
    · have h3 := bne_t hU
      have e2 : shapedF f r = (0, 14) := by rw [S1.out, if_pos hU]
      have E2 := Lib.hid e2
      clear e2 hU
      generalize f.W * f.H - areas f.ps = u at *
      go_wp2_with fail
      go_ret2
      rw [E2.out]
      exact ⟨rfl, B2.out⟩
  · have e2 : shapedF f r = (0, (checkF f).2) := by unfold shapedF; rw [if_pos hE]
    have h1 := bne_t hE
    clear hE
    generalize (checkF f).2 = e0 at *
    have E2 := Lib.hid e2
    clear e2
    go_wp2_with fail
    go_ret2
    rw [E2.out]
    exact ⟨rfl, B1.out⟩
end Go.Proofs.YtlfeoofchebbkaaDoor
