/- checkGrid. -/
import Derived.Test.YtlfeoofchebbkaaDoorAll
import Derived.Test.YtlfeoofchebbkaaDoorGla
import Derived.Test.YtlfeoofchebbkaaDoorStk
import Derived.Shelf.SlSortCmp.QuietGrown
import Derived.BigQuiet
namespace Go.Proofs.YtlfeoofchebbkaaDoor
set_option linter.unusedSimpArgs false
set_option linter.unusedVariables false
open Go.RowKit
/-- A grid's rows in memory. -/
structure GA (w : World) (g : Grid) (A1 A2 A3 A4 : Option Addr) (b1 o1 c1 b2 o2 c2 b3 o3 c3 b4 o4 c4 : Nat) : Prop where
  l1 : Lies A1 g.cols.length w.heap.size b1 o1
  z1 : ZsAt w b1 o1 g.cols
  l2 : Lies A2 g.rows.length w.heap.size b2 o2
  z2 : ZsAt w b2 o2 g.rows
  l3 : Lies A3 g.acr.length w.heap.size b3 o3
  z3 : ZsAt w b3 o3 g.acr
  l4 : Lies A4 g.dwn.length w.heap.size b4 o4
  z4 : ZsAt w b4 o4 g.dwn
theorem zs_step {w w' : World} {A : Option Addr} {b o : Nat} {l : List Int} (hl : Lies A l.length w.heap.size b o) (hz : ZsAt w b o l) (hb : Below w.heap.size w w') : ZsAt w' b o l := fun j hj => (hz.below hb (hl (by omega)).2) j hj
theorem GA.below {w w' : World} {g : Grid} {A1 A2 A3 A4 : Option Addr} {b1 o1 c1 b2 o2 c2 b3 o3 c3 b4 o4 c4 : Nat} (h : GA w g A1 A2 A3 A4 b1 o1 c1 b2 o2 c2 b3 o3 c3 b4 o4 c4) (hb : Below w.heap.size w w') : GA w' g A1 A2 A3 A4 b1 o1 c1 b2 o2 c2 b3 o3 c3 b4 o4 c4 :=
  ⟨h.l1.mono hb.size, zs_step h.l1 h.z1 hb, h.l2.mono hb.size, zs_step h.l2 h.z2 hb, h.l3.mono hb.size, zs_step h.l3 h.z3 hb, h.l4.mono hb.size, zs_step h.l4 h.z4 hb⟩
theorem sum_in {l : List Int} {lo : Int} (h : Grid.inR l lo = true) (h0 : 0 ≤ lo) : ∀ k, k ≤ l.length → 0 ≤ sumTo k (gz l) ∧ sumTo k (gz l) ≤ 4000 * k
  | 0, _ => ⟨Int.le_refl _, Int.le_refl _⟩
  | k + 1, hk => by
    have h1 := sum_in h h0 k (by omega)
    have h2 := Grid.inR_at h (k := k) (by omega)
    simp only [sumTo]
    omega
set_option maxRecDepth 100000 in
set_option maxHeartbeats 4000000 in
theorem checkGrid_any (g : Grid) (A1 A2 A3 A4 : Option Addr) (b1 o1 c1 b2 o2 c2 b3 o3 c3 b4 o4 c4 : Nat) (w : World) (h : GA w g A1 A2 A3 A4 b1 o1 c1 b2 o2 c2 b3 o3 c3 b4 o4 c4) (m1 : g.cols.length ≤ 1000) (m2 : g.rows.length ≤ 1000) (m3 : g.acr.length ≤ 1000) (m4 : g.dwn.length ≤ 1000) :
    Calls Tryd.prog 16 #[.agg #[.int .i64 g.W, .int .i64 g.H, .slice A1 g.cols.length c1, .slice A2 g.rows.length c2, .slice A3 g.acr.length c3, .slice A4 g.dwn.length c4, .int .i64 g.q]] w fun e w' => e = .returned (.int .i64 g.check) ∧ Below w.heap.size w w' := by
  have hB := below_new w (Obj.cells #[Value.int IntKind.i64 g.W, Value.int IntKind.i64 g.H, Value.slice A1 g.cols.length c1, Value.slice A2 g.rows.length c2, Value.slice A3 g.acr.length c3, Value.slice A4 g.dwn.length c4, Value.int IntKind.i64 g.q] 24)
  have hK := Blk.new w 24 #[Value.int IntKind.i64 g.W, Value.int IntKind.i64 g.H, Value.slice A1 g.cols.length c1, Value.slice A2 g.rows.length c2, Value.slice A3 g.acr.length c3, Value.slice A4 g.dwn.length c4, Value.int IntKind.i64 g.q]
  have HA0 := Lib.hid (h.below hB)
  have HC : Hid (g.check = if win g.W 1 4000 = false ∨ win g.H 1 4000 = false then 2
    else if g.cols.length = 0 ∨ g.rows.length = 0 ∨ g.acr.length ≠ g.cols.length + 1 ∨ g.dwn.length ≠ g.rows.length + 1 then 10
    else if Grid.inR g.cols 1 = false ∨ Grid.inR g.rows 1 = false ∨ Grid.inR g.acr 0 = false ∨ Grid.inR g.dwn 0 = false ∨ win g.q 1 4000 = false then 2
    else if Grid.sumL g.cols + Grid.sumL g.acr + g.q ≠ g.W ∨ Grid.sumL g.rows + Grid.sumL g.dwn + g.q ≠ g.H then 23
    else 0) := rfl
  clear h
  go_enter Tryd.func16, Tryd.ntmps16
  go_wp2_with fail
  generalize w.alloc (Obj.cells #[Value.int IntKind.i64 g.W, Value.int IntKind.i64 g.H, Value.slice A1 g.cols.length c1, Value.slice A2 g.rows.length c2, Value.slice A3 g.acr.length c3, Value.slice A4 g.dwn.length c4, Value.int IntKind.i64 g.q] 24) = W0 at *
  refine (isSide_any _ _).mono ?_
  rintro e w1 ⟨rfl, rfl⟩
  have x0 : W0.cell? ⟨w.heap.size, 0, none⟩ = some (.int .i64 g.W) := hK.cell 0
  have x1 : W0.cell? ⟨w.heap.size, 1, none⟩ = some (.int .i64 g.H) := hK.cell 1
  have x2 : W0.cell? ⟨w.heap.size, 2, none⟩ = some (.slice A1 g.cols.length c1) := hK.cell 2
  have x3 : W0.cell? ⟨w.heap.size, 3, none⟩ = some (.slice A2 g.rows.length c2) := hK.cell 3
  have x4 : W0.cell? ⟨w.heap.size, 4, none⟩ = some (.slice A3 g.acr.length c3) := hK.cell 4
  have x5 : W0.cell? ⟨w.heap.size, 5, none⟩ = some (.slice A4 g.dwn.length c4) := hK.cell 5
  have x6 : W0.cell? ⟨w.heap.size, 6, none⟩ = some (.int .i64 g.q) := hK.cell 6
  have HB := Lib.hid hB
  clear hB
  cases hW : win g.W 1 4000 with
  | false =>
    have HR : Hid (g.check = 2) := by
      show _ = _
      rw [HC.out, if_pos (.inl hW)]
    clear hW
    go_wp2_with fail
    go_ret
    exact ⟨congrArg (fun z => Ending.returned (.int .i64 z)) HR.out.symm, HB.out⟩
  | true =>
    have HW := Lib.hid hW
    clear hW
    go_wp2_with fail
    refine (isSide_any _ _).mono ?_
    rintro e w1 ⟨rfl, rfl⟩
    cases hH : win g.H 1 4000 with
    | false =>
      have HR : Hid (g.check = 2) := by
        show _ = _
        rw [HC.out, if_pos (.inr hH)]
      clear hH
      go_wp2_with fail
      go_ret
      exact ⟨congrArg (fun z => Ending.returned (.int .i64 z)) HR.out.symm, HB.out⟩
    | true =>
      have HC2 : Hid (g.check = if g.cols.length = 0 ∨ g.rows.length = 0 ∨ g.acr.length ≠ g.cols.length + 1 ∨ g.dwn.length ≠ g.rows.length + 1 then 10
        else if Grid.inR g.cols 1 = false ∨ Grid.inR g.rows 1 = false ∨ Grid.inR g.acr 0 = false ∨ Grid.inR g.dwn 0 = false ∨ win g.q 1 4000 = false then 2
        else if Grid.sumL g.cols + Grid.sumL g.acr + g.q ≠ g.W ∨ Grid.sumL g.rows + Grid.sumL g.dwn + g.q ≠ g.H then 23
        else 0) := by
        show _ = _
        have := HC.out
        rwa [if_neg (by rw [HW.out, hH]; decide)] at this
      clear hH HC HW
      by_cases hsh : g.cols.length = 0 ∨ g.rows.length = 0 ∨ g.acr.length ≠ g.cols.length + 1 ∨ g.dwn.length ≠ g.rows.length + 1
      · have HR : Hid (g.check = 10) := by
          show _ = _
          rw [HC2.out, if_pos hsh]
        clear HC2 HA0
        have w1 : IntKind.i64.wrap ((g.cols.length : Int) + 1) = (g.cols.length : Int) + 1 := IntWalk.i64_in _ (by omega)
        have w2 : IntKind.i64.wrap ((g.rows.length : Int) + 1) = (g.rows.length : Int) + 1 := IntWalk.i64_in _ (by omega)
        generalize g.cols.length = n1 at *
        generalize g.rows.length = n2 at *
        generalize g.acr.length = n3 at *
        generalize g.dwn.length = n4 at *
        by_cases e1 : n1 = 0
        · have d1 : ((n1 : Int) == 0) = true := by simp [e1]
          clear hsh e1
          go_wp2_with fail
          go_ret
          exact ⟨congrArg (fun z => Ending.returned (.int .i64 z)) HR.out.symm, HB.out⟩
        · have d1 : ((n1 : Int) == 0) = false := by simp; omega
          by_cases e2 : n2 = 0
          · have d2 : ((n2 : Int) == 0) = true := by simp [e2]
            clear hsh e1 e2
            go_wp2_with fail
            go_ret
            exact ⟨congrArg (fun z => Ending.returned (.int .i64 z)) HR.out.symm, HB.out⟩
          · have d2 : ((n2 : Int) == 0) = false := by simp; omega
            by_cases e3 : n3 = n1 + 1
            · have d3 : ((n3 : Int) != (n1 : Int) + 1) = false := by simp; omega
              have d4 : ((n4 : Int) != (n2 : Int) + 1) = true := by simp; omega
              clear hsh e1 e2 e3
              go_wp2_with fail
              go_ret
              exact ⟨congrArg (fun z => Ending.returned (.int .i64 z)) HR.out.symm, HB.out⟩
            · have d3 : ((n3 : Int) != (n1 : Int) + 1) = true := by simp; omega
              clear hsh e1 e2 e3
              go_wp2_with fail
              go_ret
              exact ⟨congrArg (fun z => Ending.returned (.int .i64 z)) HR.out.symm, HB.out⟩
      · have HC3 : Hid (g.check = if Grid.inR g.cols 1 = false ∨ Grid.inR g.rows 1 = false ∨ Grid.inR g.acr 0 = false ∨ Grid.inR g.dwn 0 = false ∨ win g.q 1 4000 = false then 2
          else if Grid.sumL g.cols + Grid.sumL g.acr + g.q ≠ g.W ∨ Grid.sumL g.rows + Grid.sumL g.dwn + g.q ≠ g.H then 23
          else 0) := by
          show _ = _
          have := HC2.out
          rwa [if_neg hsh] at this
        simp only [not_or, Decidable.not_not, ne_eq] at hsh
        obtain ⟨e1, e2, e3, e4⟩ := hsh
        have HL : Hid (0 < g.cols.length ∧ 0 < g.rows.length ∧ 0 < g.acr.length ∧ 0 < g.dwn.length) := (show _ ∧ _ from ⟨by omega, by omega, by omega, by omega⟩)
        have HQ1 : Hid (∀ (W : World) (blk : Nat), GA W g A1 A2 A3 A4 b1 o1 c1 b2 o2 c2 b3 o3 c3 b4 o4 c4 → W.cell? ⟨blk, 0, none⟩ = some (.slice A1 g.cols.length c1) → W.cell? ⟨blk, 1, none⟩ = some (.slice A2 g.rows.length c2) →
            Calls Tryd.prog 38 #[.func (.func 42) #[] #[], .slice (some ⟨blk, 0, none⟩) 2 2] W fun e w' => e = .returned (.bool (Grid.inR g.cols 1 && Grid.inR g.rows 1)) ∧ Below W.heap.size W w') := (show ∀ W blk, _ from fun W blk hg q1 q2 => all2_any 42 _ isFn42 g.cols g.rows A1 A2 blk b1 o1 c1 b2 o2 c2 W q1 q2 hg.l1 hg.z1 hg.l2 hg.z2 HL.out.1 HL.out.2.1 m1 m2)
        have HQ2 : Hid (∀ (W : World) (blk : Nat), GA W g A1 A2 A3 A4 b1 o1 c1 b2 o2 c2 b3 o3 c3 b4 o4 c4 → W.cell? ⟨blk, 0, none⟩ = some (.slice A3 g.acr.length c3) → W.cell? ⟨blk, 1, none⟩ = some (.slice A4 g.dwn.length c4) →
            Calls Tryd.prog 38 #[.func (.func 37) #[] #[], .slice (some ⟨blk, 0, none⟩) 2 2] W fun e w' => e = .returned (.bool (Grid.inR g.acr 0 && Grid.inR g.dwn 0)) ∧ Below W.heap.size W w') := (show ∀ W blk, _ from fun W blk hg q1 q2 => all2_any 37 _ isFn37 g.acr g.dwn A3 A4 blk b3 o3 c3 b4 o4 c4 W q1 q2 hg.l3 hg.z3 hg.l4 hg.z4 HL.out.2.2.1 HL.out.2.2.2 m3 m4)
        have HSM : Hid (∀ (W : World), GA W g A1 A2 A3 A4 b1 o1 c1 b2 o2 c2 b3 o3 c3 b4 o4 c4 → Grid.inR g.cols 1 = true → Grid.inR g.rows 1 = true → Grid.inR g.acr 0 = true → Grid.inR g.dwn 0 = true →
            (∀ n, Calls Tryd.prog 36 #[.slice A1 g.cols.length c1] (W.drewN n) fun e w' => e = .returned (.int .i64 (Grid.sumL g.cols)) ∧ w' = W.drewN n) ∧ (∀ n, Calls Tryd.prog 36 #[.slice A2 g.rows.length c2] (W.drewN n) fun e w' => e = .returned (.int .i64 (Grid.sumL g.rows)) ∧ w' = W.drewN n) ∧
            (∀ n, Calls Tryd.prog 36 #[.slice A3 g.acr.length c3] (W.drewN n) fun e w' => e = .returned (.int .i64 (Grid.sumL g.acr)) ∧ w' = W.drewN n) ∧ (∀ n, Calls Tryd.prog 36 #[.slice A4 g.dwn.length c4] (W.drewN n) fun e w' => e = .returned (.int .i64 (Grid.sumL g.dwn)) ∧ w' = W.drewN n) ∧
            (0 ≤ Grid.sumL g.cols ∧ Grid.sumL g.cols ≤ 4000000) ∧ (0 ≤ Grid.sumL g.rows ∧ Grid.sumL g.rows ≤ 4000000) ∧ (0 ≤ Grid.sumL g.acr ∧ Grid.sumL g.acr ≤ 4000000) ∧ (0 ≤ Grid.sumL g.dwn ∧ Grid.sumL g.dwn ≤ 4000000)) := (show ∀ W, _ from fun W hg q1 q2 q3 q4 => by
          have s1 := sum_in q1 (by decide)
          have s2 := sum_in q2 (by decide)
          have s3 := sum_in q3 (by decide)
          have s4 := sum_in q4 (by decide)
          have t1 := s1 _ (Nat.le_refl _)
          have t2 := s2 _ (Nat.le_refl _)
          have t3 := s3 _ (Nat.le_refl _)
          have t4 := s4 _ (Nat.le_refl _)
          rw [Grid.sumL_to, Grid.sumL_to, Grid.sumL_to, Grid.sumL_to]
          refine ⟨fun n => ?_, fun n => ?_, fun n => ?_, fun n => ?_, by omega, by omega, by omega, by omega⟩
          · exact (sum_any g.cols A1 b1 o1 c1 (W.drewN n) hg.l1 hg.z1 (by omega) (fun k hk => by have := s1 k hk; omega)).mono fun _ _ ⟨h1, h2⟩ => ⟨h1, h2.symm⟩
          · exact (sum_any g.rows A2 b2 o2 c2 (W.drewN n) hg.l2 hg.z2 (by omega) (fun k hk => by have := s2 k hk; omega)).mono fun _ _ ⟨h1, h2⟩ => ⟨h1, h2.symm⟩
          · exact (sum_any g.acr A3 b3 o3 c3 (W.drewN n) hg.l3 hg.z3 (by omega) (fun k hk => by have := s3 k hk; omega)).mono fun _ _ ⟨h1, h2⟩ => ⟨h1, h2.symm⟩
          · exact (sum_any g.dwn A4 b4 o4 c4 (W.drewN n) hg.l4 hg.z4 (by omega) (fun k hk => by have := s4 k hk; omega)).mono fun _ _ ⟨h1, h2⟩ => ⟨h1, h2.symm⟩)
        have w1 : IntKind.i64.wrap ((g.cols.length : Int) + 1) = (g.cols.length : Int) + 1 := IntWalk.i64_in _ (by omega)
        have w2 : IntKind.i64.wrap ((g.rows.length : Int) + 1) = (g.rows.length : Int) + 1 := IntWalk.i64_in _ (by omega)
        have d1 : ((g.cols.length : Int) == 0) = false := beq_eq_false_iff_ne.2 (by omega)
        have d2 : ((g.rows.length : Int) == 0) = false := beq_eq_false_iff_ne.2 (by omega)
        have d3 : ((g.acr.length : Int) != (g.cols.length : Int) + 1) = false := bne_f (by omega)
        have d4 : ((g.dwn.length : Int) != (g.rows.length : Int) + 1) = false := bne_f (by omega)
        clear HC2 e1 e2 e3 e4 HL m1 m2 m3 m4
        have HK := Lib.hid hK
        clear hK
        generalize Grid.inR g.cols 1 = r1 at *
        generalize Grid.inR g.rows 1 = r2 at *
        generalize Grid.inR g.acr 0 = r3 at *
        generalize Grid.inR g.dwn 0 = r4 at *
        generalize Grid.sumL g.cols = S1 at *
        generalize Grid.sumL g.rows = S2 at *
        generalize Grid.sumL g.acr = S3 at *
        generalize Grid.sumL g.dwn = S4 at *
        generalize g.cols.length = n1 at *
        generalize g.rows.length = n2 at *
        generalize g.acr.length = n3 at *
        generalize g.dwn.length = n4 at *
        go_wp2_with fail
        have hbn := below_new W0 (Obj.cells #[Value.slice A1 n1 c1, Value.slice A2 n2 c2] 22)
        have hbk := Blk.new W0 22 #[Value.slice A1 n1 c1, Value.slice A2 n2 c2]
        have hall := HQ1.out _ W0.heap.size (HA0.out.below hbn) (hbk.cell 0) (hbk.cell 1)
        have HA1 := Lib.hid (HA0.out.below hbn)
        have HB1 := Lib.hid (HB.out.trans (hbn.mono HB.out.size))
        have HK1 := Lib.hid (HK.out.below hbn HK.out.lt)
        clear HQ1 HA0 HB HK hbn hbk x0 x1 x2 x3 x4 x5 x6
        generalize W0.alloc (Obj.cells #[Value.slice A1 n1 c1, Value.slice A2 n2 c2] 22) = W1 at *
        refine hall.mono ?_
        rintro e W2 ⟨rfl, hb⟩
        have HA2 := Lib.hid (HA1.out.below hb)
        have HB2 := Lib.hid (HB1.out.trans (hb.mono HB1.out.size))
        have HK2 := Lib.hid (HK1.out.below hb HK1.out.lt)
        clear hb hall HA1 HB1 HK1
        have x4 : W2.cell? ⟨w.heap.size, 4, none⟩ = some (.slice A3 n3 c3) := HK2.out.cell 4
        have x5 : W2.cell? ⟨w.heap.size, 5, none⟩ = some (.slice A4 n4 c4) := HK2.out.cell 5
        cases h12 : (r1 && r2) with
        | false =>
          have HR : Hid (g.check = 2) := by
            show _ = _
            rw [HC3.out, if_pos]
            cases r1 with
            | false => exact .inl rfl
            | true => exact .inr (.inl (by simpa using h12))
          clear h12 HC3 HSM HQ2 x4 x5
          go_wp2_with fail
          go_ret
          exact ⟨congrArg (fun z => Ending.returned (.int .i64 z)) HR.out.symm, HB2.out⟩
        | true =>
          obtain ⟨rfl, rfl⟩ : r1 = true ∧ r2 = true := by simpa using h12
          clear h12
          go_wp2_with fail
          have hbn := below_new W2 (Obj.cells #[Value.slice A3 n3 c3, Value.slice A4 n4 c4] 22)
          have hbk := Blk.new W2 22 #[Value.slice A3 n3 c3, Value.slice A4 n4 c4]
          have hall := HQ2.out _ W2.heap.size (HA2.out.below hbn) (hbk.cell 0) (hbk.cell 1)
          have HA3 := Lib.hid (HA2.out.below hbn)
          have HB3 := Lib.hid (HB2.out.trans (hbn.mono HB2.out.size))
          have HK3 := Lib.hid (HK2.out.below hbn HK2.out.lt)
          clear HQ2 HA2 HB2 HK2 hbn hbk x4 x5
          generalize W2.alloc (Obj.cells #[Value.slice A3 n3 c3, Value.slice A4 n4 c4] 22) = W3 at *
          refine hall.mono ?_
          rintro e W4 ⟨rfl, hb⟩
          have HA4 := Lib.hid (HA3.out.below hb)
          have HB4 := Lib.hid (HB3.out.trans (hb.mono HB3.out.size))
          have HK4 := Lib.hid (HK3.out.below hb HK3.out.lt)
          clear hb hall HA3 HB3 HK3
          cases h34 : (r3 && r4) with
          | false =>
            have HR : Hid (g.check = 2) := by
              show _ = _
              rw [HC3.out, if_pos]
              cases r3 with
              | false => exact .inr (.inr (.inl rfl))
              | true => exact .inr (.inr (.inr (.inl (by simpa using h34))))
            clear h34 HC3 HSM
            go_wp2_with fail
            go_ret
            exact ⟨congrArg (fun z => Ending.returned (.int .i64 z)) HR.out.symm, HB4.out⟩
          | true =>
            obtain ⟨rfl, rfl⟩ : r3 = true ∧ r4 = true := by simpa using h34
            clear h34
            have x6 : W4.cell? ⟨w.heap.size, 6, none⟩ = some (.int .i64 g.q) := HK4.out.cell 6
            go_wp2_with fail
            refine (isSide_any _ _).mono ?_
            rintro e w1 ⟨rfl, rfl⟩
            cases hq : win g.q 1 4000 with
            | false =>
              have HR : Hid (g.check = 2) := by
                show _ = _
                rw [HC3.out, if_pos (.inr (.inr (.inr (.inr hq))))]
              clear hq HC3 HSM
              go_wp2_with fail
              go_ret
              exact ⟨congrArg (fun z => Ending.returned (.int .i64 z)) HR.out.symm, HB4.out⟩
            | true =>
              have HC4 : Hid (g.check = if S1 + S3 + g.q ≠ g.W ∨ S2 + S4 + g.q ≠ g.H then 23 else 0) := by
                show _ = _
                have := HC3.out
                rwa [if_neg (by rw [hq]; decide)] at this
              obtain ⟨p1, p2, p3, p4, p5, p6, p7, p8⟩ := HSM.out W4 HA4.out (by trivial) (by trivial) (by trivial) (by trivial)
              have hqq := win_t.1 hq
              have w1 : IntKind.i64.wrap (S1 + S3) = S1 + S3 := IntWalk.i64_in _ (by omega)
              have w2 : IntKind.i64.wrap (S1 + S3 + g.q) = S1 + S3 + g.q := IntWalk.i64_in _ (by omega)
              have w3 : IntKind.i64.wrap (S2 + S4) = S2 + S4 := IntWalk.i64_in _ (by omega)
              have w4 : IntKind.i64.wrap (S2 + S4 + g.q) = S2 + S4 + g.q := IntWalk.i64_in _ (by omega)
              have x0 : W4.cell? ⟨w.heap.size, 0, none⟩ = some (.int .i64 g.W) := HK4.out.cell 0
              have x1 : W4.cell? ⟨w.heap.size, 1, none⟩ = some (.int .i64 g.H) := HK4.out.cell 1
              have x2 : W4.cell? ⟨w.heap.size, 2, none⟩ = some (.slice A1 n1 c1) := HK4.out.cell 2
              have x3 : W4.cell? ⟨w.heap.size, 3, none⟩ = some (.slice A2 n2 c2) := HK4.out.cell 3
              have x4 : W4.cell? ⟨w.heap.size, 4, none⟩ = some (.slice A3 n3 c3) := HK4.out.cell 4
              have x5 : W4.cell? ⟨w.heap.size, 5, none⟩ = some (.slice A4 n4 c4) := HK4.out.cell 5
              clear HC3 HSM HA4 HK4 hq hqq p5 p6 p7 p8
              have HP : Hid (Below w.heap.size w W4) := HB4.out
              clear HB4
              by_cases h1 : S1 + S3 + g.q = g.W
              · have d1 : (S1 + S3 + g.q != g.W) = false := bne_f h1
                by_cases h2 : S2 + S4 + g.q = g.H
                · have d2 : (S2 + S4 + g.q != g.H) = false := bne_f h2
                  have HR : Hid (g.check = 0) := by
                    show _ = _
                    rw [HC4.out, if_neg (by omega)]
                  clear HC4 h1 h2
                  go_wp2_with fail
                  go_quiet ((go_at_call 36; first | (with_reducible exact Calls.quiet_of_same (p1 _)) | (with_reducible exact Calls.quiet_of_same (p2 _)) | (with_reducible exact Calls.quiet_of_same (p3 _)) | (with_reducible exact Calls.quiet_of_same (p4 _))))
                  go_wp2_with fail
                  go_ret
                  exact ⟨congrArg (fun z => Ending.returned (.int .i64 z)) HR.out.symm, ⟨HP.out.os, HP.out.tape, HP.out.output, HP.out.size, HP.out.block⟩⟩
                · have d2 : (S2 + S4 + g.q != g.H) = true := bne_t h2
                  have HR : Hid (g.check = 23) := by
                    show _ = _
                    rw [HC4.out, if_pos (.inr h2)]
                  clear HC4 h1 h2
                  go_wp2_with fail
                  go_quiet ((go_at_call 36; first | (with_reducible exact Calls.quiet_of_same (p1 _)) | (with_reducible exact Calls.quiet_of_same (p2 _)) | (with_reducible exact Calls.quiet_of_same (p3 _)) | (with_reducible exact Calls.quiet_of_same (p4 _))))
                  go_wp2_with fail
                  go_ret
                  exact ⟨congrArg (fun z => Ending.returned (.int .i64 z)) HR.out.symm, ⟨HP.out.os, HP.out.tape, HP.out.output, HP.out.size, HP.out.block⟩⟩
              · have d1 : (S1 + S3 + g.q != g.W) = true := bne_t h1
                have HR : Hid (g.check = 23) := by
                  show _ = _
                  rw [HC4.out, if_pos (.inl h1)]
                clear HC4 h1
                go_wp2_with fail
                go_quiet ((go_at_call 36; first | (with_reducible exact Calls.quiet_of_same (p1 _)) | (with_reducible exact Calls.quiet_of_same (p2 _)) | (with_reducible exact Calls.quiet_of_same (p3 _)) | (with_reducible exact Calls.quiet_of_same (p4 _))))
                go_wp2_with fail
                go_ret
                exact ⟨congrArg (fun z => Ending.returned (.int .i64 z)) HR.out.symm, ⟨HP.out.os, HP.out.tape, HP.out.output, HP.out.size, HP.out.block⟩⟩
end Go.Proofs.YtlfeoofchebbkaaDoor
