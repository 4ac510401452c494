/- through: for each piece the length of the longest chain that it is in. -/
import Derived.Test.YtlfeoofchebbkaaDoorHds
namespace Go.Proofs.YtlfeoofchebbkaaDoor
set_option linter.unusedSimpArgs false
set_option linter.unusedVariables false
open Go.RowKit
def ThrPost (w : World) (D : Dir) (e : Ending) (w' : World) : Prop := ∃ g, e = .returned (.slice (some ⟨g, 0, none⟩) D.n D.n) ∧ w.heap.size ≤ g ∧ w'.rowIs g 3 D.n (fun j => .int .i64 (D.thr j)) ∧ Below w.heap.size w w'
set_option maxRecDepth 100000 in
set_option maxHeartbeats 2000000 in
theorem through_any (D : Dir) (wf : D.WF) (hn : D.n ≤ 1000) (hT : ∀ i, i < D.n → D.T i ≤ 1000000000000) (hT' : ∀ i, i < D.n → D.mir.T i ≤ 1000000000000) (B dg : Nat) (Aa Ab Az : Option Addr) (ca cb cz ba oa bb ob bz oz : Nat) (w : World)
    (hD : DAt w B dg D Aa Ab Az ca cb cz ba oa bb ob bz oz) (hB : B ≤ w.heap.size) (hs0 : 0 ≤ D.side) (hs1 : D.side ≤ 4000) :
    Calls Tryd.prog 30 #[.pointer (some ⟨dg, 0, none⟩)] w (ThrPost w D) := by
  have hc1 := heads_any D wf hn hT' B dg Aa Ab Az ca cb cz ba oa bb ob bz oz w hD hB hs0 hs1
  have HD := Lib.hid hD
  have HT := Lib.hid hT
  have HT' := Lib.hid hT'
  clear hD hT hT'
  go_enter Tryd.func30, Tryd.ntmps30
  go_wp2_with fail
  refine hc1.mono ?_
  rintro e w1 ⟨g1, rfl, hg1, R1, b1⟩
  have HD1 := Lib.hid (HD.out.keep (w' := w1) fun b o hb => b1.cell (p := ⟨b, o, none⟩) (Nat.lt_of_lt_of_le hb hB))
  have hc2 := tails_any D wf (by omega) HT.out B dg Aa Ab Az ca cb cz ba oa bb ob bz oz w1 HD1.out (by have := b1.size; omega)
  have HR1 := Lib.hid R1
  have HB1 := Lib.hid b1
  clear HD hc1 R1 b1
  go_wp2_with fail
  refine hc2.mono ?_
  rintro e w2 ⟨g2, rfl, hg2, R2, b2⟩
  have HD2 := Lib.hid (HD1.out.keep (w' := w2) fun b o hb => b2.cell (p := ⟨b, o, none⟩) (Nat.lt_of_lt_of_le hb (by have := HB1.out.size; omega)))
  have HR2 := Lib.hid R2
  have HR1' := Lib.hid (HR1.out.of_block (b2.block g1 HR1.out.lt))
  have HB2 := Lib.hid (HB1.out.trans (b2.mono HB1.out.size))
  have hne : g1 ≠ g2 := by have := HR1.out.lt; omega
  clear HR1 HB1 HD1 hc2 R2 b2
  go_wp2_with fail
  go_loopg [11] D.n (fun gg s11 wr => ∃ k : Nat, k ≤ D.n ∧ D.n - k ≤ gg ∧ s11 = .int .i64 k ∧ Hid (wr.rowIs g1 3 D.n (fun j => .int .i64 (if j < k then D.thr j else D.mir.T j))) ∧ Hid (w2.grownBy wr (some g1)))
  case atStart => exact ⟨0, Nat.zero_le _, by omega, rfl, HR1'.out, World.grownBy.refl _ _⟩
  case round =>
    obtain ⟨k, hk, hgk, rfl, R, G⟩ := hrel
    by_cases hlt : k < D.n
    · have hltz : (k : Int) < (D.n : Int) := by omega
      have hk0 : (0 : Int) ≤ (k : Int) := by omega
      have hDr := HD2.out.grown G.out (by omega) (by have := HB2.out.size; omega)
      have r1 : wr.cell? ⟨g1, k, none⟩ = some (.int .i64 (D.mir.T k)) := by
        have := R.out.cell hlt; rw [if_neg (by omega)] at this; exact this
      have f1 := R.out.frozen k
      have r2 := (HR2.out.of_block (G.out.block g2 HR2.out.lt (by simp; omega))).cell hlt
      have c2 := hDr.c2
      have qz := hDr.pz k hlt
      obtain ⟨rfl, hbz⟩ := hDr.lz (by omega)
      have t1 := HT.out k hlt
      have t2 := HT'.out k hlt
      have t3 := Dir.T_pos wf k hlt
      have t4 := Dir.Hd_pos wf k hlt
      have t5 := wf.s1 k hlt
      have hthr : Hid (D.thr k = D.mir.T k + (D.T k - D.s k)) := rfl
      have HG := Lib.hid G.out
      have hmT : D.Hd k = D.mir.T k := rfl
      rw [hmT] at t4
      clear hDr HT HT' HR1' HD2 HR2 hmT
      generalize D.mir.T k = h at *
      generalize D.T k = t at *
      generalize D.s k = s at *
      have e1 : IntKind.i64.wrap (t - s) = t - s := IntWalk.i64_in _ (by omega)
      have e2 : IntKind.i64.wrap (h + (t - s)) = h + (t - s) := IntWalk.i64_in _ (by omega)
      go_wp2_with fail
      go_still_tail 15, (by kernel_rfl)
      change wpList _ _ _ _ _ wr.drew
      go_wp2_with fail
      go_roundg (D.n - (k + 1))
      case measure => omega
      case rel =>
        refine ⟨k + 1, by omega, by omega, by go_num, ?_, grown_drew' (grown_setCell' HG.out _ _)⟩
        have h5 := (R.out.set k (.int .i64 (h + (t - s)))).drew
        show World.rowIs _ _ _ _ _
        refine h5.congr fun j hj => ?_
        by_cases e : j = k
        · rw [if_pos e, if_pos (by omega), e, hthr.out]
        · rw [if_neg e]
          by_cases e2 : j < k
          · rw [if_pos e2, if_pos (by omega)]
          · rw [if_neg e2, if_neg (by omega)]
    · have hltz : ¬ (k : Int) < (D.n : Int) := by omega
      have he : k = D.n := by omega
      have RR := Lib.hid (R.out.congr fun j hj => by rw [if_pos (by omega)])
      clear R HR1' HR2 HD2 HT HT'
      go_wp2_with fail
      go_ret
      refine ⟨g1, rfl, hg1, RR.out, HB2.out.trans ⟨G.out.os, G.out.tape, G.out.output, G.out.size, fun j hj => G.out.block j (by have := HB2.out.size; omega) (by simp; omega)⟩⟩
end Go.Proofs.YtlfeoofchebbkaaDoor
