/- slices.Max over a row; the room of a direction; whether sizes fit. -/
import Derived.Test.YtlfeoofchebbkaaDoorTls
namespace Go.Proofs.YtlfeoofchebbkaaDoor
set_option linter.unusedSimpArgs false
set_option linter.unusedVariables false
open Go.RowKit
set_option maxHeartbeats 1000000 in
theorem max_any (n c g : Nat) (f : Nat → Int) (w : World) (hr : w.rowIs g 3 n (fun j => .int .i64 (f j))) (h0 : ∀ j, j < n → 0 ≤ f j) (hn : 0 < n) (hn1 : n ≤ 1000000) :
    Calls Tryd.prog 54 #[.slice (some ⟨g, 0, none⟩) n c] w fun e w' => e = .returned (.int .i64 (maxTo n f)) ∧ w = w' := by
  have r0 := hr.cell hn
  have hnz : ¬ (n : Int) < 1 := by omega
  have hnz0 : (0 : Int) < (n : Int) := by omega
  have hf0 := h0 0 hn
  have HR := Lib.hid hr
  have HF := Lib.hid h0
  clear hr h0
  go_enter Tryd.func54, Tryd.ntmps54
  go_wp2_with fail
  go_loopg [3, 4] n (fun gg s3 s4 wr => ∃ k : Nat, 1 ≤ k ∧ k ≤ n ∧ n - k ≤ gg ∧ s4 = .int .i64 k ∧ s3 = .int .i64 (maxTo k f) ∧ w = wr)
  case atStart => exact ⟨1, Nat.le_refl _, by omega, by omega, rfl, by simp only [maxTo]; congr 1; omega, rfl⟩
  case round =>
    obtain ⟨k, hk1, hk, hg, rfl, rfl, rfl⟩ := hrel
    clear r0 hnz0 hf0 hnz
    by_cases hlt : k < n
    · have hltz : (k : Int) < (n : Int) := by omega
      have r0 := HR.out.cell hlt
      have hf0 := HF.out k hlt
      go_wp2_with fail
      all_goals
        go_roundg (n - (k + 1))
        case measure => omega
        case rel => exact ⟨k + 1, by omega, by omega, by omega, by go_num, by simp only [maxTo]; congr 1; omega, rfl⟩
    · have hltz : ¬ (k : Int) < (n : Int) := by omega
      have he : k = n := by omega
      subst he
      go_wp2_with fail
      go_ret
      exact ⟨rfl, rfl⟩
theorem room_any (D : Dir) (B g : Nat) (Aa Ab Az : Option Addr) (ca cb cz ba oa bb ob bz oz : Nat) (w : World) (h : DAt w B g D Aa Ab Az ca cb cz ba oa bb ob bz oz) (h0 : 0 ≤ D.side) (h1 : D.side ≤ 4000) :
    Calls Tryd.prog 31 #[.pointer (some ⟨g, 0, none⟩)] w fun e w' => e = .returned (.int .i64 (60 * D.side)) ∧ w = w' := by
  have c3 := h.c3
  clear h
  generalize D.side = s at *
  go_enter Tryd.func31, Tryd.ntmps31
  go_wp2_with fail
  go_ret
  exact ⟨rfl, rfl⟩
theorem fits_any (D : Dir) (wf : D.WF) (hn : D.n ≤ 1000000) (hp : 0 < D.n) (hT : ∀ i, i < D.n → D.T i ≤ 1000000000000) (B dg : Nat) (Aa Ab Az : Option Addr) (ca cb cz ba oa bb ob bz oz : Nat) (w : World)
    (hD : DAt w B dg D Aa Ab Az ca cb cz ba oa bb ob bz oz) (hB : B ≤ w.heap.size) (h0 : 0 ≤ D.side) (h1 : D.side ≤ 4000) :
    Calls Tryd.prog 50 #[.pointer (some ⟨dg, 0, none⟩)] w fun e w' => e = .returned (.bool (decide (D.maxT ≤ 60 * D.side))) ∧ Below w.heap.size w w' := by
  have hc := tails_any D wf hn hT B dg Aa Ab Az ca cb cz ba oa bb ob bz oz w hD hB
  have HD := Lib.hid hD
  have HT := Lib.hid hT
  clear hD hT
  go_enter Tryd.func50, Tryd.ntmps50
  go_wp2_with fail
  refine hc.mono ?_
  rintro e w1 ⟨g, rfl, hg, R1, b1⟩
  go_wp2_with fail
  refine (max_any D.n D.n g D.T w1 R1 (fun j hj => by have := Dir.T_pos wf j hj; omega) hp hn).mono ?_
  rintro e w2 ⟨rfl, rfl⟩
  have D1 := HD.out.keep (w' := w1) fun b o hb => b1.cell (p := ⟨b, o, none⟩) (Nat.lt_of_lt_of_le hb hB)
  go_wp2_with fail
  refine (room_any D B dg Aa Ab Az ca cb cz ba oa bb ob bz oz w1 D1 h0 h1).mono ?_
  rintro e w2 ⟨rfl, rfl⟩
  clear D1 HD R1 hc
  generalize hm : maxTo D.n D.T = m at *
  have HM := Lib.hid hm
  clear hm
  generalize hs : D.side = s at *
  have HS := Lib.hid hs
  clear hs
  go_wp2_with fail
  go_ret
  exact ⟨ret_bool (by unfold Dir.maxT; rw [HM.out, HS.out]), b1⟩
end Go.Proofs.YtlfeoofchebbkaaDoor
