/- tails: for each piece the length of the longest chain from it to the far side. -/
import Derived.Test.YtlfeoofchebbkaaDoorTal
import Derived.Laws.EntriesVeiled
namespace Go.Proofs.YtlfeoofchebbkaaDoor
set_option linter.unusedSimpArgs false
set_option linter.unusedVariables false
open Go.RowKit
theorem Tryd.info3 : (Tryd.prog.info? 3).map (fun i => (i.zero, i.size, i.bytes)) = some (some (.int .i64 0), 1, 8) := by kernel_rfl
set_option maxRecDepth 100000 in
theorem tails_any (D : Dir) (wf : D.WF) (hn : D.n ≤ 1000000) (hT : ∀ i, i < D.n → D.T i ≤ 1000000000000) (B dg : Nat) (Aa Ab Az : Option Addr) (ca cb cz ba oa bb ob bz oz : Nat) (w : World)
    (hD : DAt w B dg D Aa Ab Az ca cb cz ba oa bb ob bz oz) (hB : B ≤ w.heap.size) :
    Calls Tryd.prog 52 #[.pointer (some ⟨dg, 0, none⟩)] w fun e w' => ∃ g, e = .returned (.slice (some ⟨g, 0, none⟩) D.n D.n) ∧ w.heap.size ≤ g ∧ w'.rowIs g 3 D.n (fun j => .int .i64 (D.T j)) ∧ Below w.heap.size w w' := by
  have hmk := run_make_row' (P := Tryd.prog) 22 3 (.int .i64 0) 8 Tryd.underlying22 Tryd.info3 rfl .i64 .i64 D.n (by omega) (by omega)
  have c2 := hD.c2
  have hg := hD.gB
  have HD := Lib.hid hD
  have hdg : dg < w.heap.size := by omega
  clear hD
  go_enter Tryd.func52, Tryd.ntmps52
  go_wp2_with fail
  have hB0 : Below w.heap.size w ((((w.alloc (Obj.cells #[Value.pointer (some { block := dg, off := 0 })] 68)).alloc (Obj.cells (madeCells #[Value.int IntKind.i64 0] D.n) 3)).alloc (Obj.cells #[Value.slice (some { block := w.heap.size + 1, off := 0 }) D.n D.n] 22)).alloc (Obj.cells #[Value.func (Fn.func 65) #[] #[Value.pointer (some { block := w.heap.size + 1 + 1, off := 0 }), Value.pointer (some { block := w.heap.size, off := 0 }), Value.pointer (some { block := w.heap.size + 1 + 1 + 1, off := 0 })]] 82)) :=
    ((((Below.refl _ _).alloc (Nat.le_refl _) _).alloc (by simp) _).alloc (by simp; omega) _).alloc (by simp; omega) _
  have hR0 := ((World.rowIs_made (w.alloc (Obj.cells #[Value.pointer (some { block := dg, off := 0 })] 68)) (.int .i64 0) D.n 3).alloc (Obj.cells #[Value.slice (some { block := w.heap.size + 1, off := 0 }) D.n D.n] 22)).alloc (Obj.cells #[Value.func (Fn.func 65) #[] #[Value.pointer (some { block := w.heap.size + 1 + 1, off := 0 }), Value.pointer (some { block := w.heap.size, off := 0 }), Value.pointer (some { block := w.heap.size + 1 + 1 + 1, off := 0 })]] 82)
  have hE0 : TEnv ((((w.alloc (Obj.cells #[Value.pointer (some { block := dg, off := 0 })] 68)).alloc (Obj.cells (madeCells #[Value.int IntKind.i64 0] D.n) 3)).alloc (Obj.cells #[Value.slice (some { block := w.heap.size + 1, off := 0 }) D.n D.n] 22)).alloc (Obj.cells #[Value.func (Fn.func 65) #[] #[Value.pointer (some { block := w.heap.size + 1 + 1, off := 0 }), Value.pointer (some { block := w.heap.size, off := 0 }), Value.pointer (some { block := w.heap.size + 1 + 1 + 1, off := 0 })]] 82)) B (w.heap.size + 1) (w.heap.size + 1 + 1) w.heap.size (w.heap.size + 1 + 1 + 1) dg D :=
    ⟨by simp [go_sem], by simp [go_sem], by simp [go_sem], by omega, by omega, by omega, by omega, by simp; omega⟩
  simp only [World.size_alloc] at hR0
  generalize ((((w.alloc (Obj.cells #[Value.pointer (some { block := dg, off := 0 })] 68)).alloc (Obj.cells (madeCells #[Value.int IntKind.i64 0] D.n) 3)).alloc (Obj.cells #[Value.slice (some { block := w.heap.size + 1, off := 0 }) D.n D.n] 22)).alloc (Obj.cells #[Value.func (Fn.func 65) #[] #[Value.pointer (some { block := w.heap.size + 1 + 1, off := 0 }), Value.pointer (some { block := w.heap.size, off := 0 }), Value.pointer (some { block := w.heap.size + 1 + 1 + 1, off := 0 })]] 82)) = W0 at *
  have hD0 := HD.out.keep (w' := W0) fun b o hb => hB0.cell (p := ⟨b, o, none⟩) (Nat.lt_of_lt_of_le hb hB)
  generalize hgg : w.heap.size + 1 = g at *
  have HGE := Lib.hid hgg
  clear hgg
  generalize g + 1 = bo at *
  generalize bo + 1 = bt at *
  have HB0 := Lib.hid hB0
  have HE0 := Lib.hid hE0
  have HD0 := Lib.hid hD0
  clear hB0 hE0 hD0 hmk c2 HD hdg hg
  have hcall := tail_any D wf hn hT B g bo w.heap.size bt dg Aa Ab Az ca cb cz ba oa bb ob bz oz
  have HC := Lib.hid hcall
  have HT := Lib.hid hT
  clear hcall hT
  go_loopg [15] D.n (fun gg s15 wr => ∃ (k : Nat) (m : Nat → Int), k ≤ D.n ∧ D.n - k ≤ gg ∧ s15 = .int .i64 k ∧ Hid (W0.grownBy wr (some g)) ∧ Hid (wr.rowIs g 3 D.n (fun j => .int .i64 (m j))) ∧ Hid (Memo D m) ∧ Hid (∀ j, j < k → m j = D.T j))
  case atStart => exact ⟨0, fun _ => 0, Nat.zero_le _, by omega, rfl, World.grownBy.refl _ _, hR0, fun _ _ => .inl rfl, fun j hj => absurd hj (Nat.not_lt_zero _)⟩
  case round =>
    obtain ⟨k, m, hk, hgk, rfl, G0, R0, M0, N0⟩ := hrel
    clear hR0
    have E1 := HE0.out.keep G0.out
    have D1 := Lib.hid (HD0.out.grown G0.out HE0.out.gB HE0.out.hw)
    by_cases hlt : k < D.n
    · have hltz : (k : Int) < (D.n : Int) := by omega
      have HE1 := Lib.hid E1
      obtain ⟨co, cd, ct, -, -, -, -, hwr⟩ := E1
      go_wp2_with fail
      refine (HC.out _ k hlt (Nat.lt_succ_self _) wr m HE1.out D1.out R0.out M0.out).mono ?_
      rintro e w2 ⟨rfl, g2, m2, R2, M2, e2, n2⟩
      have G2 := Lib.hid (grown_trans' G0.out g2)
      have R2h := Lib.hid R2
      have M2h := Lib.hid M2
      have N2h : Hid (∀ j, j < k + 1 → m2 j = D.T j) := fun j hj => by
        by_cases e : j = k
        · rw [e]; exact e2
        · rw [n2 j (by omega) (by rw [N0.out j (by omega)]; have := Dir.T_pos wf j (by omega); omega), N0.out j (by omega)]
      clear g2 R2 M2 e2 n2 HC co cd ct R0
      go_wp2_with fail
      go_roundg (D.n - (k + 1))
      case measure => omega
      case rel => exact ⟨k + 1, m2, by omega, by omega, by go_num, G2, R2h, M2h, N2h⟩
    · have hltz : ¬ (k : Int) < (D.n : Int) := by omega
      have he : k = D.n := by omega
      obtain ⟨co, cd, ct, -, -, -, -, hwr⟩ := E1
      have RR := Lib.hid (R0.out.congr fun j hj => by rw [N0.out j (by omega)])
      clear HC HD0 HE0 D1 R0
      subst he
      go_wp2_with fail
      go_ret
      refine ⟨g, rfl, by have := HGE.out; omega, RR.out, HB0.out.trans ?_⟩
      exact ⟨G0.out.os, G0.out.tape, G0.out.output, G0.out.size, fun j hj => G0.out.block j (by have := HB0.out.size; omega) (by have := HGE.out; simp; omega)⟩
end Go.Proofs.YtlfeoofchebbkaaDoor
