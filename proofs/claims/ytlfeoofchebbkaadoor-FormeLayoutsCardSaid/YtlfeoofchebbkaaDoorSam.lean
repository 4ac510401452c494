/- Same of two formes that are equal. -/
import Derived.Test.YtlfeoofchebbkaaDoorAll
namespace Go.Proofs.YtlfeoofchebbkaaDoor
set_option linter.unusedSimpArgs false
set_option linter.unusedVariables false
open Go.RowKit
set_option maxRecDepth 100000 in
set_option maxHeartbeats 4000000 in
theorem same_true (f : Forme) (A A2 : Option Addr) (b off c b2 off2 c2 : Nat) (w : World) (hA : Lies A f.ps.length w.heap.size b off) (hps : PsAt w b off f.ps) (hA2 : Lies A2 f.ps.length w.heap.size b2 off2) (hps2 : PsAt w b2 off2 f.ps) (hm : f.ps.length ≤ 1000000) :
    Calls Tryd.prog 8 #[.agg #[.int .i64 f.W, .int .i64 f.H, .slice A f.ps.length c], .agg #[.int .i64 f.W, .int .i64 f.H, .slice A2 f.ps.length c2]] w fun e w' => e = .returned (.bool true) ∧ Below w.heap.size w w' := by
  have hB : Below w.heap.size w ((w.alloc (Obj.cells #[Value.int IntKind.i64 f.W, Value.int IntKind.i64 f.H, Value.slice A f.ps.length c] 28)).alloc (Obj.cells #[Value.int IntKind.i64 f.W, Value.int IntKind.i64 f.H, Value.slice A2 f.ps.length c2] 28)) := (below_new _ _).alloc (by simp) _
  have hF : Blk ((w.alloc (Obj.cells #[Value.int IntKind.i64 f.W, Value.int IntKind.i64 f.H, Value.slice A f.ps.length c] 28)).alloc (Obj.cells #[Value.int IntKind.i64 f.W, Value.int IntKind.i64 f.H, Value.slice A2 f.ps.length c2] 28)) w.heap.size 28 #[Value.int IntKind.i64 f.W, Value.int IntKind.i64 f.H, Value.slice A f.ps.length c] :=
    (Below.heap_alloc _ _ _ (by simp)).trans (Blk.new w 28 _)
  have hG : Blk ((w.alloc (Obj.cells #[Value.int IntKind.i64 f.W, Value.int IntKind.i64 f.H, Value.slice A f.ps.length c] 28)).alloc (Obj.cells #[Value.int IntKind.i64 f.W, Value.int IntKind.i64 f.H, Value.slice A2 f.ps.length c2] 28)) (w.heap.size + 1) 28 #[Value.int IntKind.i64 f.W, Value.int IntKind.i64 f.H, Value.slice A2 f.ps.length c2] := by
    have := Blk.new (w.alloc (Obj.cells #[Value.int IntKind.i64 f.W, Value.int IntKind.i64 f.H, Value.slice A f.ps.length c] 28)) 28 #[Value.int IntKind.i64 f.W, Value.int IntKind.i64 f.H, Value.slice A2 f.ps.length c2]
    rwa [World.size_alloc] at this
  have HP1 : Hid (∀ W, Below w.heap.size w W → PsAt W b off f.ps) := (show ∀ W, _ from fun W hW j hj => (hps j hj).below hW (hA (by omega)).2)
  have HP2 : Hid (∀ W, Below w.heap.size w W → PsAt W b2 off2 f.ps) := (show ∀ W, _ from fun W hW j hj => (hps2 j hj).below hW (hA2 (by omega)).2)
  clear hps hps2
  go_enter Tryd.func8, Tryd.ntmps8
  go_wp2_with fail
  generalize ((w.alloc (Obj.cells #[Value.int IntKind.i64 f.W, Value.int IntKind.i64 f.H, Value.slice A f.ps.length c] 28)).alloc (Obj.cells #[Value.int IntKind.i64 f.W, Value.int IntKind.i64 f.H, Value.slice A2 f.ps.length c2] 28)) = W0 at *
  generalize hn : f.ps.length = n at *
  have HN := Lib.hid hn
  have HF := Lib.hid hF
  have HG := Lib.hid hG
  clear hn hF hG
  go_loopg [5] n (fun gg s5 wr => ∃ k : Nat, k ≤ n ∧ n - k ≤ gg ∧ s5 = .int .i64 k ∧ Hid (Below w.heap.size w wr) ∧ Hid (Blk wr w.heap.size 28 #[Value.int IntKind.i64 f.W, Value.int IntKind.i64 f.H, Value.slice A n c]) ∧ Hid (Blk wr (w.heap.size + 1) 28 #[Value.int IntKind.i64 f.W, Value.int IntKind.i64 f.H, Value.slice A2 n c2]))
  case atStart => exact ⟨0, Nat.zero_le _, by omega, rfl, hB, HF.out, HG.out⟩
  case round =>
    obtain ⟨k, hk, hg, rfl, HBr, HFr, HGr⟩ := hrel
    have a0 : wr.cell? ⟨w.heap.size, 2, none⟩ = some (.slice A n c) := HFr.out.cell 2
    have a1 : wr.cell? ⟨w.heap.size + 1, 2, none⟩ = some (.slice A2 n c2) := HGr.out.cell 2
    by_cases hlt : k < n
    · have hltz : (k : Int) < (n : Int) := by omega
      have hk0 : (0 : Int) ≤ (k : Int) := by omega
      obtain ⟨rfl, hb⟩ := hA (by omega)
      obtain ⟨rfl, hb2⟩ := hA2 (by omega)
      obtain ⟨c0, c1, c2', c3, c4, c5⟩ := HP1.out wr HBr.out k (by have := HN.out; omega)
      obtain ⟨d0, d1, d2, d3, d4, d5⟩ := HP2.out wr HBr.out k (by have := HN.out; omega)
      generalize gp f.ps k = p at *
      go_wp2_with fail
      go_quiet (fail)
      go_wp2_with fail
      go_roundg (n - (k + 1))
      case measure => omega
      case rel => exact ⟨k + 1, by omega, by omega, by go_num, ⟨HBr.out.os, HBr.out.tape, HBr.out.output, HBr.out.size, HBr.out.block⟩, HFr.out, HGr.out⟩
    · have hltz : ¬ (k : Int) < (n : Int) := by omega
      go_wp2_with fail
      go_ret
      exact ⟨rfl, HBr.out⟩
end Go.Proofs.YtlfeoofchebbkaaDoor
