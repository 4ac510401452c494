/- sameBills of two equal bills. -/
import Derived.Test.YtlfeoofchebbkaaMir
namespace Go.Proofs.Ytlfeoofchebbkaa
set_option linter.unusedSimpArgs false
set_option linter.unusedVariables false
open Go.RowKit
/-- A row of the bill: the greater side, the lesser side, the number. -/
structure Tri where
  a : Int
  b : Int
  n : Int
  deriving DecidableEq, Inhabited
def gt3 (l : List Tri) (j : Nat) : Tri := l.getD j ⟨0, 0, 0⟩
/-- The cells from b, off on are the rows. -/
def TsAt (w : World) (b off : Nat) (l : List Tri) : Prop := ∀ j, j < l.length →
  w.cell? ⟨b, off + j * 3, none⟩ = some (.int .i64 (gt3 l j).a) ∧ w.cell? ⟨b, off + j * 3 + 1, none⟩ = some (.int .i64 (gt3 l j).b) ∧ w.cell? ⟨b, off + j * 3 + 2, none⟩ = some (.int .i64 (gt3 l j).n)
theorem TsAt.below {B : Nat} {w w' : World} {b off : Nat} {l : List Tri} (h : TsAt w b off l) (hb : Below B w w') (hB : b < B) : TsAt w' b off l := fun j hj =>
  ⟨(hb.cell (p := ⟨b, _, none⟩) hB).trans (h j hj).1, (hb.cell (p := ⟨b, _, none⟩) hB).trans (h j hj).2.1, (hb.cell (p := ⟨b, _, none⟩) hB).trans (h j hj).2.2⟩
/-- Two equal rows are equal. -/
theorem eq143 (a b c : Int) (w : World) : (Op.equalIn 10000 143 (.agg #[.int .i64 a, .int .i64 b, .int .i64 c]) (.agg #[.int .i64 a, .int .i64 b, .int .i64 c])).run Try.prog w = .ok true w := by
  have u3 := Try.underlying3
  have a3 := Try.isAgg3
  have z3 := Try.sizeOf3
  rw [show (10000 : Nat) = 9999 + 1 from rfl, Op.equalIn]
  simp only [Sem.run_bind, run_underlying Try.underlying143, Result.andThen_ok]
  simp only [Std.Legacy.Range.forIn_eq_forIn_range', Std.Legacy.Range.size, Nat.sub_zero, Nat.add_sub_cancel, Nat.div_one, List.range'_succ, List.range'_zero, List.forIn_cons, List.forIn_nil]
  go_simp
attribute [local go_sem] eq143
set_option maxRecDepth 100000 in
set_option maxHeartbeats 4000000 in
theorem sameBills_true (l : List Tri) (A A2 : Option Addr) (b off c b2 off2 c2 : Nat) (w : World) (hA : Lies A l.length w.heap.size b off) (hps : TsAt w b off l) (hA2 : Lies A2 l.length w.heap.size b2 off2) (hps2 : TsAt w b2 off2 l) (hm : l.length ≤ 1000000) :
    Calls Try.prog 72 #[.slice A l.length c, .slice A2 l.length c2] w fun e w' => e = .returned (.bool true) ∧ Below w.heap.size w w' := by
  have HP1 : Hid (∀ W, Below w.heap.size w W → TsAt W b off l) := (show ∀ W, _ from fun W hW j hj => hps.below hW (hA (by omega)).2 j hj)
  have HP2 : Hid (∀ W, Below w.heap.size w W → TsAt W b2 off2 l) := (show ∀ W, _ from fun W hW j hj => hps2.below hW (hA2 (by omega)).2 j hj)
  clear hps hps2
  go_enter Try.func72, Try.ntmps72
  generalize hn : l.length = n at *
  have HN := Lib.hid hn
  clear hn
  go_wp2_with fail
  go_loopg [5] n (fun gg s5 wr => ∃ k : Nat, k ≤ n ∧ n - k ≤ gg ∧ s5 = .int .i64 k ∧ Hid (Below w.heap.size w wr))
  case atStart => exact ⟨0, Nat.zero_le _, by omega, rfl, Below.refl _ _⟩
  case round =>
    obtain ⟨k, hk, hg, rfl, HBr⟩ := hrel
    by_cases hlt : k < n
    · have hltz : (k : Int) < (n : Int) := by omega
      have hk0 : (0 : Int) ≤ (k : Int) := by omega
      obtain ⟨rfl, hb⟩ := hA (by omega)
      obtain ⟨rfl, hb2⟩ := hA2 (by omega)
      obtain ⟨c0, c1, c2'⟩ := HP1.out wr HBr.out k (by have := HN.out; omega)
      obtain ⟨d0, d1, d2⟩ := HP2.out wr HBr.out k (by have := HN.out; omega)
      generalize gt3 l k = p at *
      go_wp2_with fail
      go_quiet (fail)
      go_wp2_with fail
      go_roundg (n - (k + 1))
      case measure => omega
      case rel => exact ⟨k + 1, by omega, by omega, by go_num, ⟨HBr.out.os, HBr.out.tape, HBr.out.output, HBr.out.size, HBr.out.block⟩⟩
    · have hltz : ¬ (k : Int) < (n : Int) := by omega
      go_wp2_with fail
      go_ret
      exact ⟨rfl, HBr.out⟩
end Go.Proofs.Ytlfeoofchebbkaa
