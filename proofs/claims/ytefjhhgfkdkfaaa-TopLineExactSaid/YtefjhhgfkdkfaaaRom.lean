/- roman: the fount of the examples. -/
import Derived.Test.YtefjhhgfkdkfaaaLwd
namespace Go.Proofs.Ytefjhhgfkdkfaaa
set_option linter.unusedSimpArgs false
set_option linter.unusedVariables false
open Go.RowKit
def romS : List TSort := [⟨⟨#[97]⟩, ⟨#[97]⟩, 1, 300⟩, ⟨⟨#[98]⟩, ⟨#[98]⟩, 1, 330⟩, ⟨⟨#[102, 105]⟩, ⟨#[102, 105]⟩, 2, 360⟩, ⟨⟨#[116, 104, 105, 99, 107]⟩, ⟨#[]⟩, 3, 200⟩, ⟨⟨#[116, 104, 105, 110]⟩, ⟨#[]⟩, 3, 120⟩]
def RmPost (w : World) (e : Ending) (w' : World) : Prop := ∃ v, e = .returned (.agg #[.string ⟨#[114, 111, 109]⟩, .int .i64 10, v]) ∧ SoO w' w.heap.size romS v ∧ Below w.heap.size w w'
set_option maxRecDepth 100000 in
set_option maxHeartbeats 4000000 in
theorem roman3_any (w : World) : Calls Try.prog 75 #[] w (RmPost w) := by
  go_enter Try.func75, Try.ntmps75
  go_wp2_with fail
  have hk0 := (Blk.new w 24 #[.string ⟨#[114, 111, 109]⟩, .int .i64 10, .slice (some ⟨w.heap.size + 1, 0, none⟩) 5 5]).below (below_new _ (.cells (socl romS).toArray 128)) (by simp)
  have hk1 := Blk.new (w.alloc (.cells #[.string ⟨#[114, 111, 109]⟩, .int .i64 10, .slice (some ⟨w.heap.size + 1, 0, none⟩) 5 5] 24)) 128 (socl romS).toArray
  rw [World.size_alloc] at hk1
  refine bodyPost_ret (results_cell_row rfl _ _ w.heap.size 24 _ (0, 0) _ rfl hk0 Try.underlying24 rfl info24) rfl ⟨_, rfl, ?_, ?_⟩
  · exact own_of_block (n := 5) hk1 (by omega) rfl (by omega) (by decide) rfl (fun j _ => by rw [List.getElem?_toArray])
  · exact (below_new w _).trans ((below_new _ _).mono (by simp))
end Go.Proofs.Ytefjhhgfkdkfaaa
