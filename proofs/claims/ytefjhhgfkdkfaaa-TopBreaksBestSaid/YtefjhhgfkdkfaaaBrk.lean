/- broken: the example of chapter 4 is so. -/
import Derived.Test.YtefjhhgfkdkfaaaExm
import Derived.Test.YtefjhhgfkdkfaaaLwd
import Derived.Test.YtefjhhgfkdkfaaaBtt
namespace Go.Proofs.Ytefjhhgfkdkfaaa
set_option linter.unusedSimpArgs false
set_option linter.unusedVariables false
open Go.RowKit
def RmPost (w : World) (e : Ending) (w' : World) : Prop := ∃ v, e = .returned (.agg #[.string ⟨#[114, 111, 109]⟩, .int .i64 10, v]) ∧ SoO w' w.heap.size romS v ∧ Below w.heap.size w w'
set_option maxRecDepth 100000 in
set_option maxHeartbeats 4000000 in
theorem roman3_any (w : World) : Calls Try.prog 75 #[] w (RmPost w) := by
  go_enter Try.func75, Try.ntmps75
  go_wp2_with fail
  have hk0 := (Blk.new w 24 #[.string ⟨#[114, 111, 109]⟩, .int .i64 10, .slice (some ⟨w.heap.size + 1, 0, none⟩) 5 5]).below (below_new _ (.cells (socl romS).toArray 128)) (by simp)
  have hk1 := Blk.new (w.alloc (.cells #[.string ⟨#[114, 111, 109]⟩, .int .i64 10, .slice (some ⟨w.heap.size + 1, 0, none⟩) 5 5] 24)) 128 (socl romS).toArray
  rw [World.size_alloc] at hk1
  refine bodyPost_ret (results_cell_row rfl _ _ w.heap.size 24 _ (0, 0) _ rfl hk0 Try.underlying24 rfl info24) rfl ⟨_, rfl, ?_, ?_⟩
  · exact own_of_block (n := 5) hk1 (by omega) rfl (by omega) (by decide) rfl (fun j _ => by rw [List.getElem?_toArray])
  · exact (below_new w _).trans ((below_new _ _).mono (by simp))
theorem info26 : (Try.prog.info? 26).map (·.size) = some 8 := by kernel_rfl
theorem rules4_any (w : World) : Calls Try.prog 32 #[] w fun e w' => e = .returned (.agg (rcs rul4)) ∧ Below w.heap.size w w' := by
  go_enter Try.func32, Try.ntmps32
  go_wp2_with fail
  exact bodyPost_ret (results_cell_row rfl _ _ w.heap.size 26 _ (0, 0) _ rfl (Blk.new w 26 (rcs rul4)) Try.underlying26 rfl info26) rfl ⟨rfl, below_new w _⟩
theorem iv_of_blk {W : World} {g : Nat} {zs : List Int} (h : Blk W g 3 (zv zs).toArray) (hm : zs.length ≤ 1000) : IV W zs (.slice (some ⟨g, 0, none⟩) zs.length zs.length) :=
  IV.mk (b := g) (off := 0) (fun _ => ⟨rfl, h.lt⟩) (fun j hj => by rw [Nat.zero_add, h.cell, List.getElem?_toArray, zv_get hj]) (Nat.le_refl _) (by omega)
theorem divided_any (w : World) : Calls Try.prog 33 #[] w fun e w' => ∃ v, e = .returned v ∧ WoV w' div4 v ∧ Below w.heap.size w w' := by
  go_enter Try.func33, Try.ntmps33
  go_wp2_with fail
  have hb1 := below_new w (.cells #[.int .i64 0] 3)
  have k1 := Blk.new w 3 #[.int .i64 0]
  have s1 : (w.alloc (.cells #[.int .i64 0] 3)).heap.size = w.heap.size + 1 := by simp
  generalize w.alloc (.cells #[.int .i64 0] 3) = w1 at *
  have hb2 := below_new w1 (.cells #[.int .i64 0] 3)
  have k2 := Blk.new w1 3 #[.int .i64 0]
  have s2 : (w1.alloc (.cells #[.int .i64 0] 3)).heap.size = w.heap.size + 1 + 1 := by simp; omega
  rw [s1] at k2
  generalize w1.alloc (.cells #[.int .i64 0] 3) = w2 at *
  have hb3 := below_new w2 (.cells #[.int .i64 0, .int .i64 0] 3)
  have k3 := Blk.new w2 3 #[.int .i64 0, .int .i64 0]
  have s3 : (w2.alloc (.cells #[.int .i64 0, .int .i64 0] 3)).heap.size = w.heap.size + 1 + 1 + 1 := by simp; omega
  rw [s2] at k3
  generalize w2.alloc (.cells #[.int .i64 0, .int .i64 0] 3) = w3 at *
  have hb4 := below_new w3 (.cells #[.int .i64 1] 3)
  have k4 := Blk.new w3 3 #[.int .i64 1]
  have s4 : (w3.alloc (.cells #[.int .i64 1] 3)).heap.size = w.heap.size + 1 + 1 + 1 + 1 := by simp; omega
  rw [s3] at k4
  generalize w3.alloc (.cells #[.int .i64 1] 3) = w4 at *
  have hb5 := below_new w4 (.cells #[.int .i64 0] 3)
  have k5 := Blk.new w4 3 #[.int .i64 0]
  have s5 : (w4.alloc (.cells #[.int .i64 0] 3)).heap.size = w.heap.size + 1 + 1 + 1 + 1 + 1 := by simp; omega
  rw [s4] at k5
  generalize w4.alloc (.cells #[.int .i64 0] 3) = w5 at *
  have hb6 := below_new w5 (.cells #[.slice (some ⟨w.heap.size, 0, none⟩) 1 1, .slice none 0 0, .slice (some ⟨w.heap.size + 1, 0, none⟩) 1 1, .slice none 0 0, .slice (some ⟨w.heap.size + 1 + 1, 0, none⟩) 2 2, .slice (some ⟨w.heap.size + 1 + 1 + 1, 0, none⟩) 1 1, .slice (some ⟨w.heap.size + 1 + 1 + 1 + 1, 0, none⟩) 1 1, .slice none 0 0] 97)
  have k6 := Blk.new w5 97 #[.slice (some ⟨w.heap.size, 0, none⟩) 1 1, .slice none 0 0, .slice (some ⟨w.heap.size + 1, 0, none⟩) 1 1, .slice none 0 0, .slice (some ⟨w.heap.size + 1 + 1, 0, none⟩) 2 2, .slice (some ⟨w.heap.size + 1 + 1 + 1, 0, none⟩) 1 1, .slice (some ⟨w.heap.size + 1 + 1 + 1 + 1, 0, none⟩) 1 1, .slice none 0 0]
  rw [s5] at k6
  refine bodyPost_ret (results_tmp rfl _ _ _) rfl ⟨_, rfl, ?_, ?_⟩
  rotate_left
  · exact hb1.trans ((hb2.mono (by omega)).trans ((hb3.mono (by omega)).trans ((hb4.mono (by omega)).trans ((hb5.mono (by omega)).trans (hb6.mono (by omega))))))
  have h1 := ((((k1.below hb2 (by omega)).below hb3 (by omega)).below hb4 (by omega)).below hb5 (by omega)).below hb6 (by omega)
  have h2 := (((k2.below hb3 (by omega)).below hb4 (by omega)).below hb5 (by omega)).below hb6 (by omega)
  have h3 := ((k3.below hb4 (by omega)).below hb5 (by omega)).below hb6 (by omega)
  have h4 := (k4.below hb5 (by omega)).below hb6 (by omega)
  have h5 := k5.below hb6 (by omega)
  have e0 := fun i => k6.cell i
  refine ⟨some ⟨w.heap.size + 1 + 1 + 1 + 1 + 1, 0, none⟩, w.heap.size + 1 + 1 + 1 + 1 + 1, 0, 4, rfl, fun _ => ⟨rfl, k6.lt⟩, ?_, by decide, by decide⟩
  intro j hj
  have hj4 : j = 0 ∨ j = 1 ∨ j = 2 ∨ j = 3 := by have : div4.length = 4 := rfl; omega
  rcases hj4 with rfl | rfl | rfl | rfl
  · exact ⟨_, _, e0 0, e0 1, iv_of_blk (zs := [0]) h1 (by decide), IV.nil _⟩
  · exact ⟨_, _, e0 2, e0 3, iv_of_blk (zs := [0]) h2 (by decide), IV.nil _⟩
  · exact ⟨_, _, e0 4, e0 5, iv_of_blk (zs := [0, 0]) h3 (by decide), iv_of_blk (zs := [1]) h4 (by decide)⟩
  · exact ⟨_, _, e0 6, e0 7, iv_of_blk (zs := [0]) h5 (by decide), IV.nil _⟩
end Go.Proofs.Ytefjhhgfkdkfaaa
