/- The example of chapter 3, in plain words: the line of three letters. -/
import Derived.Test.YtefjhhgfkdkfaaaJst
import Derived.Test.YtefjhhgfkdkfaaaRom
import Derived.Test.YtefjhhgfkdkfaaaCpt
namespace Go.Proofs.Ytefjhhgfkdkfaaa
set_option linter.unusedSimpArgs false
set_option linter.unusedVariables false
def rom3 : Fnt := ⟨⟨#[114, 111, 109]⟩, 10, romS⟩
def tskX : Tsk := ⟨rom3, [10, 10, 10, 10, 10], [], [[0], [1], [2]], 1550⟩
theorem exl_op : opnE tskX = 0 := by decide +kernel
theorem exl_tk : takR tskX.cs (ownL tskX) = some [9, 9, 9, 10, 10] := by decide +kernel
theorem exl_ch : chzT tskX [9, 9, 9, 10, 10] = some [1, 3] := by decide +kernel
theorem exl_j : justL tskX [1, 3] = [0, 3, 4, 1, 4, 4, 2] := by decide +kernel
end Go.Proofs.Ytefjhhgfkdkfaaa
/- justified: the example of chapter 3 is so. -/
namespace Go.Proofs.Ytefjhhgfkdkfaaa
set_option linter.unusedSimpArgs false
set_option linter.unusedVariables false
open Go.RowKit
theorem sz_rom : SzOk romS := fun j hj => by
  have hj2 : j < 5 := hj
  rcases (show j = 0 ∨ j = 1 ∨ j = 2 ∨ j = 3 ∨ j = 4 by omega) with rfl | rfl | rfl | rfl | rfl <;> decide
theorem grown_all7 (W : World) (g : Nat) (d0 d1 d2 d3 d4 d5 d6 : Value) : W.grownBy (((((((W.setCell ⟨g, 0, none⟩ d0).setCell ⟨g, 1, none⟩ d1).setCell ⟨g, 2, none⟩ d2).setCell ⟨g, 3, none⟩ d3).setCell ⟨g, 4, none⟩ d4).setCell ⟨g, 5, none⟩ d5).setCell ⟨g, 6, none⟩ d6) (some g) := (grown_trans (grown_trans (grown_trans (grown_trans (grown_trans (grown_trans (grown_setCell _ _ _ _) (grown_setCell _ _ _ _)) (grown_setCell _ _ _ _)) (grown_setCell _ _ _ _)) (grown_setCell _ _ _ _)) (grown_setCell _ _ _ _)) (grown_setCell _ _ _ _))
theorem ex_new {W : World} {g : Nat} {t : TypeId} {cs : Array Value} {o : Obj} (hl : g < W.heap.size) (h : Blk W g t cs) : Blk (W.alloc o) g t cs := h.below (below_new W o) hl
theorem ex_at {W : World} {g : Nat} {t : TypeId} {cs : Array Value} (hg : g = W.heap.size) : Blk (W.alloc (.cells cs t)) g t cs := by subst hg; exact Blk.new W t cs
theorem jx_one {W : World} {g : Nat} {x : Int} (h : Blk W g 3 #[.int .i64 x]) : IV W [x] (.slice (some ⟨g, 0, none⟩) 1 1) :=
  IV.mk (zs := [x]) (b := g) (off := 0) (fun _ => ⟨rfl, h.lt⟩) (fun j hj => by
    have : j = 0 := by simp at hj; omega
    subst this
    exact h.cell 0) (Nat.le_refl _) (by decide)
theorem jx_res {W : World} {bR : Nat} {cs : Array Value} (hg : Blk W bR 51 cs) (hs : cs.size = 7) (tmps : Array Value) (hp : tmps.getD 4 undef = .pointer (some ⟨bR, 0, none⟩)) :
    (results Try.f49 tmps).run Try.prog W = .ok (.agg cs) W := by
  have h : Try.f49.results = #[.cell 4 51] := rfl
  have hi : (Try.prog.info? 51).map (·.size) = some cs.size := by rw [hs]; kernel_rfl
  have hp' : tmps[4]?.getD undef = .pointer (some ⟨bR, 0, none⟩) := by simpa using hp
  simp only [results, h]
  simp [Sem.run_bind, Result.andThen, hp', asAddr, run_loadVar_row W bR 51 51 cs (0, 0) _ hg Try.underlying51 rfl hi]
set_option maxRecDepth 100000 in
set_option maxHeartbeats 4000000 in
theorem task49_any (w : World) : Calls Try.prog 49 #[.int .i64 1550, .int .i64 10] w (CtPost tskX w) := by
  have hb0 := below_new w (.cells #[.string ⟨#[]⟩, .int .i64 0, .slice none 0 0, .slice none 0 0, .slice none 0 0, .slice none 0 0, .int .i64 0] 51)
  have hR := Blk.new w 51 #[.string ⟨#[]⟩, .int .i64 0, .slice none 0 0, .slice none 0 0, .slice none 0 0, .slice none 0 0, .int .i64 0]
  have HB0 := Lib.hid hb0
  have HR0 := Lib.hid hR
  have HC := Lib.hid (roman3_any (w.alloc (.cells #[.string ⟨#[]⟩, .int .i64 0, .slice none 0 0, .slice none 0 0, .slice none 0 0, .slice none 0 0, .int .i64 0] 51)))
  clear hb0 hR
  go_enter Try.func49, Try.ntmps49
  go_wp2_with fail
  refine HC.out.mono ?_
  rintro e w1 ⟨v, rfl, hso, hb1⟩
  obtain ⟨A, c, rfl⟩ := SoO.shape hso
  have HSO := Lib.hid hso
  have HB1 := Lib.hid (HB0.out.trans (hb1.mono HB0.out.size))
  have HR1 := Lib.hid (HR0.out.below hb1 HR0.out.lt)
  clear hb1 hso HC HB0 HR0
  have hx1 := below_new w1 (.cells #[.int .i64 10, .int .i64 10, .int .i64 10, .int .i64 10, .int .i64 10] 3)
  have hx2 := hx1.alloc hx1.size (.cells #[.int .i64 0] 3)
  have hx3 := hx2.alloc hx2.size (.cells #[.int .i64 1] 3)
  have hx4 := hx3.alloc hx3.size (.cells #[.int .i64 2] 3)
  have hx5 : Below w1.heap.size w1 (((((w1.alloc (.cells #[.int .i64 10, .int .i64 10, .int .i64 10, .int .i64 10, .int .i64 10] 3)).alloc (.cells #[.int .i64 0] 3)).alloc (.cells #[.int .i64 1] 3)).alloc (.cells #[.int .i64 2] 3)).alloc (.cells #[.slice (some ⟨w1.heap.size + 1, 0, none⟩) 1 1, .slice (some ⟨w1.heap.size + 1 + 1, 0, none⟩) 1 1, .slice (some ⟨w1.heap.size + 1 + 1 + 1, 0, none⟩) 1 1] 30)) := hx4.alloc hx4.size _
  have k1 : Blk (((((w1.alloc (.cells #[.int .i64 10, .int .i64 10, .int .i64 10, .int .i64 10, .int .i64 10] 3)).alloc (.cells #[.int .i64 0] 3)).alloc (.cells #[.int .i64 1] 3)).alloc (.cells #[.int .i64 2] 3)).alloc (.cells #[.slice (some ⟨w1.heap.size + 1, 0, none⟩) 1 1, .slice (some ⟨w1.heap.size + 1 + 1, 0, none⟩) 1 1, .slice (some ⟨w1.heap.size + 1 + 1 + 1, 0, none⟩) 1 1] 30)) w1.heap.size 3 #[.int .i64 10, .int .i64 10, .int .i64 10, .int .i64 10, .int .i64 10] := ex_new (by simp only [World.size_alloc]; omega) (ex_new (by simp only [World.size_alloc]; omega) (ex_new (by simp only [World.size_alloc]; omega) (ex_new (by simp only [World.size_alloc]; omega) (Blk.new w1 3 _))))
  have k2 : Blk (((((w1.alloc (.cells #[.int .i64 10, .int .i64 10, .int .i64 10, .int .i64 10, .int .i64 10] 3)).alloc (.cells #[.int .i64 0] 3)).alloc (.cells #[.int .i64 1] 3)).alloc (.cells #[.int .i64 2] 3)).alloc (.cells #[.slice (some ⟨w1.heap.size + 1, 0, none⟩) 1 1, .slice (some ⟨w1.heap.size + 1 + 1, 0, none⟩) 1 1, .slice (some ⟨w1.heap.size + 1 + 1 + 1, 0, none⟩) 1 1] 30)) (w1.heap.size + 1) 3 #[.int .i64 0] := ex_new (by simp only [World.size_alloc]; omega) (ex_new (by simp only [World.size_alloc]; omega) (ex_new (by simp only [World.size_alloc]; omega) (ex_at (by simp only [World.size_alloc]))))
  have k3 : Blk (((((w1.alloc (.cells #[.int .i64 10, .int .i64 10, .int .i64 10, .int .i64 10, .int .i64 10] 3)).alloc (.cells #[.int .i64 0] 3)).alloc (.cells #[.int .i64 1] 3)).alloc (.cells #[.int .i64 2] 3)).alloc (.cells #[.slice (some ⟨w1.heap.size + 1, 0, none⟩) 1 1, .slice (some ⟨w1.heap.size + 1 + 1, 0, none⟩) 1 1, .slice (some ⟨w1.heap.size + 1 + 1 + 1, 0, none⟩) 1 1] 30)) (w1.heap.size + 1 + 1) 3 #[.int .i64 1] := ex_new (by simp only [World.size_alloc]; omega) (ex_new (by simp only [World.size_alloc]; omega) (ex_at (by simp only [World.size_alloc])))
  have k4 : Blk (((((w1.alloc (.cells #[.int .i64 10, .int .i64 10, .int .i64 10, .int .i64 10, .int .i64 10] 3)).alloc (.cells #[.int .i64 0] 3)).alloc (.cells #[.int .i64 1] 3)).alloc (.cells #[.int .i64 2] 3)).alloc (.cells #[.slice (some ⟨w1.heap.size + 1, 0, none⟩) 1 1, .slice (some ⟨w1.heap.size + 1 + 1, 0, none⟩) 1 1, .slice (some ⟨w1.heap.size + 1 + 1 + 1, 0, none⟩) 1 1] 30)) (w1.heap.size + 1 + 1 + 1) 3 #[.int .i64 2] := ex_new (by simp only [World.size_alloc]; omega) (ex_at (by simp only [World.size_alloc]))
  have k5 : Blk (((((w1.alloc (.cells #[.int .i64 10, .int .i64 10, .int .i64 10, .int .i64 10, .int .i64 10] 3)).alloc (.cells #[.int .i64 0] 3)).alloc (.cells #[.int .i64 1] 3)).alloc (.cells #[.int .i64 2] 3)).alloc (.cells #[.slice (some ⟨w1.heap.size + 1, 0, none⟩) 1 1, .slice (some ⟨w1.heap.size + 1 + 1, 0, none⟩) 1 1, .slice (some ⟨w1.heap.size + 1 + 1 + 1, 0, none⟩) 1 1] 30)) (w1.heap.size + 1 + 1 + 1 + 1) 30 #[.slice (some ⟨w1.heap.size + 1, 0, none⟩) 1 1, .slice (some ⟨w1.heap.size + 1 + 1, 0, none⟩) 1 1, .slice (some ⟨w1.heap.size + 1 + 1 + 1, 0, none⟩) 1 1] := ex_at (by simp only [World.size_alloc])
  have HR5 := Lib.hid (HR1.out.below hx5 HR1.out.lt)
  have HB5 := Lib.hid (HB1.out.trans (hx5.mono HB1.out.size))
  have HK1 := Lib.hid k1
  have HK2 := Lib.hid k2
  have HK3 := Lib.hid k3
  have HK4 := Lib.hid k4
  have HK5 := Lib.hid k5
  have HS5 : Hid (SoO (((((w1.alloc (.cells #[.int .i64 10, .int .i64 10, .int .i64 10, .int .i64 10, .int .i64 10] 3)).alloc (.cells #[.int .i64 0] 3)).alloc (.cells #[.int .i64 1] 3)).alloc (.cells #[.int .i64 2] 3)).alloc (.cells #[.slice (some ⟨w1.heap.size + 1, 0, none⟩) 1 1, .slice (some ⟨w1.heap.size + 1 + 1, 0, none⟩) 1 1, .slice (some ⟨w1.heap.size + 1 + 1 + 1, 0, none⟩) 1 1] 30)) (w.heap.size + 1) romS (.slice A romS.length c)) := (show World.ownsRow _ _ _ _ _ _ _ from by
    have h1 : w1.ownsRow (w.alloc (.cells #[.string ⟨#[]⟩, .int .i64 0, .slice none 0 0, .slice none 0 0, .slice none 0 0, .slice none 0 0, .int .i64 0] 51)).heap.size 128 4 (.slice A romS.length c) romS.length (socl romS) := HSO.out
    have h2 := World.ownsRow.kept (row := none) h1 (grown_of_below hx5 none) (Classical.em _)
    refine World.ownsRow.mono h2 (by simp))
  have hwl : w.heap.size < w1.heap.size := HR1.out.lt
  have HWL := Lib.hid hwl
  have r0 := HR5.out.cell 0
  have z0 := Blk.frozen HR5.out 0
  have r1 := HR5.out.cell 1
  have z1 := Blk.frozen HR5.out 1
  have r2 := HR5.out.cell 2
  have z2 := Blk.frozen HR5.out 2
  have r3 := HR5.out.cell 3
  have z3 := Blk.frozen HR5.out 3
  have r4 := HR5.out.cell 4
  have z4 := Blk.frozen HR5.out 4
  have r5 := HR5.out.cell 5
  have z5 := Blk.frozen HR5.out 5
  have r6 := HR5.out.cell 6
  have z6 := Blk.frozen HR5.out 6
  have rl := HR5.out.lt
  clear hx1 hx2 hx3 hx4 hx5 k1 k2 k3 k4 k5
  go_wp2_with fail
  generalize (((((w1.alloc (.cells #[.int .i64 10, .int .i64 10, .int .i64 10, .int .i64 10, .int .i64 10] 3)).alloc (.cells #[.int .i64 0] 3)).alloc (.cells #[.int .i64 1] 3)).alloc (.cells #[.int .i64 2] 3)).alloc (.cells #[.slice (some ⟨w1.heap.size + 1, 0, none⟩) 1 1, .slice (some ⟨w1.heap.size + 1 + 1, 0, none⟩) 1 1, .slice (some ⟨w1.heap.size + 1 + 1 + 1, 0, none⟩) 1 1] 30)) = W5 at *
  have hne : ∀ b, w1.heap.size ≤ b → b ≠ w.heap.size := fun b hb => by have := HWL.out; omega
  refine bodyPost_ret (jx_res (HR5.out.all7 _ _ _ _ _ _ _) rfl _ rfl) rfl ?_
  have hg7 := grown_all7 W5 w.heap.size (.string ⟨#[114, 111, 109]⟩) (.int .i64 10) (.slice A romS.length c) (.slice (some ⟨w1.heap.size, 0, none⟩) 5 5) (.slice none 0 0) (.slice (some ⟨w1.heap.size + 1 + 1 + 1 + 1, 0, none⟩) 3 3) (.int .i64 1550)
  have b1 : Blk _ w1.heap.size 3 _ := (hg7.block _ HK1.out.lt (fun e => by injection e with e; exact hne _ (by omega) e)).trans HK1.out
  have b2 : Blk _ (w1.heap.size + 1) 3 _ := (hg7.block _ HK2.out.lt (fun e => by injection e with e; exact hne _ (by omega) e)).trans HK2.out
  have b3 : Blk _ (w1.heap.size + 1 + 1) 3 _ := (hg7.block _ HK3.out.lt (fun e => by injection e with e; exact hne _ (by omega) e)).trans HK3.out
  have b4 : Blk _ (w1.heap.size + 1 + 1 + 1) 3 _ := (hg7.block _ HK4.out.lt (fun e => by injection e with e; exact hne _ (by omega) e)).trans HK4.out
  have b5 : Blk _ (w1.heap.size + 1 + 1 + 1 + 1) 30 _ := (hg7.block _ HK5.out.lt (fun e => by injection e with e; exact hne _ (by omega) e)).trans HK5.out
  refine ⟨.slice A romS.length c, .slice (some ⟨w1.heap.size, 0, none⟩) 5 5, .slice none 0 0, .slice (some ⟨w1.heap.size + 1 + 1 + 1 + 1, 0, none⟩) 3 3, rfl, ⟨SoO.sov (B := w.heap.size + 1) (own_all7 HS5.out (Nat.lt_succ_self _) _ _ _ _ _ _ _) sz_rom, ?_, IV.nil _, ?_⟩, below_all7 HB5.out (Nat.le_refl _) _ _ _ _ _ _ _⟩
  · refine IV.mk (zs := tskX.cs) (b := w1.heap.size) (off := 0) (fun _ => ⟨rfl, b1.lt⟩) (fun j hj => ?_) (Nat.le_refl _) (by decide)
    have hj2 : j < 5 := hj
    rcases (show j = 0 ∨ j = 1 ∨ j = 2 ∨ j = 3 ∨ j = 4 by omega) with rfl | rfl | rfl | rfl | rfl
    · exact b1.cell 0
    · exact b1.cell 1
    · exact b1.cell 2
    · exact b1.cell 3
    · exact b1.cell 4
  · refine ⟨fun j => if j = 0 then .slice (some ⟨w1.heap.size + 1, 0, none⟩) 1 1 else if j = 1 then .slice (some ⟨w1.heap.size + 1 + 1, 0, none⟩) 1 1 else .slice (some ⟨w1.heap.size + 1 + 1 + 1, 0, none⟩) 1 1, ⟨some ⟨_, 0, none⟩, _, 0, 3, rfl, fun _ => ⟨rfl, b5.lt⟩, fun j hj => ?_, Nat.le_refl _, by decide⟩, fun i hi => ?_⟩
    · have hj2 : j < 3 := hj
      rcases (show j = 0 ∨ j = 1 ∨ j = 2 by omega) with rfl | rfl | rfl
      · exact b5.cell 0
      · exact b5.cell 1
      · exact b5.cell 2
    · have hi2 : i < 3 := hi
      rcases (show i = 0 ∨ i = 1 ∨ i = 2 by omega) with rfl | rfl | rfl
      · exact jx_one b2
      · exact jx_one b3
      · exact jx_one b4
end Go.Proofs.Ytefjhhgfkdkfaaa
/- justified: the example of chapter 3 is so. -/
namespace Go.Proofs.Ytefjhhgfkdkfaaa
set_option linter.unusedSimpArgs false
set_option linter.unusedVariables false
open Go.RowKit
set_option maxRecDepth 100000 in
set_option maxHeartbeats 4000000 in
theorem justified_any (w : World) : Calls Try.prog 16 #[] w fun e w' => e = .returned (.bool true) ∧ Below w.heap.size w w' := by
  have HC := Lib.hid (task49_any w)
  have HJ : Hid (∀ W v vc vi vw, TkV W tskX v vc vi vw → Calls Try.prog 19 #[.agg (xts tskX v vc vi vw)] W (JuPost tskX W)) := (show ∀ W v vc vi vw, _ from fun W v vc vi vw h => justify_any tskX v vc vi vw W h (by decide) (by decide))
  go_enter Try.func16, Try.ntmps16
  go_wp2_with fail
  refine HC.out.mono ?_
  rintro e w1 ⟨v, vc, vi, vw, rfl, htk, hb1⟩
  have HB1 := Lib.hid hb1
  have HC2 := Lib.hid (HJ.out w1 v vc vi vw htk)
  clear htk hb1 HC HJ
  go_wp2_with fail
  refine HC2.out.mono ?_
  rintro e w2 ⟨hb2, hans⟩
  have HB2 := Lib.hid (HB1.out.trans (hb2.mono HB1.out.size))
  obtain ⟨u, rfl, HIO⟩ : ∃ u, e = .returned (.tuple #[.agg #[.int .i64 1550, u], .int .i64 0]) ∧ Hid (IO w2 w1.heap.size [0, 3, 4, 1, 4, 4, 2] u) := by
    rcases hans with ⟨h1, -⟩ | ⟨-, lf, h2, ⟨h3, -⟩ | ⟨r, u, h3, h4, h5⟩⟩
    · exact absurd exl_op h1
    · rw [exl_tk] at h2
      injection h2 with h2
      subst h2
      rw [exl_ch] at h3
      cases h3
    · rw [exl_tk] at h2
      injection h2 with h2
      subst h2
      rw [exl_ch] at h3
      injection h3 with h3
      subst h3
      rw [exl_j] at h5
      exact ⟨u, h4, h5⟩
  obtain ⟨A, c, rfl⟩ := HIO.out.shape
  clear hb2 hans HC2
  have HI := Lib.hid ((HIO.out.iv.below (below_new w2 (.cells #[.int .i64 1550, .slice A ([0, 3, 4, 1, 4, 4, 2] : List Int).length c] 55))).below (below_new (w2.alloc (.cells #[.int .i64 1550, .slice A ([0, 3, 4, 1, 4, 4, 2] : List Int).length c] 55)) (.cells #[.int .i64 0, .int .i64 3, .int .i64 4, .int .i64 1, .int .i64 4, .int .i64 4, .int .i64 2] 3)))
  have hblk := Blk.new (w2.alloc (.cells #[.int .i64 1550, .slice A ([0, 3, 4, 1, 4, 4, 2] : List Int).length c] 55)) 3 #[.int .i64 0, .int .i64 3, .int .i64 4, .int .i64 1, .int .i64 4, .int .i64 4, .int .i64 2]
  have hiv : IV ((w2.alloc (.cells #[.int .i64 1550, .slice A ([0, 3, 4, 1, 4, 4, 2] : List Int).length c] 55)).alloc (.cells #[.int .i64 0, .int .i64 3, .int .i64 4, .int .i64 1, .int .i64 4, .int .i64 4, .int .i64 2] 3)) [0, 3, 4, 1, 4, 4, 2] (.slice (some ⟨w2.heap.size + 1, 0, none⟩) 7 7) := by
    rw [World.size_alloc] at hblk
    refine IV.mk (zs := [0, 3, 4, 1, 4, 4, 2]) (b := w2.heap.size + 1) (off := 0) (fun _ => ⟨rfl, hblk.lt⟩) (fun j hj => ?_) (Nat.le_refl _) (by decide)
    have hj2 : j < 7 := hj
    rcases (show j = 0 ∨ j = 1 ∨ j = 2 ∨ j = 3 ∨ j = 4 ∨ j = 5 ∨ j = 6 by omega) with rfl | rfl | rfl | rfl | rfl | rfl | rfl
    · exact hblk.cell 0
    · exact hblk.cell 1
    · exact hblk.cell 2
    · exact hblk.cell 3
    · exact hblk.cell 4
    · exact hblk.cell 5
    · exact hblk.cell 6
  have HEQ := Lib.hid (ints27_any [0, 3, 4, 1, 4, 4, 2] [0, 3, 4, 1, 4, 4, 2] _ _ _ HI.out hiv (by decide) (by decide))
  have HB4 := Lib.hid ((HB2.out.alloc HB2.out.size (.cells #[.int .i64 1550, .slice A ([0, 3, 4, 1, 4, 4, 2] : List Int).length c] 55)).alloc (HB2.out.alloc HB2.out.size _).size (.cells #[.int .i64 0, .int .i64 3, .int .i64 4, .int .i64 1, .int .i64 4, .int .i64 4, .int .i64 2] 3))
  clear hblk hiv HI
  go_wp2_with fail
  refine HEQ.out.mono ?_
  rintro e w5 ⟨rfl, hb5⟩
  have HB5 := Lib.hid (HB4.out.trans (hb5.mono HB4.out.size))
  clear hb5 HEQ
  go_wp2_with fail
  go_ret
  exact ⟨rfl, HB5.out⟩
end Go.Proofs.Ytefjhhgfkdkfaaa
