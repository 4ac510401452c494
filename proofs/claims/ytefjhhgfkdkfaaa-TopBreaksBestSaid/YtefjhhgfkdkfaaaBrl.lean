/- broken is true. -/
import Derived.Test.YtefjhhgfkdkfaaaBrk
namespace Go.Proofs.Ytefjhhgfkdkfaaa
set_option linter.unusedSimpArgs false
set_option linter.unusedVariables false
open Go.RowKit
def Rm4Post (w : World) (e : Ending) (w' : World) : Prop := ∃ v, e = .returned (.agg (fcs rom4 v)) ∧ SoV w' rom4.sorts v ∧ Below w.heap.size w w'
theorem rom4_sz : SzOk rom4.sorts := fun j hj => by
  have h : j < 6 := hj
  have hj6 : j = 0 ∨ j = 1 ∨ j = 2 ∨ j = 3 ∨ j = 4 ∨ j = 5 := by omega
  rcases hj6 with rfl | rfl | rfl | rfl | rfl | rfl <;> exact ⟨by decide, by decide⟩
set_option maxRecDepth 100000 in
set_option maxHeartbeats 4000000 in
theorem roman4_any (w : World) : Calls Try.prog 31 #[] w (Rm4Post w) := by
  have hb0 := below_new w (.cells #[.string ⟨#[]⟩, .int .i64 0, .slice none 0 0] 24)
  have hk0 := Blk.new w 24 #[.string ⟨#[]⟩, .int .i64 0, .slice none 0 0]
  have HR := Lib.hid (roman3_any (w.alloc (.cells #[.string ⟨#[]⟩, .int .i64 0, .slice none 0 0] 24)))
  have hs0 : (w.alloc (.cells #[.string ⟨#[]⟩, .int .i64 0, .slice none 0 0] 24)).heap.size = w.heap.size + 1 := by simp
  obtain ⟨i0, hi0, hz0, hz1, hz2⟩ := info_parts info128
  go_enter Try.func31, Try.ntmps31
  go_wp2_with fail
  refine HR.out.mono ?_
  rintro e w1 ⟨v, rfl, hso, hb1⟩
  obtain ⟨A, c, rfl⟩ := hso.shape
  have hl5 : romS.length = 5 := rfl
  rw [hs0] at hso
  have hw1s : w.heap.size + 1 ≤ w1.heap.size := by have := hb1.size; omega
  have HB1 := Lib.hid (hb0.trans (hb1.mono hb0.size))
  have HK0 := Lib.hid (hk0.below hb1 (by omega))
  have HSO := Lib.hid hso
  clear hso hb1 hb0 hk0 HR hs0
  rw [hl5]
  have hb2 := below_new w1 (.cells #[.string ⟨#[114, 111, 109]⟩, .int .i64 10, .slice A 5 c] 24)
  have hk2 := Blk.new w1 24 #[.string ⟨#[114, 111, 109]⟩, .int .i64 10, .slice A 5 c]
  have hb3 := below_new (w1.alloc (.cells #[.string ⟨#[114, 111, 109]⟩, .int .i64 10, .slice A 5 c] 24)) (.cells #[.string ⟨#[104, 121]⟩, .string ⟨#[45]⟩, .int .i64 1, .int .i64 100] 128)
  have hb23 := hb2.trans (hb3.mono hb2.size)
  have hk3 := hk2.below hb3 hk2.lt
  have hown3 : ((w1.alloc (.cells #[.string ⟨#[114, 111, 109]⟩, .int .i64 10, .slice A 5 c] 24)).alloc (.cells #[.string ⟨#[104, 121]⟩, .string ⟨#[45]⟩, .int .i64 1, .int .i64 100] 128)).ownsRow (w.heap.size + 1) 128 4 (.slice A 5 c) 5 (socl romS) := World.ownsRow.kept (row := none) HSO.out (grown_of_below hb23 none) (Classical.em _)
  have hnews : ∀ (j : Nat) (u : Value), ([.string ⟨#[104, 121]⟩, .string ⟨#[45]⟩, .int .i64 1, .int .i64 100] : List Value)[j]? = some u → ((w1.alloc (.cells #[.string ⟨#[114, 111, 109]⟩, .int .i64 10, .slice A 5 c] 24)).alloc (.cells #[.string ⟨#[104, 121]⟩, .string ⟨#[45]⟩, .int .i64 1, .int .i64 100] 128)).cell? ((⟨w1.heap.size + 1, 0, none⟩ : Addr).add j) = some u := by
    have := World.news_of_block (w := (w1.alloc (.cells #[.string ⟨#[114, 111, 109]⟩, .int .i64 10, .slice A 5 c] 24)).alloc (.cells #[.string ⟨#[104, 121]⟩, .string ⟨#[45]⟩, .int .i64 1, .int .i64 100] 128)) (heap_alloc_new (w1.alloc (.cells #[.string ⟨#[114, 111, 109]⟩, .int .i64 10, .slice A 5 c] 24)) _)
    rw [World.size_alloc] at this
    exact this
  have hbase : w.heap.size + 1 ≤ ((w1.alloc (.cells #[.string ⟨#[114, 111, 109]⟩, .int .i64 10, .slice A 5 c] 24)).alloc (.cells #[.string ⟨#[104, 121]⟩, .string ⟨#[45]⟩, .int .i64 1, .int .i64 100] 128)).heap.size := by have := hb23.size; omega
  have HB3 := Lib.hid hb23
  have HK3 := Lib.hid hk3
  have HOL := Lib.hid hown3.lt
  have HOW := Lib.hid hown3
  clear hb2 hk2 hb3 hb23 hk3 hown3
  go_wp2_with ((at_builtin
                refine wpList_append_lies _ rfl _ _ 22 (by rfl) (w.heap.size + 1) 128 i0 _ 4 48 Try.underlying22 hi0 hz0 hz1 hz2 rfl (by omega) _ 5 (socl romS) (by rfl) HOW.out ⟨w1.heap.size + 1, 0, none⟩ 1 1 [.string ⟨#[104, 121]⟩, .string ⟨#[45]⟩, .int .i64 1, .int .i64 100] (by rfl) (by rfl) hnews (by simp [Value.oneCell']) (by omega) (by decide) (by omega) hbase _ rfl ?_
                intro g4 c4 w4 hown4 hgrow4 hat4 hlt4
                have HK4 := Lib.hid (HK3.out.grown hgrow4 (own_blk_ne HOW.out HK3.out (by decide)))
                have hz4 : Blk w4 w.heap.size 24 #[.string ⟨#[]⟩, .int .i64 0, .slice none 0 0] := (HK0.out.below HB3.out HK0.out.lt).grown hgrow4 (fun e => by have := (HOL.out w.heap.size e.symm).1; omega)
                have HZ4 := Lib.hid hz4
                have HO4 := Lib.hid hown4
                have HB4 := Lib.hid ((HB1.out.trans (HB3.out.mono HB1.out.size)).grown hgrow4 (by have := HB1.out.size; have := HB3.out.size; omega) (fun t ht => by have := (HOL.out t ht).1; omega))
                have a0 := HK4.out.cell 0
                have a1 := HK4.out.cell 1
                have a2 := HK4.out.cell 2
                have al := HK4.out.lt
                have af := Blk.frozen HK4.out 2
                have b0 := hz4.cell 0
                have b1 := hz4.cell 1
                have b2 := hz4.cell 2
                have bl := hz4.lt
                have bf0 := Blk.frozen hz4 0
                have bf1 := Blk.frozen hz4 1
                have bf2 := Blk.frozen hz4 2
                clear hown4 hgrow4 hat4 hz4 hnews))
  have hne : w.heap.size ≠ w1.heap.size := by omega
  have h1 : Blk (w4.setCell ⟨w1.heap.size, 2, none⟩ (.slice (some ⟨g4, 0, none⟩) 6 c4)) w.heap.size 24 _ := (Below.heap_setCell _ _ _ _ hne).trans HZ4.out
  have h2 : Blk ((((w4.setCell ⟨w1.heap.size, 2, none⟩ (.slice (some ⟨g4, 0, none⟩) 6 c4)).setCell ⟨w.heap.size, 0, none⟩ (.string ⟨#[114, 111, 109]⟩)).setCell ⟨w.heap.size, 1, none⟩ (.int .i64 10)).setCell ⟨w.heap.size, 2, none⟩ (.slice (some ⟨g4, 0, none⟩) 6 c4)) w.heap.size 24 (fcs rom4 (.slice (some ⟨g4, 0, none⟩) 6 c4)) := by
    have := ((h1.set_ 0 (.string ⟨#[114, 111, 109]⟩)).set_ 1 (.int .i64 10)).set_ 2 (.slice (some ⟨g4, 0, none⟩) 6 c4)
    exact this
  refine bodyPost_ret (results_cell_row rfl _ _ w.heap.size 24 _ (0, 0) _ rfl h2 Try.underlying24 rfl info24) rfl ⟨_, rfl, ?_, ?_⟩
  · refine SoO.sov (B := w.heap.size + 1) ?_ rom4_sz
    have ho : SoO w4 (w.heap.size + 1) rom4.sorts (.slice (some ⟨g4, 0, none⟩) 6 c4) := HO4.out
    have ho2 : SoO (w4.setCell ⟨w1.heap.size, 2, none⟩ (.slice (some ⟨g4, 0, none⟩) 6 c4)) (w.heap.size + 1) rom4.sorts (.slice (some ⟨g4, 0, none⟩) 6 c4) := World.ownsRow.kept ho (grown_setCell _ _ _ _) (.inr (fun e => own_blk_ne ho HK4.out (by decide) e.symm))
    exact ownsRow_setCell_below (ownsRow_setCell_below (ownsRow_setCell_below ho2 (by show w.heap.size < _; omega) _) (by show w.heap.size < _; omega) _) (by show w.heap.size < _; omega) _
  · exact (((HB4.out.setCell (p := ⟨w1.heap.size, 2, none⟩) (by show _ ≤ w1.heap.size; omega) _).setCell (p := ⟨w.heap.size, 0, none⟩) (Nat.le_refl _) _).setCell (p := ⟨w.heap.size, 1, none⟩) (Nat.le_refl _) _).setCell (p := ⟨w.heap.size, 2, none⟩) (Nat.le_refl _) _
set_option maxRecDepth 100000 in
set_option maxHeartbeats 4000000 in
theorem broken_any (w : World) : Calls Try.prog 5 #[] w fun e w' => e = .returned (.bool true) ∧ Below w.heap.size w w' := by
  have hd : dist (tab rom4 rul4 div4) ((places div4).length - 1) = 50 := by rw [ex_pl]; exact ex_d
  go_enter Try.func5, Try.ntmps5
  go_wp2_with fail
  refine (roman4_any w).mono ?_
  rintro e w1 ⟨v, rfl, hv, hb1⟩
  obtain ⟨A, c, rfl⟩ := hv.shape
  have HV := Lib.hid hv
  have HB1 := Lib.hid hb1
  clear hv hb1
  go_wp2_with fail
  refine (rules4_any w1).mono ?_
  rintro e w2 ⟨rfl, hb2⟩
  have HV2 := Lib.hid (HV.out.below hb2)
  have HB2 := Lib.hid (HB1.out.trans (hb2.mono HB1.out.size))
  clear hb2
  go_wp2_with fail
  refine (divided_any w2).mono ?_
  rintro e w3 ⟨vw, rfl, hw, hb3⟩
  have HV3 := Lib.hid (HV2.out.below hb3)
  have HB3 := Lib.hid (HB2.out.trans (hb3.mono HB2.out.size))
  obtain ⟨Aw, cw, rfl, -⟩ := hw.shape
  have HW := Lib.hid hw
  clear hb3 hw
  go_wp2_with fail
  refine (bestO_any rom4 _ rul4 div4 _ w3 HV3.out (by decide) HW.out).mono ?_
  rintro e w4 ⟨hb4, ⟨h, -⟩ | ⟨-, h, -⟩ | ⟨-, -, b, vb, vl, rfl, -, -, -⟩⟩
  · exact absurd ex_pa h
  · rw [hd] at h
    exact absurd h (by decide)
  rw [hd]
  have HB4 := Lib.hid (HB3.out.trans (hb4.mono HB3.out.size))
  clear hb4
  go_wp2_with fail
  go_ret
  exact ⟨rfl, HB4.out⟩
end Go.Proofs.Ytefjhhgfkdkfaaa
