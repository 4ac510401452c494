/- DemeritsOf: the demerits of a line. -/
import Derived.Test.YtefjhhgfkdkfaaaLat
namespace Go.Proofs.Ytefjhhgfkdkfaaa
set_option linter.unusedSimpArgs false
set_option linter.unusedVariables false
open Go.RowKit
def dmE (f : Fnt) (r : Rls) (ws : List PWord) (a b : Int) : Int × Int :=
  if laE f r ws a b ≠ 0 then (0, laE f r ws a b) else if allowB r (lineF f r ws a.toNat b.toNat) = false then (0, 26) else (demF f r (lineF f r ws a.toNat b.toNat) (divB ws a.toNat) (divB ws b.toNat), 0)
set_option maxRecDepth 100000 in
set_option maxHeartbeats 4000000 in
theorem demeritsOf_any (f : Fnt) (v : Value) (r : Rls) (ws : List PWord) (vw : Value) (a b : Int) (w : World) (hv : SoV w f.sorts v) (hn : f.name.size ≤ 9223372036854775807) (hw : WoV w ws vw) :
    Calls Try.prog 14 #[.agg (fcs f v), .agg (rcs r), vw, .agg #[.int .i64 a, .int .i64 b]] w fun e w' => e = .returned (.tuple #[.int .i64 (dmE f r ws a b).1, .int .i64 (dmE f r ws a b).2]) ∧ Below w.heap.size w w' := by
  have HLA := Lib.hid (fun W (h1 : SoV W f.sorts v) (h2 : WoV W ws vw) => lineAt_any f v r ws vw a b W h1 hn h2)
  have HP : Hid (∀ W x y, dmE f r ws a b = (x, y) → Below w.heap.size w W → (Ending.returned (.tuple #[.int .i64 x, .int .i64 y]) = .returned (.tuple #[.int .i64 (dmE f r ws a b).1, .int .i64 (dmE f r ws a b).2]) ∧ Below w.heap.size w W)) := (show ∀ W x y, _ from fun W x y h hb => ⟨by rw [h], hb⟩)
  have HE : Hid (dmE f r ws a b = if laE f r ws a b ≠ 0 then (0, laE f r ws a b) else if allowB r (lineF f r ws a.toNat b.toNat) = false then (0, 26) else (demF f r (lineF f r ws a.toNat b.toNat) (divB ws a.toNat) (divB ws b.toNat), 0)) := rfl
  have HSV := Lib.hid hv
  have HWV := Lib.hid hw
  obtain ⟨Av, cv, rfl⟩ := hv.shape
  obtain ⟨Aw, cw, rfl, -⟩ := hw.shape
  clear hv hw hn
  go_enter Try.func14, Try.ntmps14
  go_wp2_with fail
  have hb0 := (below_new w (.cells (fcs f (.slice Av f.sorts.length cv)) 24)).trans (((below_new (w.alloc (.cells (fcs f (.slice Av f.sorts.length cv)) 24)) (.cells (rcs r) 26)).trans ((below_new ((w.alloc (.cells (fcs f (.slice Av f.sorts.length cv)) 24)).alloc (.cells (rcs r) 26)) (.cells #[.int .i64 a, .int .i64 b] 45)).mono (by simp))).mono (by simp))
  obtain ⟨W0, hW0⟩ : ∃ W0, W0 = (((w.alloc (.cells (fcs f (.slice Av f.sorts.length cv)) 24)).alloc (.cells (rcs r) 26)).alloc (.cells #[.int .i64 a, .int .i64 b] 45)) := ⟨_, rfl⟩
  rw [← hW0] at hb0 ⊢
  have HB0 := Lib.hid hb0
  clear hb0 hW0
  refine (HLA.out _ (HSV.out.below HB0.out) (HWV.out.below HB0.out)).mono ?_
  rintro e W1 ⟨hb1, ⟨hpe, rfl⟩ | ⟨hpe, hok, h0a, hab, hbl, pb, vp, vps, rfl, hpa, hlv⟩⟩
  · have hpb := bne_t hpe
    have HF : Hid (dmE f r ws a b = (0, laE f r ws a b)) := by show _ = _; rw [HE.out, if_pos hpe]
    have HB1 := Lib.hid (HB0.out.trans (hb1.mono HB0.out.size))
    clear hpe hb1
    go_wp2_with fail
    go_ret2
    exact HP.out _ _ _ HF.out (HB1.out.trans ((below_new _ _).mono HB1.out.size))
  have HB1 := Lib.hid (HB0.out.trans (hb1.mono HB0.out.size))
  obtain ⟨Ap, cp, rfl, -, -⟩ := hlv.shape
  have hsz := line_size hok (i := a.toNat) (j := b.toNat) (by omega) (by omega)
  have HE2 : Hid (dmE f r ws a b = if allowB r (lineF f r ws a.toNat b.toNat) = false then (0, 26) else (demF f r (lineF f r ws a.toNat b.toNat) (divB ws a.toNat) (divB ws b.toNat), 0)) := by show _ = _; rw [HE.out, if_neg (fun h => h hpe)]
  obtain ⟨i, rfl⟩ : ∃ i : Nat, a = (i : Int) := ⟨a.toNat, by omega⟩
  obtain ⟨j, rfl⟩ : ∃ j : Nat, b = (j : Int) := ⟨b.toNat, by omega⟩
  simp only [Int.toNat_natCast] at hlv hsz HE2 ⊢
  have hbn := below_new W1 (.cells (lcs i j (.slice Ap (lineF f r ws i j).ps.length cp) (lineF f r ws i j).room (lineF f r ws i j).ends) 92)
  have hbk := Blk.new W1 92 (lcs i j (.slice Ap (lineF f r ws i j).ps.length cp) (lineF f r ws i j).room (lineF f r ws i j).ends)
  have HB2 := Lib.hid (HB1.out.trans (hbn.mono HB1.out.size))
  have HPA2 := Lib.hid (hpa.step hbn)
  have HLV2 := Lib.hid (hlv.below hbn)
  have HBK := Lib.hid hbk
  have HAL := Lib.hid (allowed_any f _ r ws _ vp pb i j (lineF f r ws i j) _ _ HPA2.out hok.ru HLV2.out (by omega) (by omega) (by omega))
  have HDM := Lib.hid (fun W (h : Below _ _ W) => demerits_any f _ r ws _ vp pb i j (lineF f r ws i j) _ W (HPA2.out.step h) hok (by omega) (by omega) (HLV2.out.below h) (by omega) (by omega))
  have hloc := hbk.lt
  clear hpa hlv hsz hok hb1 hpe HLA HE hbn hbk
  cases hab2 : allowB r (lineF f r ws i j) with
  | false =>
    have HF : Hid (dmE f r ws i j = (0, 26)) := by show _ = _; rw [HE2.out, if_pos hab2]
    rw [hab2] at HAL
    clear hab2 HDM HE2
    go_wp2_with (first
      | (go_at_call 43; (with_reducible refine HAL.out.mono ?_); rintro e W3 ⟨rfl, hb3⟩))
    go_ret2
    exact HP.out _ _ _ HF.out (HB2.out.trans (hb3.mono HB2.out.size))
  | true =>
    have HF : Hid (dmE f r ws i j = (demF f r (lineF f r ws i j) (divB ws i) (divB ws j), 0)) := by show _ = _; rw [HE2.out, if_neg (by rw [hab2]; decide)]
    rw [hab2] at HAL
    clear hab2 HE2
    go_wp2_with (first
      | (go_at_call 43; (with_reducible refine HAL.out.mono ?_); rintro e W3 ⟨rfl, hb3⟩
         have HB3 := Lib.hid (HB2.out.trans (hb3.mono HB2.out.size))
         have HBK3 := Lib.hid (HBK.out.below hb3 HBK.out.lt)
         have HDC := Lib.hid (HDM.out _ hb3)
         have c0 := HBK3.out.cell 0
         have c1 := HBK3.out.cell 1
         have c2 := HBK3.out.cell 2
         have c3 := HBK3.out.cell 3
         have c4 := HBK3.out.cell 4
         have cl := HBK3.out.lt
         clear hb3)
      | (go_at_call 41; (with_reducible refine HDC.out.mono ?_); rintro e W4 ⟨rfl, hb4⟩))
    go_ret2
    exact HP.out _ _ _ HF.out (HB3.out.trans (hb4.mono HB3.out.size))
end Go.Proofs.Ytefjhhgfkdkfaaa
