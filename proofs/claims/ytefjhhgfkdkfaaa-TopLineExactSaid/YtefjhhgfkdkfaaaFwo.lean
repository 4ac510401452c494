/- WidthOf. -/
import Derived.Test.YtefjhhgfkdkfaaaFcf
import Derived.Test.YtefjhhgfkdkfaaaFtk
namespace Go.Proofs.Ytefjhhgfkdkfaaa
set_option linter.unusedSimpArgs false
set_option linter.unusedVariables false
open Go.RowKit
theorem li_in {f : Fnt} {zs : List Int} (h : liErr f zs = 0) : (fnErr f).2 = 0 ∧ zs.length ≤ 10000 ∧ InF f zs := by
  unfold liErr at h
  split at h
  · omega
  · rename_i h0
    split at h
    · omega
    · rename_i h1
      split at h
      · omega
      · rename_i h2
        refine ⟨by omega, by omega, fun j hj => ?_⟩
        have := idx_neg h2 j hj
        simp [win] at this
        omega
/-- A number and an error. -/
def NePost (n e0 : Int) (w : World) (e : Ending) (w' : World) : Prop := e = .returned (.tuple #[.int .i64 n, .int .i64 e0]) ∧ Below w.heap.size w w'
set_option maxRecDepth 100000 in
set_option maxHeartbeats 2000000 in
theorem widthOf_any (f : Fnt) (v : Value) (zs : List Int) (vz : Value) (w : World) (hv : SoV w f.sorts v) (hn : f.name.size ≤ 9223372036854775807) (hz : IV w zs vz) :
    Calls Try.prog 21 #[.agg (fcs f v), vz] w (NePost (if liErr f zs = 0 then widL f zs else 0) (liErr f zs) w) := by
  have hb0 := below_new w (.cells (fcs f v) 24)
  have HV0 := Lib.hid (hv.below hb0)
  have HZ0 := Lib.hid (hz.below hb0)
  have HB0 := Lib.hid hb0
  have hF := Blk.new w 24 (fcs f v)
  have HF := Lib.hid hF
  have HC := Lib.hid (checkList_any f v zs vz _ (hv.below hb0) hn (hz.below hb0))
  obtain ⟨A, c, rfl⟩ := hv.shape
  obtain ⟨A1, b1, o1, c1, rfl, -, -, -, -⟩ := hz.open
  have f0 := hF.cell 0
  have f1 := hF.cell 1
  have f2 := hF.cell 2
  obtain ⟨X, hX⟩ : ∃ x : Int, (if liErr f zs = 0 then widL f zs else 0) = x := ⟨_, rfl⟩
  rw [hX]
  have HX0 := Lib.hid hX
  clear hX
  have HP : Hid (∀ W x y, x = X → y = liErr f zs → Below w.heap.size w W → NePost X (liErr f zs) w (.returned (.tuple #[.int .i64 x, .int .i64 y])) W) := (show ∀ W x y, _ from fun W x y e1 e2 h => by subst e1 e2; exact ⟨rfl, h⟩)
  clear hv hz hb0 hF
  go_enter Try.func21, Try.ntmps21
  go_wp2_with fail
  refine HC.out.mono ?_
  rintro e w1 ⟨rfl, hb⟩
  have HB1 := Lib.hid (HB0.out.trans (hb.mono HB0.out.size))
  have HF1 := Lib.hid (HF.out.below hb HF.out.lt)
  have HV1 := Lib.hid (HV0.out.below hb)
  have HZ1 := Lib.hid (HZ0.out.below hb)
  clear hb f0 f1 f2 HC
  by_cases hq : liErr f zs = 0
  · have hbn := bne_f hq
    obtain ⟨hok, hlen, hin⟩ := li_in hq
    have HX : Hid (X = widL f zs) := HX0.out.symm.trans (if_pos hq)
    clear HX0
    have HQ := Lib.hid hq
    rw [hq] at hbn
    have HBD := Lib.hid (widT_bound hok hin)
    have HIN := Lib.hid hin
    have HOK := Lib.hid hok
    have hfew := fnErr_few hok
    obtain ⟨A2, b2, o2, c2, he, hA2, hz2, -, -⟩ := HZ1.out.open
    injection he with e1 e2 e3
    clear e2 e3
    subst e1
    have HZZ := Lib.hid hz2
    have f2 := HF1.out.cell 2
    have fl := HF1.out.lt
    generalize hle : liErr f zs = le at *
    subst hq
    clear hz2 hok hin
    generalize hN : zs.length = N at *
    have HN := Lib.hid hN
    clear hN
    go_wp2_with fail
    go_loopg [7, 9, 18] N (fun gg s7 _ s18 wr => ∃ k : Nat, k ≤ N ∧ N - k ≤ gg ∧ s18 = .int .i64 (k : Int) ∧ s7 = .int .i64 (widL f (zs.take k)) ∧ wr = w1)
    case atStart => exact ⟨0, by omega, by omega, rfl, by simp [widL], rfl⟩
    case round =>
      obtain ⟨k, hk, hg, rfl, rfl, rfl⟩ := hrel
      by_cases hlt : k < N
      · have hltz : (k : Int) < (N : Int) := by omega
        obtain ⟨rfl, hbl⟩ := hA2 (by omega)
        have z0 := HZZ.out k (by rw [HN.out]; exact hlt)
        have hik := HIN.out k (by rw [HN.out]; exact hlt)
        obtain ⟨b, off, c', he, hbw, s3⟩ := HV1.out.width hik
        injection he with e1 e2 e3
        clear e2 e3
        subst e1
        have HT := Lib.hid (widL_take (f := f) (zs := zs) (k := k) (by rw [HN.out]; exact hlt))
        have h1 := HBD.out k (by omega)
        have h2 := wd_ok HOK.out hik
        clear HIN HOK
        generalize gz zs k = z at *
        obtain ⟨q, rfl⟩ := Int.eq_ofNat_of_zero_le hik.1
        rw [Int.toNat_natCast] at s3
        generalize wd f (q : Int) = wq at *
        generalize widL f (zs.take k) = sm at *
        go_wp2_with fail
        go_roundg (N - (k + 1))
        case measure => omega
        case rel => exact ⟨k + 1, by omega, by omega, by go_num, by rw [HT.out], rfl⟩
      · have hltz : ¬ (k : Int) < (N : Int) := by omega
        have hkn : k = N := by omega
        have HXX : Hid (widL f (zs.take k) = widL f zs) := (by show _ = _; rw [List.take_of_length_le (by rw [HN.out]; omega)])
        clear f2
        generalize widL f (zs.take k) = sm at *
        go_wp2_with fail
        go_ret2
        exact HP.out _ _ _ (HXX.out.trans HX.out.symm) rfl HB1.out
  · have hbn := bne_t hq
    have HX : Hid (X = 0) := HX0.out.symm.trans (if_neg hq)
    clear HX0
    generalize hle : liErr f zs = le at *
    go_wp2_with fail
    go_ret2
    exact HP.out _ _ _ HX.out.symm rfl HB1.out
end Go.Proofs.Ytefjhhgfkdkfaaa
/- A row of zeros, made. -/
namespace Go.Proofs.Ytefjhhgfkdkfaaa
set_option linter.unusedSimpArgs false
set_option linter.unusedVariables false
open Go.RowKit
theorem made_one (n : Nat) : (madeCells (Value.int IntKind.i64 0).cells (n * 1)).toList = zv (List.replicate n 0) := by
  apply List.ext_getElem
  · simp [size_madeCells, zv_len]
  · intro i h1 h2
    simp [madeCells, zv, Value.cells, Nat.mod_one]
theorem make30 (n : Nat) (hn : n ≤ 1000) (W : World) : ∃ W', (Instr.makeSlice 30 (.int .i64 (n : Int)) (.int .i64 (n : Int))).run Try.prog W = .ok (.slice (some ⟨W.heap.size, 0, none⟩) n n) W' ∧ IO W' W.heap.size (List.replicate n 0) (.slice (some ⟨W.heap.size, 0, none⟩) n n) ∧ Below W.heap.size W W' := by
  obtain ⟨i3, hi3, hz3, hy3, hx3⟩ := info_parts info3
  obtain ⟨W', h1, h2, h3⟩ := run_makeSlice_full (P := Try.prog) (w := W) W.heap.size 30 3 i3 _ 1 Try.underlying30 hi3 hz3 hy3 .i64 .i64 n (by omega) (by rw [hx3]; omega) (by simp only [maxLen]; omega) (Nat.le_refl _)
  refine ⟨W', h1, ?_, ⟨h3.os, h3.tape, h3.output, h3.size, fun k hk => h3.block k hk (by simp)⟩⟩
  rw [made_one] at h2
  show World.ownsRow _ _ _ _ _ _ _
  rw [List.length_replicate]
  exact h2
end Go.Proofs.Ytefjhhgfkdkfaaa
/- NeedOf. -/
namespace Go.Proofs.Ytefjhhgfkdkfaaa
set_option linter.unusedSimpArgs false
set_option linter.unusedVariables false
open Go.RowKit
/-- How many of each sort the first k sorts of a list are. -/
def nedK (n : Nat) (zs : List Int) : Nat → List Int
  | 0 => List.replicate n 0
  | k + 1 => (nedK n zs k).set (gz zs k).toNat (gz (nedK n zs k) (gz zs k).toNat + 1)
def nedR (n : Nat) (zs : List Int) : List Int := nedK n zs zs.length
theorem nedK_len (n : Nat) (zs : List Int) : ∀ k, (nedK n zs k).length = n
  | 0 => List.length_replicate
  | k + 1 => by unfold nedK; rw [List.length_set]; exact nedK_len n zs k
theorem gz_rep (n i : Nat) : gz (List.replicate n 0) i = 0 := by
  unfold gz
  rw [List.getD_eq_getElem?_getD, List.getElem?_replicate]
  split <;> rfl
theorem nedK_bound (n : Nat) (zs : List Int) : ∀ k i, 0 ≤ gz (nedK n zs k) i ∧ gz (nedK n zs k) i ≤ k
  | 0, i => by unfold nedK; rw [gz_rep]; simp
  | k + 1, i => by
    have ih := nedK_bound n zs k
    unfold nedK
    by_cases hq : (gz zs k).toNat < (nedK n zs k).length
    · rw [gz_set hq]
      have h1 := ih i
      have h2 := ih (gz zs k).toNat
      split
      · push_cast; omega
      · push_cast; omega
    · rw [List.set_eq_of_length_le (by omega)]
      have := ih i
      push_cast; omega
def NdPost (f : Fnt) (zs : List Int) (w : World) (e : Ending) (w' : World) : Prop := Below w.heap.size w w' ∧ ((liErr f zs ≠ 0 ∧ e = .returned (.tuple #[.slice none 0 0, .int .i64 (liErr f zs)])) ∨ (liErr f zs = 0 ∧ ∃ v, e = .returned (.tuple #[v, .int .i64 0]) ∧ IO w' w.heap.size (nedR f.sorts.length zs) v))
set_option maxRecDepth 100000 in
set_option maxHeartbeats 2000000 in
theorem needOf_any (f : Fnt) (v : Value) (zs : List Int) (vz : Value) (w : World) (hv : SoV w f.sorts v) (hn : f.name.size ≤ 9223372036854775807) (hz : IV w zs vz) :
    Calls Try.prog 23 #[.agg (fcs f v), vz] w (NdPost f zs w) := by
  have hb0 := below_new w (.cells (fcs f v) 24)
  have HV0 := Lib.hid (hv.below hb0)
  have HZ0 := Lib.hid (hz.below hb0)
  have HB0 := Lib.hid hb0
  have hF := Blk.new w 24 (fcs f v)
  have HF := Lib.hid hF
  have HC := Lib.hid (checkList_any f v zs vz _ (hv.below hb0) hn (hz.below hb0))
  obtain ⟨A, c, rfl⟩ := hv.shape
  obtain ⟨A1, b1, o1, c1, rfl, -, -, -, -⟩ := hz.open
  have f0 := hF.cell 0
  have f1 := hF.cell 1
  have f2 := hF.cell 2
  have HE : Hid (∀ W y, y = liErr f zs → y ≠ 0 → Below w.heap.size w W → NdPost f zs w (.returned (.tuple #[.slice none 0 0, .int .i64 y])) W) := (show ∀ W y, _ from fun W y e h0 h => by subst e; exact ⟨h, .inl ⟨h0, rfl⟩⟩)
  have HS : Hid (∀ W u, liErr f zs = 0 → IO W w.heap.size (nedR f.sorts.length zs) u → Below w.heap.size w W → NdPost f zs w (.returned (.tuple #[u, .int .i64 0])) W) := (show ∀ W u, _ from fun W u h0 h1 h => ⟨h, .inr ⟨h0, u, rfl, h1⟩⟩)
  have HR : Hid (nedR f.sorts.length zs = nedK f.sorts.length zs zs.length) := rfl
  clear hv hz hb0 hF
  go_enter Try.func23, Try.ntmps23
  go_wp2_with fail
  refine HC.out.mono ?_
  rintro e w1 ⟨rfl, hb⟩
  have HB1 := Lib.hid (HB0.out.trans (hb.mono HB0.out.size))
  have HF1 := Lib.hid (HF.out.below hb HF.out.lt)
  have HZ1 := Lib.hid (HZ0.out.below hb)
  clear hb f0 f1 f2 HC HV0
  by_cases hq : liErr f zs = 0
  · have hbn := bne_f hq
    obtain ⟨hok, hlen, hin⟩ := li_in hq
    have HQ := Lib.hid hq
    rw [hq] at hbn
    have HIN := Lib.hid hin
    have hfew := fnErr_few hok
    have f2 := HF1.out.cell 2
    have fl := HF1.out.lt
    generalize hle : liErr f zs = le at *
    subst hq
    clear hok hin
    obtain ⟨w2, hmk, hio, hb2⟩ := make30 f.sorts.length (by omega) w1
    obtain ⟨A2, b2, o2, c2, he, hA2, hz2, -, -⟩ := HZ1.out.open
    injection he with e1 e2 e3
    clear e2 e3
    subst e1
    have HIO := Lib.hid hio
    have HB2 := Lib.hid (HB1.out.trans (hb2.mono HB1.out.size))
    have HBB := Lib.hid hb2
    have HZZ := Lib.hid hz2
    have HLL := Lib.hid (nedK_len f.sorts.length zs)
    have HBD := Lib.hid (nedK_bound f.sorts.length zs)
    clear hz2 hio hb2
    generalize hN : zs.length = N at *
    have HN := Lib.hid hN
    clear hN
    go_wp2_with fail
    go_loopg [9, 22] N (fun gg _ s22 wr => ∃ k : Nat, k ≤ N ∧ N - k ≤ gg ∧ s22 = .int .i64 (k : Int) ∧ Hid (Below w1.heap.size w1 wr) ∧ Hid (IO wr w1.heap.size (nedK f.sorts.length zs k) (.slice (some ⟨w1.heap.size, 0, none⟩) f.sorts.length f.sorts.length)))
    case atStart => exact ⟨0, by omega, by omega, rfl, HBB.out, HIO.out⟩
    case round =>
      obtain ⟨k, hk, hg, rfl, HBR, HIR⟩ := hrel
      by_cases hlt : k < N
      · have hltz : (k : Int) < (N : Int) := by omega
        obtain ⟨rfl, hbl⟩ := hA2 (by omega)
        have z0 := (HBR.out.cell (p := ⟨b2, o2 + k, none⟩) hbl).trans (HZZ.out k (by rw [HN.out]; exact hlt))
        have hbl2 := Nat.lt_of_lt_of_le hbl HBR.out.size
        have hik := HIN.out k (by rw [HN.out]; exact hlt)
        have HST : Hid (nedK f.sorts.length zs (k + 1) = (nedK f.sorts.length zs k).set (gz zs k).toNat (gz (nedK f.sorts.length zs k) (gz zs k).toNat + 1)) := rfl
        generalize gz zs k = z at *
        obtain ⟨q, rfl⟩ := Int.eq_ofNat_of_zero_le hik.1
        rw [Int.toNat_natCast] at HST
        have hbd := HBD.out k q
        have hql : q < f.sorts.length := by omega
        obtain ⟨g, hge, hBg, hgl, hgc, hgf, hput⟩ := HIR.out.at (i := q) (by rw [HLL.out]; exact hql)
        injection hge with hge
        injection hge with hge
        subst hge
        have HPT := Lib.hid (hput (gz (nedK f.sorts.length zs k) q + 1))
        have HB3 := Lib.hid (HBR.out.setCell (p := ⟨w1.heap.size, q, none⟩) (Nat.le_refl _) (.int .i64 (gz (nedK f.sorts.length zs k) q + 1)))
        clear hput
        generalize gz (nedK f.sorts.length zs k) q = y at *
        go_wp2_with fail
        go_roundg (N - (k + 1))
        case measure => omega
        case rel => exact ⟨k + 1, by omega, by omega, by go_num, HB3.out, by rw [HST.out]; exact HPT.out⟩
      · have hltz : ¬ (k : Int) < (N : Int) := by omega
        have hkn : k = N := by omega
        have HIF : Hid (IO wr w.heap.size (nedR f.sorts.length zs) (.slice (some ⟨w1.heap.size, 0, none⟩) f.sorts.length f.sorts.length)) := (by
          show IO _ _ _ _
          rw [HR.out, ← hkn]
          exact HIR.out.base HB1.out.size)
        clear f2
        go_wp2_with fail
        go_ret2
        exact HS.out _ _ HQ.out HIF.out (HB1.out.trans (HBR.out.mono HB1.out.size))
  · have hbn := bne_t hq
    have HQ := Lib.hid hq
    generalize hle : liErr f zs = le at *
    go_wp2_with fail
    go_ret2
    exact HE.out _ _ rfl HQ.out HB1.out
end Go.Proofs.Ytefjhhgfkdkfaaa
