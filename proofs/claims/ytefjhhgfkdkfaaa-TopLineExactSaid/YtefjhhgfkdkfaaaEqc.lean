/- slices.Equal of numbers; cut: a list off ahead of another one. -/
import Derived.Test.YtefjhhgfkdkfaaaOts
import Derived.BigQuiet
namespace Go.Proofs.Ytefjhhgfkdkfaaa
set_option linter.unusedSimpArgs false
set_option linter.unusedVariables false
open Go.RowKit
theorem gz_ext {a b : List Int} (h : a.length = b.length) (hg : ∀ j, j < a.length → gz a j = gz b j) : a = b := by
  apply List.ext_getElem h
  intro j h1 h2
  have := hg j h1
  rw [gz_get h1, gz_get h2] at this
  exact this
set_option maxRecDepth 100000 in
set_option maxHeartbeats 2000000 in
theorem equalI_any (a b : List Int) (va vb : Value) (w : World) (ha : IV w a va) (hb : IV w b vb) (hm : a.length ≤ 1000000) (hm2 : b.length ≤ 1000000) : Calls Try.prog 132 #[va, vb] w fun e w' => e = .returned (.bool (decide (a = b))) ∧ Below w.heap.size w w' := by
  have HP : Hid (∀ W c, c = decide (a = b) → Below w.heap.size w W → Ending.returned (.bool c) = .returned (.bool (decide (a = b))) ∧ Below w.heap.size w W) := (show ∀ W c, _ from fun W c e h => ⟨by rw [e], h⟩)
  obtain ⟨A1, b1, o1, c1, rfl, hA1, hz1, -, -⟩ := ha.open
  obtain ⟨A2, b2, o2, c2, rfl, hA2, hz2, -, -⟩ := hb.open
  have HA1 := Lib.hid hA1
  have HA2 := Lib.hid hA2
  have HZ1 := Lib.hid hz1
  have HZ2 := Lib.hid hz2
  clear ha hb hA1 hA2 hz1 hz2
  have HEX : Hid (a.length = b.length → (∀ j, j < a.length → gz a j = gz b j) → true = decide (a = b)) := (show _ → _ → _ from fun h1 h2 => (decide_eq_true (gz_ext h1 h2)).symm)
  have HNE : Hid (∀ j, gz a j ≠ gz b j → false = decide (a = b)) := (show ∀ j, _ from fun j h => (decide_eq_false (fun e => h (by rw [e]))).symm)
  by_cases hl : a.length = b.length
  · have HZ2' : Hid (∀ j, j < a.length → w.cell? ⟨b2, o2 + j, none⟩ = some (.int .i64 (gz b j))) := (show ∀ j, _ from fun j hj => HZ2.out j (by omega))
    rw [← hl] at hm2 HA2 ⊢
    rw [← hl] at HEX
    clear hl HZ2
    generalize hN : a.length = N at *
    have HN := Lib.hid hN
    clear hN
    have hbn0 := bne_f (rfl : (N : Int) = (N : Int))
    go_enter Try.func132, Try.ntmps132
    go_wp2_with fail
    go_loopg [5, 13] N (fun gg _ s13 wr => ∃ k : Nat, k ≤ N ∧ N - k ≤ gg ∧ s13 = .int .i64 (k : Int) ∧ Hid (Below w.heap.size w wr) ∧ Hid (∀ j, j < k → gz a j = gz b j))
    case atStart => exact ⟨0, by omega, by omega, rfl, Below.refl _ _, fun j hj => absurd hj (Nat.not_lt_zero _)⟩
    case round =>
      obtain ⟨k, hk, hg, rfl, HB, HE⟩ := hrel
      by_cases hlt : k < N
      · have hltz : (k : Int) < (N : Int) := by omega
        obtain ⟨rfl, hb1⟩ := HA1.out (by omega)
        obtain ⟨rfl, hb2⟩ := HA2.out (by omega)
        have z1 := (HB.out.cell (p := ⟨b1, o1 + k, none⟩) hb1).trans (HZ1.out k (by rw [HN.out]; exact hlt))
        have z2 := (HB.out.cell (p := ⟨b2, o2 + k, none⟩) hb2).trans (HZ2'.out k hlt)
        have HQ : Hid (gz a k = gz b k → ∀ j, j < k + 1 → gz a j = gz b j) := (show _ → _ from fun h j hj => by
          by_cases e : j = k
          · subst e; exact h
          · exact HE.out j (by omega))
        have HQ2 := Lib.hid (HNE.out k)
        generalize gz a k = x at *
        generalize gz b k = y at *
        by_cases hxy : x = y
        · have HXY := Lib.hid hxy
          have hbn := bne_f hxy
          clear hxy
          go_wp2_with fail
          go_quiet (fail)
          have HB2 := Lib.hid (HB.out.trans ((below_drewN wr nq).mono HB.out.size))
          generalize wr.drewN nq = W2 at *
          go_wp2_with fail
          go_roundg (N - (k + 1))
          case measure => omega
          case rel => exact ⟨k + 1, by omega, by omega, by go_num, HB2.out, HQ.out HXY.out⟩
        · have HX := Lib.hid (HQ2.out hxy)
          have hbn := bne_t hxy
          go_wp2_with fail
          go_quiet (fail)
          have HB2 := Lib.hid (HB.out.trans ((below_drewN wr nq).mono HB.out.size))
          generalize wr.drewN nq = W2 at *
          go_wp2_with fail
          go_ret
          exact HP.out _ _ HX.out HB2.out
      · have hltz : ¬ (k : Int) < (N : Int) := by omega
        have HX := Lib.hid (HEX.out (by first | rfl | trivial) (fun j hj => HE.out j (by omega)))
        go_wp2_with fail
        go_ret
        exact HP.out _ _ HX.out HB.out
  · have HX : Hid (false = decide (a = b)) := (show _ = _ from (decide_eq_false (fun e => hl (by rw [e]))).symm)
    have hlz : ¬ (a.length : Int) = (b.length : Int) := by omega
    have hbn := bne_t hlz
    go_enter Try.func132, Try.ntmps132
    go_wp2_with fail
    go_ret
    exact HP.out _ _ HX.out (Below.refl _ _)
/-- A list cut off ahead of another one. -/
def cutR (l h : List Int) : List Int × Bool := if l.take h.length = h then (l.drop h.length, true) else ([], false)
/-- A row from a place on. -/
theorem iv_drop {W : World} {l : List Int} {A : Option Addr} {c m : Nat} (h : IV W l (.slice A l.length c)) (hm : m ≤ l.length) : IV W (l.drop m) (.slice (if c = m then A else A.map (fun x => x.add m)) (l.length - m) (c - m)) := by
  obtain ⟨A', b, off, c', he, h1, h2, h3, h4⟩ := h.open
  injection he with e1 e2 e3
  subst e1 e3
  have hl : (l.drop m).length = l.length - m := List.length_drop
  have := IV.mk (W := W) (zs := l.drop m) (A := if c = m then A else A.map (fun x => x.add m)) (b := b) (off := off + m) (c := c - m) (fun hp => by
    rw [hl] at hp
    obtain ⟨e, hb⟩ := h1 (by omega)
    subst e
    rw [if_neg (by omega)]
    exact ⟨by simp only [Option.map_some]; unfold Addr.add; split <;> simp_all, hb⟩) (fun j hj => by
    rw [hl] at hj
    have := h2 (m + j) (by omega)
    rw [← Nat.add_assoc] at this
    rw [this]
    unfold gz
    rw [List.getD_eq_getElem?_getD, List.getD_eq_getElem?_getD, List.getElem?_drop]) (by rw [hl]; omega) (by omega)
  rwa [hl] at this
theorem iv_drop1 {W : World} {l : List Int} {A : Option Addr} {c m : Nat} (h : IV W l (.slice A l.length c)) (hm : m ≤ l.length) (hc : ¬ c = m) : IV W (l.drop m) (.slice (A.map (fun x => x.add m)) (l.length - m) (c - m)) := by
  have := iv_drop h hm
  rwa [if_neg hc] at this
theorem iv_drop0 {W : World} {l : List Int} {A : Option Addr} {c m : Nat} (h : IV W l (.slice A l.length c)) (hm : m ≤ l.length) (hc : c = m) : IV W (l.drop m) (.slice A (l.length - m) 0) := by
  have := iv_drop h hm
  rw [if_pos hc] at this
  rwa [show c - m = 0 by omega] at this
theorem iv_take {W : World} {l : List Int} {A : Option Addr} {c m : Nat} (h : IV W l (.slice A l.length c)) (hm : m ≤ l.length) : IV W (l.take m) (.slice A m c) := by
  obtain ⟨A', b, off, c', he, h1, h2, h3, h4⟩ := h.open
  injection he with e1 e2 e3
  subst e1 e3
  have hl : (l.take m).length = m := by rw [List.length_take]; omega
  have := IV.mk (W := W) (zs := l.take m) (A := A) (b := b) (off := off) (c := c) (fun hp => h1 (by omega)) (fun j hj => by
    rw [h2 j (by omega)]
    unfold gz
    rw [List.getD_eq_getElem?_getD, List.getD_eq_getElem?_getD, List.getElem?_take, if_pos (by omega)]) (by omega) h4
  rwa [hl] at this
def CutPost (W : World) (l h : List Int) (e : Ending) (W' : World) : Prop := Below W.heap.size W W' ∧ ∃ A n c, e = .returned (.tuple #[.slice A n c, .bool (cutR l h).2]) ∧ IV W' (cutR l h).1 (.slice A n c)
set_option maxRecDepth 100000 in
set_option maxHeartbeats 2000000 in
theorem cut_any (l h : List Int) (vl vh : Value) (w : World) (hl : IV w l vl) (hh : IV w h vh) (hm : l.length ≤ 1000000) (hm2 : h.length ≤ 1000000) : Calls Try.prog 110 #[vl, vh] w (CutPost w l h) := by
  have HL := Lib.hid hl
  have HH := Lib.hid hh
  obtain ⟨A1, b1, o1, c1, rfl, hA1, hz1, hc1, -⟩ := hl.open
  obtain ⟨A2, b2, o2, c2, rfl, hA2, hz2, -, -⟩ := hh.open
  clear hl hh hA1 hA2 hz1 hz2
  have HNO : Hid (∀ W, l.take h.length ≠ h → Below w.heap.size w W → CutPost w l h (.returned (.tuple #[.slice none 0 0, .bool false])) W) := (show ∀ W, _ from fun W h1 h2 => ⟨h2, none, 0, 0, by unfold cutR; rw [if_neg h1], by unfold cutR; rw [if_neg h1]; exact IV.nil W⟩)
  have HYES : Hid (∀ W A n c, l.take h.length = h → Below w.heap.size w W → IV W (l.drop h.length) (.slice A n c) → CutPost w l h (.returned (.tuple #[.slice A n c, .bool true])) W) := (show ∀ W A n c, _ from fun W A n c h1 h2 h3 => ⟨h2, A, n, c, by unfold cutR; rw [if_pos h1], by unfold cutR; rw [if_pos h1]; exact h3⟩)
  by_cases hlt : l.length < h.length
  · have hltz : (l.length : Int) < (h.length : Int) := by omega
    have HX : Hid (l.take h.length ≠ h) := (show _ ≠ _ from fun e => by have := congrArg List.length e; rw [List.length_take] at this; omega)
    go_enter Try.func110, Try.ntmps110
    go_wp2_with fail
    refine bodyPost_ret (results_tmp2 rfl _ _ _) rfl ?_
    exact HNO.out _ HX.out (Below.refl _ _)
  · have hltz : ¬ (l.length : Int) < (h.length : Int) := by omega
    have hle : h.length ≤ l.length := by omega
    have hlz2 : (h.length : Int) ≤ (l.length : Int) := by omega
    have hcz : (h.length : Int) ≤ (c1 : Int) := by omega
    have HC := Lib.hid (equalI_any (l.take h.length) h _ _ w (iv_take HL.out hle) HH.out (by rw [List.length_take]; omega) hm2)
    have HDR0 := Lib.hid (iv_drop0 (m := h.length) HL.out hle)
    have HDR1 := Lib.hid (iv_drop1 (m := h.length) HL.out hle)
    generalize hcut : l.take h.length = lt at *
    generalize hdr : l.drop h.length = ld at *
    generalize h.length = M at *
    generalize l.length = N at *
    go_enter Try.func110, Try.ntmps110
    go_wp2_with fail
    refine HC.out.mono ?_
    rintro e w1 ⟨rfl, hb1⟩
    have HB1 := Lib.hid hb1
    clear hb1
    by_cases heq : lt = h
    · have HEQ := Lib.hid heq
      rw [decide_eq_true heq]
      clear heq
      by_cases hcm : c1 = M
      · have HI := Lib.hid ((HDR0.out hcm).below HB1.out)
        go_wp2_with fail
        refine bodyPost_ret (results_tmp2 rfl _ _ _) rfl ?_
        exact HYES.out _ _ _ _ HEQ.out HB1.out HI.out
      · have HI := Lib.hid ((HDR1.out hcm).below HB1.out)
        go_wp2_with fail
        refine bodyPost_ret (results_tmp2 rfl _ _ _) rfl ?_
        exact HYES.out _ _ _ _ HEQ.out HB1.out HI.out
    · have HEQ := Lib.hid heq
      rw [decide_eq_false heq]
      clear heq
      go_wp2_with fail
      refine bodyPost_ret (results_tmp2 rfl _ _ _) rfl ?_
      exact HNO.out _ HEQ.out HB1.out
end Go.Proofs.Ytefjhhgfkdkfaaa
/- lineErr: the error of a line. -/
namespace Go.Proofs.Ytefjhhgfkdkfaaa
set_option linter.unusedSimpArgs false
set_option linter.unusedVariables false
open Go.RowKit
/-- The error of a line. -/
def lnsE (f : Fnt) (me : Int) (zs : List Int) : Int :=
  if win me 1 1000000 = false then 2 else if 300 < zs.length then 8 else if 0 ≤ idx (fun j => !win (gz zs j) 0 (f.sorts.length - 1)) zs.length then 6 else 0
theorem lns_in {f : Fnt} {me : Int} {zs : List Int} (h : lnsE f me zs = 0) : (1 ≤ me ∧ me ≤ 1000000) ∧ zs.length ≤ 300 ∧ InF f zs := by
  unfold lnsE at h
  split at h
  · omega
  rename_i h1
  split at h
  · omega
  split at h
  · omega
  rename_i h3
  refine ⟨?_, by omega, fun j hj => ?_⟩
  · simp [win] at h1; omega
  · have := idx_neg h3 j hj
    simp [win] at this
    omega
set_option maxRecDepth 100000 in
theorem notHas_any (f : Fnt) (v vs : Value) (s : Int) (xb : Nat) (w : World) (hX : Blk w xb 116 (xfs f v vs)) (hv : SoV w f.sorts v) : Calls Try.prog 108 (#[.int .i64 s] ++ #[.pointer (some ⟨xb, 0, none⟩)]) w fun e w' => e = .returned (.bool (!win s 0 (f.sorts.length - 1))) ∧ Below w.heap.size w w' := by
  have HC := Lib.hid (hasF_any f v vs s w hv)
  have x0 := hX.cell 0
  have x1 := hX.cell 1
  have x2 := hX.cell 2
  have x3 := hX.cell 3
  clear hX hv
  generalize win s 0 (f.sorts.length - 1) = b at *
  go_enter Try.func108, Try.ntmps108
  go_wp2_with fail
  refine HC.out.mono ?_
  rintro e w1 ⟨rfl, hb⟩
  have HB := Lib.hid hb
  clear hb
  go_wp2_with fail
  go_ret
  exact ⟨rfl, HB.out⟩
theorem enters108 : ∀ (args : Array Value) (w : World), (callFunc 108 args).run Try.prog w = .ok (.enter 108 args) w := enters_of' Try.func108 (by kernel_rfl) rfl
set_option maxRecDepth 100000 in
set_option maxHeartbeats 2000000 in
theorem lineErr_any (f : Fnt) (v vs : Value) (me : Int) (zs : List Int) (vz : Value) (w : World) (hv : SoV w f.sorts v) (hz : IV w zs vz) (hm : zs.length ≤ 1000000) :
    Calls Try.prog 72 #[.agg (xfs f v vs), .agg #[.int .i64 me, vz]] w (IntPost (lnsE f me zs) w) := by
  have hb0 := below_new w (.cells (xfs f v vs) 116)
  have hb1 := below_new (w.alloc (.cells (xfs f v vs) 116)) (.cells #[.int .i64 me, vz] 55)
  have hX := (Blk.new w 116 (xfs f v vs)).below hb1 (by simp)
  have hL := Blk.new (w.alloc (.cells (xfs f v vs) 116)) 55 #[.int .i64 me, vz]
  rw [World.size_alloc] at hL
  have hB := hb0.trans (hb1.mono hb0.size)
  have hz2 := (hz.below hb0).below hb1
  have hv2 := (hv.below hb0).below hb1
  obtain ⟨A, b, off, c, rfl, hA, hzz, -, -⟩ := hz2.open
  have HP : Hid (∀ W x, x = lnsE f me zs → Below w.heap.size w W → IntPost (lnsE f me zs) w (.returned (.int .i64 x)) W) := (show ∀ W x, _ from fun W x e h => by subst e; exact ⟨rfl, h⟩)
  have HE : Hid (lnsE f me zs = if win me 1 1000000 = false then 2 else if 300 < zs.length then 8 else if 0 ≤ idx (fun j => !win (gz zs j) 0 (f.sorts.length - 1)) zs.length then 6 else 0) := rfl
  have hcall := containsI_any 108 #[.pointer (some ⟨w.heap.size, 0, none⟩)] A b off zs.length c zs (fun z => !win z 0 (f.sorts.length - 1)) _ (fun W j hW hj => (notHas_any f v vs (gz zs j) w.heap.size W (hX.below hW hX.lt) (hv2.below hW)).mono (by
    rintro e w' ⟨rfl, hb⟩
    exact ⟨rfl, hW.trans (hb.mono hW.size)⟩)) rfl hm hA enters108 hzz
  have HC := Lib.hid hcall
  have HB := Lib.hid hB
  have l0 := hL.cell 0
  have l1 := hL.cell 1
  have HW : Hid (∀ W, Calls Try.prog 107 #[.int .i64 me, .int .i64 1, .int .i64 1000000] W fun e w' => e = .returned (.bool (win me 1 1000000)) ∧ W = w') := (show ∀ W, _ from fun W => within107_any _ _ _ W)
  clear hb0 hb1 hX hL hB hz hz2 hv hv2 hA hzz hcall
  go_enter Try.func72, Try.ntmps72
  go_wp2_with fail
  refine (HW.out _).mono ?_
  generalize (w.alloc (.cells (xfs f v vs) 116)).alloc (.cells #[.int .i64 me, .slice A zs.length c] 55) = W0 at *
  rintro e w1 ⟨rfl, hw1⟩
  subst hw1
  cases hw : win me 1 1000000 with
  | false =>
    have HX := Lib.hid (HE.out.trans (if_pos hw))
    go_wp2_with fail
    go_ret
    exact HP.out _ _ HX.out.symm HB.out
  | true =>
    have HE2 := Lib.hid (HE.out.trans (if_neg (by rw [hw]; simp)))
    clear HE hw
    by_cases hl : 300 < zs.length
    · have hlz : (300 : Int) < (zs.length : Int) := by omega
      have HX := Lib.hid (HE2.out.trans (if_pos hl))
      go_wp2_with fail
      go_ret
      exact HP.out _ _ HX.out.symm HB.out
    · have hlz : ¬ (300 : Int) < (zs.length : Int) := by omega
      have HE3 := Lib.hid (HE2.out.trans (if_neg hl))
      clear HE2
      go_wp2_with fail
      refine HC.out.mono ?_
      rintro e w2 ⟨rfl, hb2⟩
      have HB2 := Lib.hid (HB.out.trans (hb2.mono HB.out.size))
      clear hb2
      by_cases hi : 0 ≤ idx (fun j => !win (gz zs j) 0 (f.sorts.length - 1)) zs.length
      · have HX := Lib.hid (HE3.out.trans (if_pos hi))
        rw [decide_eq_true hi]
        clear hi
        go_wp2_with fail
        go_ret
        exact HP.out _ _ HX.out.symm HB2.out
      · have HX := Lib.hid (HE3.out.trans (if_neg hi))
        rw [decide_eq_false hi]
        clear hi
        go_wp2_with fail
        go_ret
        exact HP.out _ _ HX.out.symm HB2.out
end Go.Proofs.Ytefjhhgfkdkfaaa
