/- gaps, wanted, wide of a set line. -/
import Derived.Test.YtefjhhgfkdkfaaaLne
namespace Go.Proofs.Ytefjhhgfkdkfaaa
set_option linter.unusedSimpArgs false
set_option linter.unusedVariables false
open Go.RowKit
theorem gaps_any (i j room : Int) (ends : Bool) (A : Option Addr) (n c : Nat) (w : World) (hn : n ≤ 100000) :
    Calls Try.prog 86 #[.agg (lcs i j (.slice A n c) room ends)] w fun e w' => e = .returned (.int .i64 ((n : Int) - 1)) ∧ Below w.heap.size w w' := by
  have hb := below_new w (.cells (lcs i j (.slice A n c) room ends) 92)
  have HB := Lib.hid hb
  clear hb
  go_enter Try.func86, Try.ntmps86
  go_wp2_with fail
  go_ret
  exact ⟨rfl, HB.out⟩
theorem wanted_any (i j room : Int) (ends : Bool) (A : Option Addr) (n c pb sb so sn sc g : Nat) (wx : Int) (w : World) (hn : n ≤ 100000) (hl1 : pb < w.heap.size) (hl2 : sb < w.heap.size)
    (z2 : w.cell? ⟨pb, 2, none⟩ = some (.slice (some ⟨sb, so, none⟩) sn sc)) (z7 : w.cell? ⟨pb, 7, none⟩ = some (.int .i64 (g : Int))) (hg : g < sn) (zw : w.cell? ⟨sb, so + g * 4 + 3, none⟩ = some (.int .i64 wx)) (hw : 1 ≤ wx ∧ wx ≤ 100000) (hns : sn ≤ 1000) :
    Calls Try.prog 87 #[.pointer (some ⟨pb, 0, none⟩), .agg (lcs i j (.slice A n c) room ends)] w fun e w' => e = .returned (.int .i64 (((n : Int) - 1) * wx)) ∧ Below w.heap.size w w' := by
  have hb := below_new w (.cells (lcs i j (.slice A n c) room ends) 92)
  have HB := Lib.hid hb
  have hB := Blk.new w 92 (lcs i j (.slice A n c) room ends)
  have HG := Lib.hid (fun W => gaps_any i j room ends A n c W hn)
  have hgz : (g : Int) < (sn : Int) := by omega
  have hsz : (w.alloc (.cells (lcs i j (.slice A n c) room ends) 92)).heap.size = w.heap.size + 1 := by simp
  have c2 := (hb.cell (p := ⟨pb, 2, none⟩) hl1).trans z2
  have c7 := (hb.cell (p := ⟨pb, 7, none⟩) hl1).trans z7
  have cw := (hb.cell (p := ⟨sb, so + g * 4 + 3, none⟩) hl2).trans zw
  have b0 := hB.cell 0
  have b1 := hB.cell 1
  have b2 := hB.cell 2
  have b3 := hB.cell 3
  have b4 := hB.cell 4
  have hm1 : -1 * wx ≤ ((n : Int) - 1) * wx := Int.mul_le_mul_of_nonneg_right (by omega) (by omega)
  have hm2 : ((n : Int) - 1) * wx ≤ 100000 * 100000 := Int.mul_le_mul (by omega) (by omega) (by omega) (by omega)
  have HWR : Hid (IntKind.i64.wrap (((n : Int) - 1) * wx) = ((n : Int) - 1) * wx) := IntWalk.i64_in _ (by omega)
  clear z2 z7 zw hB hb
  go_enter Try.func87, Try.ntmps87
  go_upto_region 1 with fail
  generalize w.alloc (.cells (lcs i j (.slice A n c) room ends) 92) = W at *
  have H1 := Lib.hid (fun W' (h : Below W.heap.size W W') => (show (W'.cell? ⟨pb, 2, none⟩ = some (.slice (some ⟨sb, so, none⟩) sn sc) ∧ W'.cell? ⟨pb, 7, none⟩ = some (.int .i64 (g : Int)) ∧ W'.cell? ⟨sb, so + g * 4 + 3, none⟩ = some (.int .i64 wx) ∧ Below W.heap.size W W') ∧ (W'.cell? ⟨w.heap.size, 0, none⟩ = some (.int .i64 i) ∧ W'.cell? ⟨w.heap.size, 1, none⟩ = some (.int .i64 j) ∧ W'.cell? ⟨w.heap.size, 2, none⟩ = some (.slice A n c) ∧ W'.cell? ⟨w.heap.size, 3, none⟩ = some (.int .i64 room) ∧ W'.cell? ⟨w.heap.size, 4, none⟩ = some (.bool ends)) from
    ⟨⟨(h.cell (p := ⟨pb, 2, none⟩) (by show pb < _; omega)).trans c2, (h.cell (p := ⟨pb, 7, none⟩) (by show pb < _; omega)).trans c7, (h.cell (p := ⟨sb, so + g * 4 + 3, none⟩) (by show sb < _; omega)).trans cw, h⟩,
      ⟨(h.cell (p := ⟨w.heap.size, 0, none⟩) (by show w.heap.size < _; omega)).trans b0, (h.cell (p := ⟨w.heap.size, 1, none⟩) (by show w.heap.size < _; omega)).trans b1, (h.cell (p := ⟨w.heap.size, 2, none⟩) (by show w.heap.size < _; omega)).trans b2, (h.cell (p := ⟨w.heap.size, 3, none⟩) (by show w.heap.size < _; omega)).trans b3, (h.cell (p := ⟨w.heap.size, 4, none⟩) (by show w.heap.size < _; omega)).trans b4⟩⟩))
  have h0 := H1.out W.drew (Below.refl _ _).drew
  go_wp2_with fail
  go_region_held3 (fun W' => (W'.cell? ⟨pb, 2, none⟩ = some (.slice (some ⟨sb, so, none⟩) sn sc) ∧ W'.cell? ⟨pb, 7, none⟩ = some (.int .i64 (g : Int)) ∧ W'.cell? ⟨sb, so + g * 4 + 3, none⟩ = some (.int .i64 wx) ∧ Below W.heap.size W W') ∧ (W'.cell? ⟨w.heap.size, 0, none⟩ = some (.int .i64 i) ∧ W'.cell? ⟨w.heap.size, 1, none⟩ = some (.int .i64 j) ∧ W'.cell? ⟨w.heap.size, 2, none⟩ = some (.slice A n c) ∧ W'.cell? ⟨w.heap.size, 3, none⟩ = some (.int .i64 room) ∧ W'.cell? ⟨w.heap.size, 4, none⟩ = some (.bool ends)))
    (first
      | exact h0
      | exact H1.out _ hb4)
    ((go_at_call 86; (with_reducible refine (HG.out _).mono ?_); rintro e w4 ⟨rfl, hb4'⟩; have hb4 : Below W.heap.size W w4 := (Below.refl W.heap.size W).drew.trans hb4'))
  go_wp2_with fail
  go_ret
  exact ⟨(show Ending.returned (.int .i64 (IntKind.i64.wrap (((n : Int) - 1) * wx))) = _ from by rw [HWR.out]), HB.out.trans (hb4.mono (by omega))⟩

theorem beq_dec (a b : Int) : decide (a = b) = (a == b) := by rw [Bool.eq_iff_iff]; simp
theorem longB_snoc {ps : List (List Int)} {k : Nat} (h : k < ps.length) : longB (ps.take (k + 1)) = (longB (ps.take k) || decide (60 < (gl ps k).length)) := by
  unfold longB
  rw [List.take_succ_eq_append_getElem h, List.any_append]
  simp [gl, List.getD_eq_getElem?_getD, h]
theorem longB_of {ps : List (List Int)} {k : Nat} (h : k < ps.length) (hk : 60 < (gl ps k).length) : longB ps = true := by
  have h1 := longB_snoc h
  have : longB (ps.take (k + 1)) = true := by rw [h1]; simp [hk]
  unfold longB at this ⊢
  rw [List.any_eq_true] at this ⊢
  obtain ⟨x, hx, hp⟩ := this
  exact ⟨x, List.mem_of_mem_take hx, hp⟩
theorem lenS_sum (ps : List (List Int)) : sumL ps ps.length = lenS ps := by unfold sumL lenS; rw [List.take_length]
set_option maxRecDepth 100000 in
set_option maxHeartbeats 4000000 in
theorem wide_any (i j : Int) (l : Ln) (vps : Value) (w : World) (hl : LV w l.ps vps) (h1 : l.ps.length ≤ 1000) (h2 : lenS l.ps ≤ 100000) :
    Calls Try.prog 84 #[.agg (lcs i j vps l.room l.ends)] w fun e w' => e = .returned (.bool (wideB l)) ∧ Below w.heap.size w w' := by
  have HV := Lib.hid hl
  obtain ⟨A, c, rfl, -, -⟩ := hl.shape
  have HSM : Hid (∀ k, k ≤ l.ps.length → sumL l.ps k ≤ lenS l.ps) := (show ∀ k, _ from fun k => sumL_mono)
  have HSS : Hid (∀ k, k < l.ps.length → sumL l.ps (k + 1) = sumL l.ps k + (gl l.ps k).length) := (show ∀ k, _ from fun k => sumL_succ)
  have HSE : Hid (sumL l.ps l.ps.length = lenS l.ps) := lenS_sum _
  have HW : Hid (wideB l = decide (30 < l.ps.length ∨ 189 < lenS l.ps)) := rfl
  have HS0 : Hid (sumL l.ps 0 = 0) := rfl
  have hb := below_new w (.cells (lcs i j (.slice A l.ps.length c) l.room l.ends) 92)
  have hB := Blk.new w 92 (lcs i j (.slice A l.ps.length c) l.room l.ends)
  have hB2 := hB.cell 2
  have hBl := hB.lt
  have HB := Lib.hid hb
  clear hl hb hB
  generalize hn : l.ps.length = n at *
  have HN := Lib.hid hn
  generalize lenS l.ps = T at *
  clear hn
  go_enter Try.func84, Try.ntmps84
  go_wp2_with fail
  generalize w.alloc (.cells (lcs i j (.slice A n c) l.room l.ends) 92) = W at *
  go_loopg [9, 3, 5] n (fun gg s9 s3 _ wr => ∃ k : Nat, k ≤ n ∧ n - k ≤ gg ∧ s9 = .int .i64 k ∧ s3 = .int .i64 (sumL l.ps k) ∧ W = wr)
  case atStart => exact ⟨0, by omega, by omega, rfl, by rw [HS0.out]; rfl, rfl⟩
  case round =>
    obtain ⟨k, hk, hg, rfl, rfl, rfl⟩ := hrel
    have hsk := HSM.out k hk
    by_cases hlt : k < n
    · have hltz : (k : Int) < (n : Int) := by omega
      have hV := HV.out.below HB.out
      rw [← HN.out] at hV
      obtain ⟨b, off, A', b', o', c', rfl, hbw, hc, -, -⟩ := hV.at (k := k) (by rw [HN.out]; exact hlt)
      have HS1 := Lib.hid (HSS.out k hlt)
      have hs1 := HSM.out (k + 1) (by omega)
      rw [HS1.out] at hs1
      clear hV
      generalize (gl l.ps k).length = m at *
      generalize sumL l.ps k = s at *
      go_wp2_with fail
      go_roundg (n - (k + 1))
      case measure => omega
      case rel => exact ⟨k + 1, by omega, by omega, by go_num, by rw [HS1.out]; go_num, rfl⟩
    · have hltz : ¬ (k : Int) < (n : Int) := by omega
      have hke : k = n := by omega
      subst hke
      rw [HSE.out]
      clear hsk hlt hltz
      by_cases ha : 30 < k
      · have haz : (30 : Int) < (k : Int) := by omega
        have HF : Hid (true = wideB l) := by show _ = _; rw [HW.out]; simp [ha]
        clear ha
        go_wp2_with fail
        go_ret
        exact ⟨ret_bool HF.out, HB.out⟩
      · have haz : ¬ (30 : Int) < (k : Int) := by omega
        by_cases hc : 189 < T
        · have hcz : (189 : Int) < (T : Int) := by omega
          have HF : Hid (true = wideB l) := by show _ = _; rw [HW.out]; simp [hc]
          clear ha hc
          go_wp2_with fail
          go_ret
          exact ⟨ret_bool HF.out, HB.out⟩
        · have hcz : ¬ (189 : Int) < (T : Int) := by omega
          have HF : Hid (false = wideB l) := by show _ = _; rw [HW.out]; simp [ha, hc]
          clear ha hc
          go_wp2_with fail
          go_ret
          exact ⟨ret_bool HF.out, HB.out⟩
set_option maxRecDepth 100000 in
set_option maxHeartbeats 4000000 in
theorem allowed_any (f : Fnt) (v : Value) (r : Rls) (ws : List PWord) (vw vp : Value) (pb : Nat) (i j : Int) (l : Ln) (vps : Value) (w : World) (h : PA w pb f v r ws vw vp) (hr : RuOk f r) (hl : LV w l.ps vps) (h1 : l.ps.length ≤ 1000) (h2 : lenS l.ps ≤ 100000) (h3 : -2000000000 ≤ l.room ∧ l.room ≤ 2000000000) :
    Calls Try.prog 43 #[.pointer (some ⟨pb, 0, none⟩), .agg (lcs i j vps l.room l.ends)] w fun e w' => e = .returned (.bool (allowB r l)) ∧ Below w.heap.size w w' := by
  have HV := Lib.hid hl
  obtain ⟨A, c, rfl, -, -⟩ := hl.shape
  have HSM : Hid (∀ k, k ≤ l.ps.length → sumL l.ps k ≤ lenS l.ps) := (show ∀ k, _ from fun k => sumL_mono)
  have HSS : Hid (∀ k, k < l.ps.length → sumL l.ps (k + 1) = sumL l.ps k + (gl l.ps k).length) := (show ∀ k, _ from fun k => sumL_succ)
  have HSE : Hid (sumL l.ps l.ps.length = lenS l.ps) := lenS_sum _
  have HLS : Hid (∀ k, k < l.ps.length → longB (l.ps.take k) = false → ¬ 60 < (gl l.ps k).length → longB (l.ps.take (k + 1)) = false) := (show ∀ k, _ from fun k hk h1 h2 => by rw [longB_snoc hk, h1]; simp [h2])
  have HLY : Hid (∀ k, k < l.ps.length → 60 < (gl l.ps k).length → false = allowB r l) := (show ∀ k, _ from fun k hk h1 => by unfold allowB; rw [if_pos (longB_of hk h1)])
  have HLE : Hid (longB (l.ps.take l.ps.length) = false → allowB r l = if 30 < l.ps.length ∨ 188 < lenS l.ps ∨ 20000 < l.room then false
      else if l.ends = true then decide (l.g * r.least ≤ l.room)
      else if 0 < l.g then win l.room (l.g * r.least) (l.g * r.most)
      else decide (l.room = 0)) := (show _ → _ from fun h1 => by rw [List.take_length] at h1; unfold allowB; rw [if_neg (by rw [h1]; decide)])
  have HLG : Hid (l.g = (l.ps.length : Int) - 1) := rfl
  have HS0 : Hid (sumL l.ps 0 = 0) := rfl
  have HL0 : Hid (longB (l.ps.take 0) = false) := rfl
  have hb := below_new w (.cells (lcs i j (.slice A l.ps.length c) l.room l.ends) 92)
  have hB := Blk.new w 92 (lcs i j (.slice A l.ps.length c) l.room l.ends)
  have hB2 := hB.cell 2
  have hBl := hB.lt
  have HBK := Lib.hid hB
  have HB := Lib.hid hb
  have HA := Lib.hid h
  have hrl : 1 ≤ r.least ∧ r.least ≤ 10000 := by have := hr.le; have := hr.mo; omega
  have hrm : 1 ≤ r.most ∧ r.most ≤ 10000 := by have := hr.le; have := hr.mo; omega
  have hg : -1 ≤ l.g ∧ l.g ≤ 1000 := by rw [HLG.out]; omega
  have ma1 : -1 * r.least ≤ l.g * r.least := Int.mul_le_mul_of_nonneg_right hg.1 (by omega)
  have ma2 : l.g * r.least ≤ 1000 * 10000 := Int.le_trans (Int.mul_le_mul_of_nonneg_right hg.2 (by omega)) (by omega)
  have mb1 : -1 * r.most ≤ l.g * r.most := Int.mul_le_mul_of_nonneg_right hg.1 (by omega)
  have mb2 : l.g * r.most ≤ 1000 * 10000 := Int.le_trans (Int.mul_le_mul_of_nonneg_right hg.2 (by omega)) (by omega)
  have HG := Lib.hid (fun W => gaps_any i j l.room l.ends A l.ps.length c W (by omega))
  rw [← HLG.out] at HG
  clear hl hb hB h hr
  generalize hn : l.ps.length = n at *
  have HN := Lib.hid hn
  generalize lenS l.ps = T at *
  generalize hgg : l.g = g at *
  generalize hre : l.room = room at *
  generalize hee : l.ends = ends at *
  clear hn hgg hre hee HLG
  go_enter Try.func43, Try.ntmps43
  go_wp2_with fail
  generalize w.alloc (.cells (lcs i j (.slice A n c) room ends) 92) = W at *
  go_loopg [12, 5, 7] n (fun gg s12 s5 _ wr => ∃ k : Nat, k ≤ n ∧ n - k ≤ gg ∧ s12 = .int .i64 k ∧ s5 = .int .i64 (sumL l.ps k) ∧ Hid (longB (l.ps.take k) = false) ∧ W = wr)
  case atStart => exact ⟨0, by omega, by omega, rfl, by rw [HS0.out]; rfl, HL0.out, rfl⟩
  case round =>
    obtain ⟨k, hk, hgk, rfl, rfl, HLK, rfl⟩ := hrel
    have hsk := HSM.out k hk
    by_cases hlt : k < n
    · have hltz : (k : Int) < (n : Int) := by omega
      have hV := HV.out.below HB.out
      rw [← HN.out] at hV
      obtain ⟨b, off, A', b', o', c', rfl, hbw, hc, -, -⟩ := hV.at (k := k) (by rw [HN.out]; exact hlt)
      have HS1 := Lib.hid (HSS.out k hlt)
      have HLS1 := Lib.hid (HLS.out k hlt HLK.out)
      have HLY1 := Lib.hid (HLY.out k hlt)
      have hs1 := HSM.out (k + 1) (by omega)
      rw [HS1.out] at hs1
      clear hV
      generalize (gl l.ps k).length = m at *
      generalize sumL l.ps k = s at *
      by_cases hm : 60 < m
      · have hmz : (60 : Int) < (m : Int) := by omega
        have HF := Lib.hid (HLY1.out hm)
        clear hm
        go_wp2_with fail
        go_ret
        exact ⟨ret_bool HF.out, HB.out⟩
      · have hmz : ¬ (60 : Int) < (m : Int) := by omega
        have HL1 := Lib.hid (HLS1.out hm)
        clear hm
        go_wp2_with fail
        go_roundg (n - (k + 1))
        case measure => omega
        case rel => exact ⟨k + 1, by omega, by omega, by go_num, by rw [HS1.out]; go_num, HL1.out, rfl⟩
    · have hltz : ¬ (k : Int) < (n : Int) := by omega
      have hke : k = n := by omega
      subst hke
      rw [HSE.out]
      have HD := Lib.hid (HLE.out HLK.out)
      have b0 := HBK.out.cell 0
      have b1 := HBK.out.cell 1
      have b3 := HBK.out.cell 3
      have b4 := HBK.out.cell 4
      clear hsk hlt hltz HLE HLK
      have HBB := Lib.hid (fun W' (h : Below W.heap.size W W') => HB.out.trans (h.mono HB.out.size))
      have hW : w.heap.size < W.heap.size := hBl
      go_upto_region 10 with ((go_at_call 86; (with_reducible refine (HG.out _).mono ?_); rintro e w4 ⟨rfl, hb4⟩))
      have HB4 := Lib.hid (HBB.out w4 hb4)
      have hK4 := HBK.out.below hb4 hBl
      have hA4 := HA.out.P.below HB4.out HA.out.P.lt
      have y2 := hK4.cell 2
      have y3 := hK4.cell 3
      have y4 := hK4.cell 4
      have yl := hK4.lt
      have p5 := hA4.cell 5
      have p6 := hA4.cell 6
      have pl := hA4.lt
      clear hK4 hA4 b0 b1 b3 b4 hb4
      by_cases ha : 30 < k
      · have haz : (30 : Int) < (k : Int) := by omega
        have HF : Hid (false = allowB r l) := by show _ = _; rw [HD.out, if_pos (.inl ha)]
        clear ha
        go_wp2_with fail
        go_ret
        exact ⟨ret_bool HF.out, HB4.out⟩
      have haz : ¬ (30 : Int) < (k : Int) := by omega
      by_cases hc : 188 < T
      · have hcz : (188 : Int) < (T : Int) := by omega
        have HF : Hid (false = allowB r l) := by show _ = _; rw [HD.out, if_pos (.inr (.inl hc))]
        clear ha hc
        go_wp2_with fail
        go_ret
        exact ⟨ret_bool HF.out, HB4.out⟩
      have hcz : ¬ (188 : Int) < (T : Int) := by omega
      by_cases hd : 20000 < room
      · have HF : Hid (false = allowB r l) := by show _ = _; rw [HD.out, if_pos (.inr (.inr hd))]
        clear ha hc
        go_wp2_with fail
        go_ret
        exact ⟨ret_bool HF.out, HB4.out⟩
      have HD2 : Hid (allowB r l = if ends = true then decide (g * r.least ≤ room) else if 0 < g then win room (g * r.least) (g * r.most) else decide (room = 0)) := by show _ = _; rw [HD.out, if_neg (by omega)]
      clear ha hc HD HLY HLS
      have HWR1 : Hid (IntKind.i64.wrap (g * r.least) = g * r.least) := IntWalk.i64_in _ (by omega)
      have HWR2 : Hid (IntKind.i64.wrap (g * r.most) = g * r.most) := IntWalk.i64_in _ (by omega)
      have w1 := HWR1.out
      have w2 := HWR2.out
      have HQ : Hid (∀ W, Calls Try.prog 44 #[.int .i64 room, .int .i64 (g * r.least), .int .i64 (g * r.most)] W fun e w' => e = .returned (.bool (win room (g * r.least) (g * r.most))) ∧ w' = W) := (show ∀ W, _ from fun W => (within44_any room (g * r.least) (g * r.most) W).mono fun e w' h => ⟨h.1, h.2.symm⟩)
      generalize hx1 : g * r.least = x1 at *
      generalize hx2 : g * r.most = x2 at *
      cases ends with
      | true =>
        go_wp2_with fail
        go_quiet (fail)
        go_wp2_with fail
        go_ret
        exact ⟨ret_bool (by rw [HD2.out]; first | rw [if_pos rfl] | rw [if_pos trivial]), HB4.out.trans ((below_drewN _ nq).mono HB4.out.size)⟩
      | false =>
        by_cases hg0 : 0 < g
        · go_wp2_with fail
          go_quiet ((go_at_call 44; exact Calls.quiet_of_same (HQ.out _)))
          go_wp2_with fail
          go_ret
          exact ⟨ret_bool (by rw [HD2.out, if_neg (by decide), if_pos hg0]), HB4.out.trans ((below_drewN _ nq).mono HB4.out.size)⟩
        · go_wp2_with fail
          go_ret
          exact ⟨ret_bool (by rw [HD2.out, if_neg (by decide), if_neg (by omega), beq_dec]), HB4.out⟩
end Go.Proofs.Ytefjhhgfkdkfaaa
