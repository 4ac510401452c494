/- CheckBreaks of the program. -/
import Derived.Test.YtbnganlfelgogaaGreatZBrl
set_option linter.unusedSimpArgs false
set_option linter.unusedVariables false
namespace Go.Proofs.YtbnganlfelgogaaGreat
open Go.RowKit
set_option maxRecDepth 100000 in
set_option maxHeartbeats 4000000 in
theorem checkBreaks_any (f : Fnt) (v : Value) (r : Rls) (ws : List PWord) (vw : Value) (bs : List Int) (vb : Value) (w : World) (hv : SoV w f.sorts v) (hn : f.name.size ≤ 9223372036854775807) (hw : WoV w ws vw) (hb : IV w bs vb) :
 Calls Tryz.prog 38 #[.agg (fcs f v), .agg (rcs r), vw, vb] w fun e w' => e = .returned (.tuple #[.int .i64 (cbA f r ws bs).1, .int .i64 (cbA f r ws bs).2]) ∧ Below w.heap.size w w' := by
 have HT := Lib.hid (UB.start (r := r) hv hw)
 have HOP := Lib.hid (fun W (h1 : SoV W f.sorts v) (h2 : WoV W ws vw) => open_any f v r ws vw W h1 hn h2)
 have HD : Hid (cbA f r ws bs = if paErr f r ws ≠ 0 then (0, paErr f r ws) else if lnErr f r ws bs ≠ 0 then (0, lnErr f r ws bs) else (dmA f r ws bs bs.length, 0)) := rfl
 have HP : Hid (∀ W x y, cbA f r ws bs = (x, y) → Below w.heap.size w W → (Ending.returned (.tuple #[.int .i64 x, .int .i64 y]) = .returned (.tuple #[.int .i64 (cbA f r ws bs).1, .int .i64 (cbA f r ws bs).2]) ∧ Below w.heap.size w W)) := (show ∀ W x y, _ from fun W x y h hb => ⟨by rw [h], hb⟩)
 have HPO : Hid (paErr f r ws = 0 → POk f r ws) := paErr_ok
 have HLI := Lib.hid (fun pb vp W (h1 : PA W pb f v r ws vw vp) (h2 : POk f r ws) (h3 : IV W bs vb) => lines_any f v r ws vw vp pb bs vb W h1 h2 h3)
 obtain ⟨Av, cv, rfl⟩ := hv.shape
 obtain ⟨Aw, cw, rfl, -⟩ := hw.shape
 obtain ⟨Ab, b0, o0, cb, rfl, -, -, -, -⟩ := hb.open
 have HBV := Lib.hid hb
 clear hv hw hn hb
 have g0 := HT.out.T.F.cell 0
 have g1 := HT.out.T.F.cell 1
 have g2 := HT.out.T.F.cell 2
 have q0 := HT.out.T.R.cell 0
 have q1 := HT.out.T.R.cell 1
 have q2 := HT.out.T.R.cell 2
 have q3 := HT.out.T.R.cell 3
 have q4 := HT.out.T.R.cell 4
 have q5 := HT.out.T.R.cell 5
 have q6 := HT.out.T.R.cell 6
 have q7 := HT.out.T.R.cell 7
 go_enter Tryz.func38, Tryz.ntmps38
 go_wp2_with fail
 generalize (w.alloc (.cells (fcs f (.slice Av f.sorts.length cv)) 24)).alloc (.cells (rcs r) 26) = W0 at *
 refine (HOP.out _ HT.out.T.S HT.out.V).mono ?_
 rintro e W1 ⟨hb1, ⟨hpe, rfl⟩ | ⟨hpe, pb, vp, rfl, hpb, hpa⟩⟩
 · have hpb := bne_t hpe
   have HF : Hid (cbA f r ws bs = (0, paErr f r ws)) := by show _ = _; rw [HD.out, if_pos hpe]
   have HB1 := Lib.hid (HT.out.T.B.trans (hb1.mono HT.out.T.B.size))
   clear hpe hb1
   go_wp2_with fail
   go_ret2
   exact HP.out _ _ _ HF.out HB1.out
 have HB1 := Lib.hid (HT.out.T.B.trans (hb1.mono HT.out.T.B.size))
 have HOK := Lib.hid (HPO.out hpe)
 have HD2 : Hid (cbA f r ws bs = if lnErr f r ws bs ≠ 0 then (0, lnErr f r ws bs) else (dmA f r ws bs bs.length, 0)) := by show _ = _; rw [HD.out, if_neg (fun h => h hpe)]
 have HLC := Lib.hid (HLI.out pb vp W1 hpa HOK.out (HBV.out.below HB1.out))
 have HPA := Lib.hid hpa
 clear hpe hb1 hpa HD HLI HOP g0 g1 g2 q0 q1 q2 q3 q4 q5 q6 q7
 go_wp2_with fail
 refine HLC.out.mono ?_
 rintro e W2 ⟨hb2, ⟨hle, rfl⟩ | ⟨hle, vo, qs, rfl, hss, hqs⟩⟩
 · have HF : Hid (cbA f r ws bs = (0, lnErr f r ws bs)) := by show _ = _; rw [HD2.out, if_pos hle]
   have HB2 := Lib.hid (HB1.out.trans (hb2.mono HB1.out.size))
   clear hle hb2
   go_wp2_with fail
   go_loopg [34, 13, 15] 0 (fun gg s34 s13 _ wr => s34 = .int .i64 0 ∧ s13 = .int .i64 0 ∧ W2 = wr)
   case atStart => exact ⟨rfl, rfl, rfl⟩
   case round =>
    obtain ⟨rfl, rfl, rfl⟩ := hrel
    go_wp2_with fail
    go_ret2
    exact HP.out _ _ _ HF.out HB2.out
 have HF : Hid (cbA f r ws bs = (dmA f r ws bs bs.length, 0)) := by show _ = _; rw [HD2.out, if_neg (fun h => h hle)]
 have HLO := Lib.hid (lnErr_ok hle)
 have hcp := cpErr_ok HLO.out.1
 have hm := HOK.out.m
 have HUP : Hid (∀ k, k < bs.length → 0 ≤ befB bs k ∧ befB bs k < gz bs k ∧ gz bs k < (places ws).length) := (show ∀ k, _ from fun k hk => by
  have h1 := ckE_ok (hcp.1 k hk)
  have h2 := bef_up hcp.1 (by omega) k (by omega)
  omega)
 have hn3 : bs.length ≤ 300 := by have := bef_up hcp.1 (by omega) bs.length (Nat.le_refl _); omega
 have HDB := Lib.hid (dmA_bound HOK.out.ru HLO.out.2)
 have HDS : Hid (∀ k, k < bs.length → dmA f r ws bs (k + 1) = dmA f r ws bs k + demF f r (lineF f r ws (befB bs k).toNat (gz bs k).toNat) (divB ws (befB bs k).toNat) (divB ws (gz bs k).toNat)) := (show ∀ k, _ from fun k hk => dmA_step hk)
 have HD0 : Hid (dmA f r ws bs 0 = 0) := by show _ = _; simp [dmA, sumD]
 have HQG : Hid (∀ k, k < bs.length → (qs.map Prod.fst)[k]? = some ((befB bs k).toNat, (gz bs k).toNat)) := (show ∀ k, _ from fun k hk => by rw [hqs]; exact prs_get bs bs.length k hk)
 have hql : qs.length = bs.length := by have := congrArg List.length hqs; rwa [List.length_map, prs_len] at this
 have HB2 := Lib.hid (HB1.out.trans (hb2.mono HB1.out.size))
 have HPA2 := Lib.hid (HPA.out.step hb2)
 obtain ⟨A, c, rfl⟩ := hss.shape
 have HSS := Lib.hid hss
 have HQL := Lib.hid hql
 clear hcp hle hb2 hss hqs HD2 HLC HPA
 rw [hql] at HSS ⊢
 generalize hn : bs.length = n at *
 clear hql
 have HNN := Lib.hid hn
 clear hn
 go_wp2_with fail
 go_loopg [34, 13, 15] n (fun gg s34 s13 _ wr => ∃ k : Nat, k ≤ n ∧ n - k ≤ gg ∧ s34 = .int .i64 k ∧ s13 = .int .i64 (dmA f r ws bs k) ∧ Hid (Below W2.heap.size W2 wr))
 case atStart => exact ⟨0, by omega, by omega, rfl, by rw [HD0.out], Below.refl _ _⟩
 case round =>
  obtain ⟨k, hk, hg, rfl, rfl, HB⟩ := hrel
  have hdb := HDB.out k hk
  by_cases hlt : k < n
  · have hltz : (k : Int) < (n : Int) := by omega
    have hss := HSS.out.below HB.out
    rw [← HQL.out] at hss
    obtain ⟨g, Av2, cv2, rfl, hgl, x0, x1, x2, x3, x4, hlv⟩ := hss.at (k := k) (by rw [HQL.out]; exact hlt) (HQG.out k hlt)
    have hup := HUP.out k hlt
    have HDK := Lib.hid (HDS.out k hlt)
    have hdb1 := HDB.out (k + 1) (by omega)
    rw [HDK.out] at hdb1
    have hdk := dem_bound (da := divB ws (befB bs k).toNat) (db := divB ws (gz bs k).toNat) HOK.out.ru (HLO.out.2 k hlt)
    obtain ⟨i, hi⟩ : ∃ i, (befB bs k).toNat = i := ⟨_, rfl⟩
    obtain ⟨j, hj⟩ : ∃ j, (gz bs k).toNat = j := ⟨_, rfl⟩
    have hij : i < j ∧ j < (places ws).length := by omega
    rw [hi, hj] at x0 x1 x2 x3 x4 hlv HDK hdb1 hdk
    have HSZ := Lib.hid (line_size HOK.out hij.1 hij.2)
    have HLV := Lib.hid hlv
    have HDM : Hid (∀ W, Below wr.heap.size wr W → Calls Tryz.prog 102 #[.pointer (some ⟨pb, 0, none⟩), .agg (lcs i j (.slice Av2 (lineF f r ws i j).ps.length cv2) (lineF f r ws i j).room (lineF f r ws i j).ends)] W fun e w' => e = .returned (.int .i64 (demF f r (lineF f r ws i j) (divB ws i) (divB ws j))) ∧ Below W.heap.size W w') := (show ∀ W, _ from fun W hW =>
     demerits_any f _ r ws _ vp pb i j (lineF f r ws i j) _ W (HPA2.out.step (HB.out.trans (hW.mono HB.out.size))) HOK.out (by omega) hij.2 (HLV.out.below hW) (by have := HSZ.out; omega) (by have := HSZ.out; omega))
    clear hss hlv hi hj hup
    generalize demF f r (lineF f r ws i j) (divB ws i) (divB ws j) = dm at *
    generalize dmA f r ws bs k = sm at *
    generalize hlf : lineF f r ws i j = l at *
    clear hlf
    generalize hpl : l.ps.length = pl at *
    clear hpl
    unfold DMX at hdk
    go_wp2_with ((go_at_call 102; (with_reducible refine (HDM.out _ (below_new _ _)).mono ?_); rintro e w4 ⟨rfl, hb4⟩))
    have HB5 := Lib.hid (HB.out.trans (((below_new wr _).trans (hb4.mono (by simp))).mono HB.out.size))
    go_roundg (n - (k + 1))
    case measure => omega
    case rel => exact ⟨k + 1, by omega, by omega, by go_num, by rw [HDK.out], HB5.out⟩
  · have hltz : ¬ (k : Int) < (n : Int) := by omega
    have hke : k = n := by omega
    subst hke
    have HB3 := Lib.hid (HB2.out.trans (HB.out.mono HB2.out.size))
    go_wp2_with fail
    go_ret2
    exact HP.out _ _ _ HF.out HB3.out
end Go.Proofs.YtbnganlfelgogaaGreat
