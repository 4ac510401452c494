/- FormeFewer: the walk. -/
import Derived.Test.YtlfeoofchebbkaaFeq
import Derived.Test.YtlfeoofchebbkaaFil
namespace Go.Proofs.Ytlfeoofchebbkaa
set_option linter.unusedSimpArgs false
set_option linter.unusedVariables false
open Go.RowKit
set_option maxRecDepth 100000 in
set_option maxHeartbeats 4000000 in
theorem fewer_any (l : List (Int × Int)) (len : Int) (cs : List Int) (A A2 : Option Addr) (b off c b2 off2 c2 : Nat) (w : World) (hA : Lies A l.length w.heap.size b off) (hz : FsAt w b off l)
    (hA2 : Lies A2 cs.length w.heap.size b2 off2) (hz2 : ZsAt w b2 off2 cs) (hml : l.length ≤ 9223372036854775807) (hm2 : cs.length ≤ 9223372036854775807) :
    Calls Try.prog 11 #[.slice A l.length c, .int .i64 len, .slice A2 cs.length c2] w fun e w' => e = .returned (.bool true) ∧ Below w.heap.size w w' := by
  have HA := Lib.hid hA
  have HZ := Lib.hid hz
  have HA2 := Lib.hid hA2
  have HZ2 := Lib.hid hz2
  clear hA hz hA2 hz2
  by_cases h4 : (4 : Int) < (l.length : Int)
  · go_enter Try.func11, Try.ntmps11
    go_wp2_with fail
    refine (awake_any _).mono ?_
    rintro e w1 ⟨rfl, b1⟩
    have HB1 := Lib.hid b1
    clear b1
    go_wp2_with fail
    go_ret
    exact ⟨rfl, HB1.out⟩
  by_cases h15 : (15 : Int) < (cs.length : Int)
  · go_enter Try.func11, Try.ntmps11
    go_wp2_with fail
    refine (awake_any _).mono ?_
    rintro e w1 ⟨rfl, b1⟩
    have HB1 := Lib.hid b1
    clear b1
    go_wp2_with fail
    go_ret
    exact ⟨rfl, HB1.out⟩
  go_enter Try.func11, Try.ntmps11
  go_wp2_with fail
  refine (awake_any _).mono ?_
  rintro e w1 ⟨rfl, b1⟩
  have HB1 := Lib.hid b1
  clear b1
  go_wp2_with fail
  refine (refStock_any l len A b off c _ (HA.out.mono HB1.out.size) (HZ.out.mono' HA.out HB1.out) (by omega)).mono ?_
  rintro e w2 ⟨rfl, b2⟩
  have HB2 := Lib.hid (HB1.out.trans (b2.mono HB1.out.size))
  clear b2 HB1
  by_cases hs : checkSt l len = 0
  case neg =>
    have hs2 : (checkSt l len != 0) = true := bne_t hs
    generalize checkSt l len = s at *
    go_wp2_with fail
    go_ret
    exact ⟨rfl, HB2.out⟩
  rw [hs]
  have HS := Lib.hid hs
  clear hs
  go_wp2_with fail
  refine (stocked_any l A b off c _ (HA.out.mono HB2.out.size) (HZ.out.mono' HA.out HB2.out) (by omega)).mono ?_
  rintro e w3 ⟨A', b', c', rfl, hA', hz', b3⟩
  have HB3 := Lib.hid (HB2.out.trans (b3.mono HB2.out.size))
  have HA' := Lib.hid hA'
  have HZ' := Lib.hid hz'
  clear hA' hz' b3 HB2
  go_wp2_with fail
  refine (fillLen_ok l len A' b' 0 c' _ HA'.out HZ'.out HS.out).mono ?_
  rintro e w4 ⟨vl, hvl, b4, hcase⟩
  have HB4 := Lib.hid (HB3.out.trans (b4.mono HB3.out.size))
  clear b4 HB3 HA' HZ' hvl
  rcases hcase with ⟨hlab, rfl⟩ | ⟨hlab, bs, vb, hbl, hvb, rfl, cc, hcc, hfs, hfn⟩
  · have hne : (checkFl l len cs).2 ≠ 0 := fun h => by have := lab_least HS.out h; rw [hlab] at this; omega
    have hnb : ((checkFl l len cs).2 != 0) = true := bne_t hne
    clear hlab hne
    go_wp2_with fail
    refine (stocked_any l A b off c _ (HA.out.mono HB4.out.size) (HZ.out.mono' HA.out HB4.out) (by omega)).mono ?_
    rintro e w5 ⟨A5, b5, c5, rfl, hA5, hz5, b5'⟩
    have HB5 := Lib.hid (HB4.out.trans (b5'.mono HB4.out.size))
    have HA5 := Lib.hid hA5
    have HZ5 := Lib.hid hz5
    clear hA5 hz5 b5' HB4
    go_wp2_with fail
    refine (copyInts_any cs A2 b2 off2 c2 _ (HA2.out.mono HB5.out.size) (HZ2.out.mono' HA2.out HB5.out) (by omega)).mono ?_
    rintro e w6 ⟨A6, b6, c6, rfl, hA6, hz6, b6'⟩
    have HB6 := Lib.hid (HB5.out.trans (b6'.mono HB5.out.size))
    have HA5' := Lib.hid (HA5.out.mono b6'.size)
    have HZ5' := Lib.hid (HZ5.out.mono' HA5.out b6')
    have HA6 := Lib.hid hA6
    have HZ6 := Lib.hid hz6
    clear hA6 hz6 b6' HB5 HA5 HZ5
    go_wp2_with fail
    refine (checkFilling_any l len cs _ _ _ _ _ _ _ _ _ HA5'.out HZ5'.out (by omega) HA6.out HZ6.out (by omega)).mono ?_
    rintro e w7 ⟨rfl, b7⟩
    have HB7 := Lib.hid (HB6.out.trans (b7.mono HB6.out.size))
    clear b7 HB6 HA5' HZ5' HA6 HZ6
    generalize checkFl l len cs = q at *
    go_wp2_with fail
    go_ret
    exact ⟨ret_bool (by simp), HB7.out⟩
  · have hlst : (checkFl l len cs).2 = 0 → (fN cc l.length : Int) ≤ (checkFl l len cs).1 := fun h => by have := lab_least HS.out h; rw [hfn]; exact this.1
    have HLAB := Lib.hid hlab
    have HBL := Lib.hid hbl
    have HFN := Lib.hid hfn
    have HGD := Lib.hid (checkFl_good HS.out hbl hcc hfs)
    have hblz : bs.length ≤ 1000000 := by omega
    clear hlab hbl hcc hfs hfn
    obtain ⟨Av, bv, cv, rfl, hAv, hzv, hcv, hmv⟩ := hvb
    have HAv := Lib.hid hAv
    have HZv := Lib.hid hzv
    clear hAv hzv hcv
    go_wp2_with fail
    refine (stocked_any l A b off c _ (HA.out.mono HB4.out.size) (HZ.out.mono' HA.out HB4.out) (by omega)).mono ?_
    rintro e w5 ⟨A5, b5, c5, rfl, hA5, hz5, b5'⟩
    have HB5 := Lib.hid (HB4.out.trans (b5'.mono HB4.out.size))
    have HAv5 := Lib.hid (HAv.out.mono b5'.size)
    have HZv5 := Lib.hid (HZv.out.mono' HAv.out b5')
    have HA5 := Lib.hid hA5
    have HZ5 := Lib.hid hz5
    clear hA5 hz5 b5' HB4 HAv HZv
    go_wp2_with fail
    refine (copyInts_any cs A2 b2 off2 c2 _ (HA2.out.mono HB5.out.size) (HZ2.out.mono' HA2.out HB5.out) (by omega)).mono ?_
    rintro e w6 ⟨A6, b6, c6, rfl, hA6, hz6, b6'⟩
    have HB6 := Lib.hid (HB5.out.trans (b6'.mono HB5.out.size))
    have HA5' := Lib.hid (HA5.out.mono b6'.size)
    have HZ5' := Lib.hid (HZ5.out.mono' HA5.out b6')
    have HAv6 := Lib.hid (HAv5.out.mono b6'.size)
    have HZv6 := Lib.hid (HZv5.out.mono' HAv5.out b6')
    have HA6 := Lib.hid hA6
    have HZ6 := Lib.hid hz6
    clear hA6 hz6 b6' HB5 HA5 HZ5 HAv5 HZv5
    go_wp2_with fail
    refine (checkFilling_any l len cs _ _ _ _ _ _ _ _ _ HA5'.out HZ5'.out (by omega) HA6.out HZ6.out (by omega)).mono ?_
    rintro e w7 ⟨rfl, b7⟩
    have HB7 := Lib.hid (HB6.out.trans (b7.mono HB6.out.size))
    have HAv7 := Lib.hid (HAv6.out.mono b7.size)
    have HZv7 := Lib.hid (HZv6.out.mono' HAv6.out b7)
    clear b7 HB6 HA5' HZ5' HA6 HZ6 HAv6 HZv6
    generalize checkFl l len cs = q at *
    go_wp2_with fail
    refine (stocked_any l A b off c _ (HA.out.mono HB7.out.size) (HZ.out.mono' HA.out HB7.out) (by omega)).mono ?_
    rintro e w5 ⟨A5, b5, c5, rfl, hA5, hz5, b5'⟩
    have HB5 := Lib.hid (HB7.out.trans (b5'.mono HB7.out.size))
    have HAv5 := Lib.hid (HAv7.out.mono b5'.size)
    have HZv5 := Lib.hid (HZv7.out.mono' HAv7.out b5')
    have HA5 := Lib.hid hA5
    have HZ5 := Lib.hid hz5
    clear hA5 hz5 b5' HB7 HAv7 HZv7
    go_wp2_with fail
    refine (copyInts_any bs Av bv 0 cv _ HAv5.out HZv5.out hblz).mono ?_
    rintro e w6 ⟨A6, b6, c6, rfl, hA6, hz6, b6'⟩
    have HB6 := Lib.hid (HB5.out.trans (b6'.mono HB5.out.size))
    have HA5' := Lib.hid (HA5.out.mono b6'.size)
    have HZ5' := Lib.hid (HZ5.out.mono' HA5.out b6')
    have HA6 := Lib.hid hA6
    have HZ6 := Lib.hid hz6
    clear hA6 hz6 b6' HB5 HA5 HZ5 HAv5 HZv5
    go_wp2_with fail
    refine (checkFilling_any l len bs _ _ _ _ _ _ _ _ _ HA5'.out HZ5'.out (by omega) HA6.out HZ6.out (by omega)).mono ?_
    rintro e w8 ⟨rfl, b8⟩
    have HB8 := Lib.hid (HB6.out.trans (b8.mono HB6.out.size))
    clear b8 HB6 HA5' HZ5' HA6 HZ6
    rw [HGD.out]
    dsimp only
    clear HGD
    generalize (fN cc l.length : Int) = z at *
    have hways : ((q.2 == 0) = true ∧ ¬ q.1 < z) ∨ (q.2 == 0) = false := by
      by_cases h : q.2 = 0
      · exact .inl ⟨by simp [h], by have := hlst h; omega⟩
      · exact .inr (by simp [h])
    clear hlst
    rcases hways with ⟨hw1, hw2⟩ | hw1
    all_goals (
      go_wp2_with fail
      go_loopg [14] l.length (fun gg s14 wr => ∃ k : Nat, k ≤ l.length ∧ l.length - k ≤ gg ∧ s14 = .int .i64 k ∧ Hid (Below w.heap.size w wr))
      case atStart => exact ⟨0, by omega, by omega, rfl, HB8.out⟩
      case round =>
        obtain ⟨k, hk, hgk, rfl, HBr⟩ := hrel
        by_cases hlt : k < l.length
        · have hltz : (k : Int) < (l.length : Int) := by omega
          have hk0 : (0 : Int) ≤ (k : Int) := by omega
          have HAr := Lib.hid (HA.out.mono HBr.out.size)
          have HZr := Lib.hid (HZ.out.mono' HA.out HBr.out)
          obtain ⟨rfl, hbw⟩ := HA.out (by omega)
          obtain ⟨f0, f1⟩ := HZr.out k hlt
          have hcr := (checkSt_zero HS.out).c k hlt
          have HKL := Lib.hid hlt
          by_cases hc : (100 : Int) ≤ (gf l k).2
          · go_wp2_with fail
            go_roundg (l.length - (k + 1))
            case measure => omega
            case rel => exact ⟨k + 1, by omega, by omega, by go_num, HBr.out⟩
          · have HC := Lib.hid hc
            go_wp2_with fail
            refine (stockedO_any l _ b off c _ HAr.out HZr.out (by omega)).mono ?_
            rintro e w9 ⟨v9, rfl, ⟨A9, b9, c9, rfl, hA9, hz9, hrow9⟩, b9'⟩
            obtain ⟨hb9, hrow⟩ := hrow9 (by omega)
            obtain ⟨rfl, hb9l⟩ := hA9 (by omega)
            obtain ⟨g0, g1⟩ := hz9 k HKL.out
            rw [Nat.zero_add] at g0 g1
            have gf9 := hrow.frozen (k * 2 + 1)
            have HBU := Lib.hid (FsOwn.bump (w' := w9) (B := 0) HKL.out hrow)
            have hbb : w.heap.size ≤ b9 := Nat.le_trans HBr.out.size hb9
            have HB9 := Lib.hid ((HBr.out.trans (b9'.mono HBr.out.size)).setCell (p := ⟨b9, k * 2 + 1, none⟩) hbb (.int .i64 ((gf l k).2 + 1)))
            have hsz9 : (w9.setCell ⟨b9, k * 2 + 1, none⟩ (.int .i64 ((gf l k).2 + 1))).heap.size = w9.heap.size := by simp [World.setCell]
            clear hA9 hz9 hrow9 hrow b9' hb9 f0 f1 g0
            go_wp2_with fail
            generalize w9.setCell ⟨b9, k * 2 + 1, none⟩ (.int .i64 ((gf l k).2 + 1)) = W10 at *
            have HA10 : Hid (Lies (some ⟨b9, 0, none⟩) (bump l k).length W10.heap.size b9 0) := (show Lies _ _ _ _ _ from fun _ => ⟨rfl, by omega⟩)
            clear hsz9 gf9 hb9l
            have hst := stocked_any (bump l k) _ b9 0 c9 W10 HA10.out HBU.out (by rw [bump_len]; omega)
            rw [bump_len] at hst
            refine hst.mono ?_
            rintro e w11 ⟨A11, b11, c11, rfl, hA11, hz11, b11'⟩
            have HB11 := Lib.hid (HB9.out.trans (b11'.mono HB9.out.size))
            have HAm := Lib.hid (HA10.out.mono b11'.size)
            have HZm := Lib.hid (HBU.out.mono' HA10.out b11')
            have HA11 := Lib.hid hA11
            have HZ11 := Lib.hid hz11
            clear hst hA11 hz11 b11' HB9 HA10 HBU
            rw [bump_len]
            go_wp2_with fail
            have HSB := Lib.hid (bump_ok HS.out HKL.out (by have := HC.out; omega))
            have hfl := fillLen_ok (bump l k) len A11 b11 0 c11 _ HA11.out HZ11.out HSB.out
            rw [bump_len] at hfl
            refine hfl.mono ?_
            rintro e w12 ⟨vl2, -, b12, hcase2⟩
            have HB12 := Lib.hid (HB11.out.trans (b12.mono HB11.out.size))
            have HAm2 := Lib.hid (HAm.out.mono b12.size)
            have HZm2 := Lib.hid (HZm.out.mono' HAm.out b12)
            clear hfl b12 HB11 HA11 HZ11 HAm HZm
            have hbl := bump_lab HS.out HKL.out HLAB.out
            rcases hcase2 with ⟨hlab2, -⟩ | ⟨-, bs2, vb2, hbl2, hvb2, rfl, cc2, hcc2, hfs2, hfn2⟩
            · have := HLAB.out
              rw [hlab2] at hbl
              omega
            · rw [← hfn2] at hbl
              have HGD2 := Lib.hid (checkFl_good HSB.out hbl2 hcc2 hfs2)
              have hzz : ¬ z < (fN cc2 (bump l k).length : Int) := by have := HFN.out; omega
              obtain ⟨Av2, bv2, cv2, rfl, hAv2, hzv2, -, hmv2⟩ := hvb2
              have HAv2 := Lib.hid hAv2
              have HZv2 := Lib.hid hzv2
              clear hbl hbl2 hcc2 hfs2 hfn2 hAv2 hzv2
              go_wp2_with fail
              have hcf := checkFilling_any (bump l k) len bs2 _ _ _ _ c9 _ _ cv2 _ HAm2.out HZm2.out (by rw [bump_len]; omega) HAv2.out HZv2.out hmv2
              rw [bump_len] at hcf
              refine hcf.mono ?_
              rintro e w13 ⟨rfl, b13⟩
              have HB13 := Lib.hid (HB12.out.trans (b13.mono HB12.out.size))
              clear hcf b13 HB12 HAm2 HZm2 HAv2 HZv2
              rw [HGD2.out]
              dsimp only
              clear HGD2 HSB
              generalize (fN cc2 (bump l k).length : Int) = z2 at *
              go_wp2_with fail
              go_roundg (l.length - (k + 1))
              case measure => omega
              case rel => exact ⟨k + 1, by omega, by omega, by go_num, HB13.out⟩
        · have hltz : ¬ (k : Int) < (l.length : Int) := by omega
          go_wp2_with fail
          go_ret
          exact ⟨rfl, HBr.out⟩)
end Go.Proofs.Ytlfeoofchebbkaa
