/- thin, and the reference's search for the fewest pieces. -/
import Derived.Test.YtlfeoofchebbkaaFlq
import Derived.Test.YtlfeoofchebbkaaFeq
import Derived.Test.YtlfeoofchebbkaaClb
import Derived.Test.YtlfeoofchebbkaaRlb
import Derived.Test.YtlfeoofchebbkaaFil
namespace Go.Proofs.Ytlfeoofchebbkaa
set_option linter.unusedSimpArgs false
set_option linter.unusedVariables false
open Go.RowKit
def thinB (l : List (Int × Int)) (len : Int) : Bool := decide ((∀ i, i < l.length → (gf l i).2 ≤ 12) ∧ len ≤ 60)
set_option maxRecDepth 100000 in
set_option maxHeartbeats 2000000 in
theorem thin_any (l : List (Int × Int)) (len : Int) (A : Option Addr) (b off c : Nat) (w : World) (hA : Lies A l.length w.heap.size b off) (hz : FsAt w b off l) (hm : l.length ≤ 9223372036854775807) :
    Calls Try.prog 57 #[.slice A l.length c, .int .i64 len] w fun e w' => e = .returned (.bool (thinB l len)) ∧ w = w' := by
  have HL : Hid (thinB l len = decide ((∀ i, i < l.length → (gf l i).2 ≤ 12) ∧ len ≤ 60)) := rfl
  generalize thinB l len = lb at *
  have HZ : Hid (∀ k, k < l.length → w.cell? ⟨b, off + k * 2 + 1, none⟩ = some (.int .i64 (gf l k).2)) := (show ∀ k, _ from fun k hk => (hz k hk).2)
  clear hz
  generalize hn : l.length = n at *
  have HN := Lib.hid hn
  clear hn
  go_enter Try.func57, Try.ntmps57
  go_wp2_with fail
  go_loopg [5] n (fun gg s3 wr => ∃ k : Nat, k ≤ n ∧ n - k ≤ gg ∧ s3 = .int .i64 k ∧ w = wr ∧ Hid (∀ j, j < k → (gf l j).2 ≤ 12))
  case atStart => exact ⟨0, Nat.zero_le _, by omega, rfl, rfl, fun j hj => absurd hj (Nat.not_lt_zero _)⟩
  case round =>
    obtain ⟨k, hk, hg, rfl, rfl, E⟩ := hrel
    by_cases hlt : k < n
    · have hltz : (k : Int) < (n : Int) := by omega
      have hk0 : (0 : Int) ≤ (k : Int) := by omega
      obtain ⟨rfl, hb⟩ := hA (by omega)
      have c0 := HZ.out k hlt
      clear hA
      have HY : Hid (∀ j, j = k → (gf l j).2 = (gf l k).2) := (show ∀ j, _ from fun j e => by rw [e])
      generalize (gf l k).2 = y at *
      by_cases h20 : y ≤ 12
      · have h20z : ¬ (12 : Int) < y := by omega
        go_wp2_with fail
        go_roundg (n - (k + 1))
        case measure => omega
        case rel =>
          refine ⟨k + 1, by omega, by omega, by go_num, rfl, (show ∀ j, _ from fun j hj => ?_)⟩
          by_cases e : j = k
          · rw [HY.out j e]; exact h20
          · exact E.out j (by omega)
      · have h20z : (12 : Int) < y := by omega
        go_wp2_with fail
        go_ret
        refine ⟨ret_bool ?_, rfl⟩
        rw [HL.out]
        symm
        rw [decide_eq_false_iff_not]
        rintro ⟨h, _⟩
        have := h k hlt
        rw [HY.out k rfl] at this
        omega
    · have hltz : ¬ (k : Int) < (n : Int) := by omega
      have he : k = n := by omega
      subst he
      have HQ : Hid (lb = decide (len ≤ 60)) := by
        show _ = _
        rw [HL.out]
        exact decide_eq_decide.2 ⟨fun h => h.2, fun h => ⟨E.out, h⟩⟩
      clear HL E
      go_wp2_with fail
      go_ret
      exact ⟨ret_bool HQ.out.symm, rfl⟩
theorem fw_in {j S r : Nat} (h2 : j * S ≤ r) (hr : r ≤ 300) : (j : Int) * (S : Int) ≤ (r : Int) ∧ wrap64 ((j : Int) * (S : Int)) = (j : Int) * (S : Int) ∧ wrap64 ((r : Int) - (j : Int) * (S : Int)) = (r : Int) - (j : Int) * (S : Int) ∧ (r : Int) - (j : Int) * (S : Int) = ((r - j * S : Nat) : Int) := by
  rw [← Int.natCast_mul]
  generalize j * S = x at *
  exact ⟨by omega, IntWalk.wrap64_in _ (by omega), IntWalk.wrap64_in _ (by omega), by omega⟩
theorem fw_out {j S r : Nat} (h2 : ¬ j * S ≤ r) (hjs : j * S ≤ 30000) : ¬ (j : Int) * (S : Int) ≤ (r : Int) ∧ wrap64 ((j : Int) * (S : Int)) = (j : Int) * (S : Int) := by
  rw [← Int.natCast_mul]
  generalize j * S = x at *
  exact ⟨by omega, IntWalk.wrap64_in _ (by omega)⟩
set_option maxRecDepth 100000 in
set_option maxHeartbeats 4000000 in
theorem fewest_any {l : List (Int × Int)} {len : Int} {L : Nat} (hok : StRt l len L) (A : Option Addr) (b off c : Nat) (w : World) (hA : Lies A l.length w.heap.size b off) (hz : FsAt w b off l) :
    ∀ (d k r : Nat), k + d = l.length → r ≤ 300 → Calls Try.prog 58 #[.slice A l.length c, .int .i64 (r : Int), .int .i64 (k : Int)] w fun e w' => e = .returned (.int .i64 (fwd l d k r)) ∧ w = w' := by
  have hn12 := hok.n12
  intro d
  induction d with
  | zero =>
    intro k r hk hr
    have hkb : ((k : Int) == (l.length : Int)) = true := by simp; omega
    by_cases h0 : r = 0
    · subst h0
      go_enter Try.func58, Try.ntmps58
      go_wp2_with fail
      go_ret
      exact ⟨rfl, rfl⟩
    · have hr0 : ((r : Int) == 0) = false := by simp; omega
      have HF : Hid (fwd l 0 k r = 1000000) := if_neg h0
      generalize fwd l 0 k r = v at *
      go_enter Try.func58, Try.ntmps58
      go_wp2_with fail
      go_ret
      exact ⟨ret_int HF.out.symm, rfl⟩
  | succ d ih =>
    intro k r hk hr
    have hkl : k < l.length := by omega
    have hkb : ((k : Int) == (l.length : Int)) = false := by simp; omega
    have hkz : (k : Int) < (l.length : Int) := by omega
    have hk0 : (0 : Int) ≤ (k : Int) := by omega
    obtain ⟨q1, q2, q3⟩ := hok.s k hkl
    obtain ⟨q4, q5⟩ := hok.c k hkl
    obtain ⟨f0, f1⟩ := hz k hkl
    obtain ⟨rfl, hb⟩ := hA (by omega)
    rw [q1] at f0
    rw [q4] at f1
    have hih : ∀ r' : Nat, r' ≤ 300 → Calls Try.prog 58 #[.slice (some ⟨b, off, none⟩) l.length c, .int .i64 (r' : Int), .int .i64 ((k : Int) + 1)] w fun e w' => e = .returned (.int .i64 (fwd l d (k + 1) r')) ∧ w = w' := fun r' hr' => ih (k + 1) r' (by omega) hr'
    have HIH := Lib.hid hih
    clear hih
    have HM : Hid (∀ q : Nat, q ≤ stM l k r ↔ (q ≤ stC l k ∧ q * stS l k ≤ r)) := (show ∀ q : Nat, _ from fun q => stM_iff q2 q)
    obtain ⟨f, hf⟩ : ∃ f : Nat → Int, ∀ j : Nat, (j : Int) + fwd l d (k + 1) (r - j * stS l k) = f j := ⟨_, fun _ => rfl⟩
    have HFD : Hid (fwd l (d + 1) k r = leastF f (stM l k r + 1)) := by
      show leastF _ _ = _
      congr 1
      funext j
      exact hf j
    have HF := Lib.hid hf
    have HW : Hid (∀ q : Nat, 0 ≤ fwd l d (k + 1) q ∧ fwd l d (k + 1) q ≤ 1000000) := (show ∀ q : Nat, _ from fun q => fwd_win d (k + 1) q)
    clear hf ih q1 q4 hz hA hok
    generalize fwd l (d + 1) k r = res at *
    generalize stM l k r = M at *
    generalize stS l k = S at *
    generalize stC l k = C at *
    generalize l.length = n at *
    go_enter Try.func58, Try.ntmps58
    go_wp2_with fail
    go_loopg [7, 8] (M + 1) (fun gg s7 s8 wr => ∃ j : Nat, j ≤ M + 1 ∧ M + 1 - j ≤ gg ∧ s7 = .int .i64 (leastF f j) ∧ s8 = .int .i64 j ∧ w = wr)
    case atStart => exact ⟨0, by omega, by omega, rfl, rfl, rfl⟩
    case round =>
      obtain ⟨j, hj, hgj, rfl, rfl, rfl⟩ := hrel
      by_cases hjM : j ≤ M
      · obtain ⟨h1, h2⟩ := (HM.out j).1 hjM
        have h1z : (j : Int) ≤ (C : Int) := by omega
        obtain ⟨h2z, e1, e2, e3⟩ := fw_in h2 hr
        have hc := HIH.out (r - j * S) (Nat.le_trans (Nat.sub_le _ _) hr)
        rw [← e3] at hc
        have hfj := HF.out j
        have hw := HW.out (r - j * S)
        have HC := Lib.hid hc
        have hl0 := (leastF_le (f := f) j).1
        have HLS : Hid (leastF f (j + 1) = min (leastF f j) (f j)) := rfl
        clear hc e3 h2
        generalize fwd l d (k + 1) (r - j * S) = v at *
        have hl1 : 0 ≤ leastF f j := leastF_nonneg _ (fun i _ => by have := HF.out i; have := (HW.out (r - i * S)).1; omega)
        generalize leastF f j = lj at *
        go_wp2_with fail
        refine HC.out.mono ?_
        rintro e w' ⟨rfl, rfl⟩
        go_wp2_with fail
        all_goals (
          go_roundg (M + 1 - (j + 1))
          case measure => omega
          case rel => exact ⟨j + 1, by omega, by omega, by first | (rw [HLS.out]; done) | (rw [HLS.out]; congr 1; omega), by go_num, rfl⟩)
      · have hje : j = M + 1 := by omega
        have hres : leastF f j = res := by rw [hje]; exact HFD.out.symm
        by_cases hjc : j ≤ C
        · have h2 : ¬ j * S ≤ r := fun h => hjM ((HM.out j).2 ⟨hjc, h⟩)
          have hjs : j * S ≤ 100 * 300 := Nat.mul_le_mul (by omega) q3
          have h1z : (j : Int) ≤ (C : Int) := by omega
          obtain ⟨h2z, e1⟩ := fw_out h2 hjs
          have HR := Lib.hid hres
          clear hje hres h2 hjs HM HW HF HIH HFD hjM
          generalize leastF f j = lj at *
          go_wp2_with fail
          go_ret
          exact ⟨ret_int HR.out, rfl⟩
        · have h1z : ¬ (j : Int) ≤ (C : Int) := by omega
          have HR := Lib.hid hres
          clear hje hres HM HW HF HIH HFD hjM
          generalize leastF f j = lj at *
          go_wp2_with fail
          go_ret
          exact ⟨ret_int HR.out, rfl⟩
end Go.Proofs.Ytlfeoofchebbkaa
/- FormeFills: the walk. -/
namespace Go.Proofs.Ytlfeoofchebbkaa
set_option linter.unusedSimpArgs false
set_option linter.unusedVariables false
open Go.RowKit
theorem labs_narrow {l : List (Int × Int)} {len : Int} (hs : checkSt l len = 0) : narB (labs l len.toNat) = true := by
  have hok := st_ok hs
  have h1 := hok.n12
  have h2 := hok.L1
  unfold narB
  rw [decide_eq_true_eq]
  refine ⟨fun i hi => ?_, by rw [labs_len]; omega⟩
  rw [gl_labs (by rw [labs_len] at hi; omega), labF_len]
  omega
set_option maxRecDepth 100000 in
set_option maxHeartbeats 4000000 in
theorem fills_any (l : List (Int × Int)) (len : Int) (A : Option Addr) (b off c : Nat) (w : World) (hA : Lies A l.length w.heap.size b off) (hz : FsAt w b off l) (hml : l.length ≤ 9223372036854775807) :
    Calls Try.prog 12 #[.slice A l.length c, .int .i64 len] w fun e w' => e = .returned (.bool true) ∧ Below w.heap.size w w' := by
  have HA := Lib.hid hA
  have HZ := Lib.hid hz
  clear hA hz
  go_enter Try.func12, Try.ntmps12
  go_wp2_with fail
  refine (awake_any _).mono ?_
  rintro e w1 ⟨rfl, b1⟩
  have HB1 := Lib.hid b1
  clear b1
  go_wp2_with fail
  refine (brief_any _ _ _ _).mono ?_
  rintro e w' ⟨rfl, rfl⟩
  cases hq : briefB l.length with
  | false =>
    go_wp2_with fail
    go_ret
    exact ⟨rfl, HB1.out⟩
  | true =>
    have hfew : l.length ≤ 14 := by unfold briefB at hq; have := of_decide_eq_true hq; omega
    clear hq
    go_wp2_with fail
    refine (stocked_any l A b off c _ (HA.out.mono HB1.out.size) (HZ.out.mono' HA.out HB1.out) (by omega)).mono ?_
    rintro e w2 ⟨A', b', c', rfl, hA', hz', b2⟩
    have HB2 := Lib.hid (HB1.out.trans (b2.mono HB1.out.size))
    have HA' := Lib.hid hA'
    have HZ' := Lib.hid hz'
    clear hA' hz' b2 HB1
    by_cases hs : checkSt l len = 0
    case neg =>
      have hbad := fillLen_bad l len A' b' 0 c' _ HA'.out HZ'.out (by omega) hs
      have hne : (checkSt l len != 0) = true := bne_t hs
      have hrs := fun W h1 h2 => refStock_any l len A b off c W h1 h2 (by omega)
      generalize checkSt l len = s at *
      go_wp2_with fail
      refine hbad.mono ?_
      rintro e w3 ⟨rfl, b3⟩
      have HB3 := Lib.hid (HB2.out.trans (b3.mono HB2.out.size))
      clear b3 HB2 HA' HZ' hbad
      have HRS := Lib.hid (hrs _ (HA.out.mono HB3.out.size) (HZ.out.mono' HA.out HB3.out))
      clear hrs
      go_wp2_with fail
      refine HRS.out.mono ?_
      rintro e w4 ⟨rfl, b4⟩
      have HB4 := Lib.hid (HB3.out.trans (b4.mono HB3.out.size))
      clear b4 HB3 HRS
      go_wp2_with fail
      go_ret
      exact ⟨ret_bool (by simp), HB4.out⟩
    have HS := Lib.hid hs
    have hfl := fillLen_ok l len A' b' 0 c' _ HA'.out HZ'.out hs
    have HRS := Lib.hid (fun W h1 h2 => by have := refStock_any l len A b off c W h1 h2 (by omega); rw [hs] at this; exact this)
    have HOK := Lib.hid (st_ok hs)
    have HOK2 := Lib.hid (checkSt_zero hs)
    clear hs
    go_wp2_with fail
    refine hfl.mono ?_
    rintro e w3 ⟨vl, hvl, b3, hcase⟩
    have hsplit : ∃ vc e0, e = .returned (.tuple #[vc, vl, .int .i64 e0]) ∧ ((e0 = 12 ∧ vc = .slice none 0 0 ∧ gz (labF l len.toNat l.length) len.toNat = 1000000) ∨ (e0 = 0 ∧ ∃ cs : List Int, IntsV w3 cs vc ∧ checkFl l len cs = (gz (labF l len.toNat l.length) len.toNat, 0) ∧ cs.length ≤ 1000000)) := by
      rcases hcase with ⟨hlab, rfl⟩ | ⟨hlab, bs, vb, hbl, hvb, rfl, cc, hcc, hfs, hfn⟩
      · exact ⟨_, _, rfl, .inl ⟨rfl, rfl, hlab⟩⟩
      · exact ⟨_, _, rfl, .inr ⟨rfl, bs, hvb, by rw [checkFl_good HS.out hbl hcc hfs, hfn], by omega⟩⟩
    obtain ⟨vc, e0, rfl, hc⟩ := hsplit
    have HC := Lib.hid hc
    have HB3 := Lib.hid (HB2.out.trans (b3.mono HB2.out.size))
    have HVL := Lib.hid hvl
    clear hvl hcase hc b3 hfl HA' HZ' HB2
    go_wp2_with fail
    refine (HRS.out _ (HA.out.mono HB3.out.size) (HZ.out.mono' HA.out HB3.out)).mono ?_
    rintro e w4 ⟨rfl, b4⟩
    have HB4 := Lib.hid (HB3.out.trans (b4.mono HB3.out.size))
    have HVL4 := Lib.hid (HVL.out.below b4)
    have HC4 : Hid (((e0 = 12 ∧ vc = .slice none 0 0 ∧ gz (labF l len.toNat l.length) len.toNat = 1000000) ∨ (e0 = 0 ∧ ∃ cs : List Int, IntsV w4 cs vc ∧ checkFl l len cs = (gz (labF l len.toNat l.length) len.toNat, 0) ∧ cs.length ≤ 1000000))) := by
      rcases HC.out with h | ⟨h1, cs, h2, h3⟩
      · exact .inl h
      · exact .inr ⟨h1, cs, h2.below b4, h3⟩
    clear b4 HB3 HRS HVL HC
    obtain ⟨Al, bl, cl, rfl, hl1, hl2, hl3⟩ := HVL4.out
    have HL1 := Lib.hid hl1
    have HL2 := Lib.hid hl2
    have hll : (labs l len.toNat).length ≤ 15 := by rw [labs_len]; omega
    have HNR := Lib.hid (labs_narrow HS.out)
    have HNR2 := Lib.hid (narB_t (labs_narrow HS.out))
    have HCK := Lib.hid (ckl_labs (l := l) (L := len.toNat))
    have HCC : Hid (ckC l len (labs l len.toNat) = (gz (labF l len.toNat l.length) len.toNat, 0)) := by
      show ckC l len _ = _
      unfold ckC
      rw [if_neg (by rw [HS.out]; decide), HCK.out]
    have HFW : Hid (gz (labF l len.toNat l.length) len.toNat = fwd l l.length 0 len.toNat) := lab_fwd fun i hi => (HOK.out.s i hi).2.1
    have HL0 : Hid (len = (len.toNat : Int)) := HOK.out.L0
    have HL3 : Hid (len.toNat ≤ 300) := HOK.out.L1
    clear HVL4 hl1 hl2 hl3
    go_wp2_with fail
    refine (narrow_any (labs l len.toNat) Al bl 0 cl _ HL1.out HL2.out (by omega)).mono ?_
    rintro e w' ⟨rfl, rfl⟩
    rw [HNR.out]
    go_wp2_with fail
    refine (refLabels_any l len len.toNat (labs l len.toNat) A Al b off c bl 0 cl _ HOK.out (HA.out.mono HB4.out.size) (HZ.out.mono' HA.out HB4.out) HL1.out HL2.out (by omega) (fun i hi => Nat.le_trans (HNR2.out.1 i hi) (by omega))).mono ?_
    rintro e w5 ⟨rfl, b5⟩
    have HB5 := Lib.hid (HB4.out.trans (b5.mono HB4.out.size))
    have HL15 := Lib.hid (HL1.out.mono b5.size)
    have HL25 : Hid (0 < (labs l len.toNat).length → RowsAt w5 w5.heap.size bl 0 (labs l len.toNat)) := (show _ → _ from fun h => ((HL2.out h).below b5 (Nat.le_refl _) (HL1.out h).2).mono b5.size)
    have HC5 : Hid (((e0 = 12 ∧ vc = .slice none 0 0 ∧ gz (labF l len.toNat l.length) len.toNat = 1000000) ∨ (e0 = 0 ∧ ∃ cs : List Int, IntsV w5 cs vc ∧ checkFl l len cs = (gz (labF l len.toNat l.length) len.toNat, 0) ∧ cs.length ≤ 1000000))) := by
      rcases HC4.out with h | ⟨h1, cs, h2, h3⟩
      · exact .inl h
      · exact .inr ⟨h1, cs, h2.below b5, h3⟩
    rw [HCK.out]
    dsimp only
    clear b5 HB4 HL1 HL2 HC4 HNR
    go_wp2_with fail
    refine (stocked_any l A b off c _ (HA.out.mono HB5.out.size) (HZ.out.mono' HA.out HB5.out) (by omega)).mono ?_
    rintro e w6 ⟨A6, b6, c6, rfl, hA6, hz6, b6'⟩
    have HB6 := Lib.hid (HB5.out.trans (b6'.mono HB5.out.size))
    have HA6 := Lib.hid hA6
    have HZ6 := Lib.hid hz6
    have HL16 := Lib.hid (HL15.out.mono b6'.size)
    have HL26 : Hid (0 < (labs l len.toNat).length → RowsAt w6 w6.heap.size bl 0 (labs l len.toNat)) := (show _ → _ from fun h => ((HL25.out h).below b6' (Nat.le_refl _) (HL15.out h).2).mono b6'.size)
    have HC6 : Hid (((e0 = 12 ∧ vc = .slice none 0 0 ∧ gz (labF l len.toNat l.length) len.toNat = 1000000) ∨ (e0 = 0 ∧ ∃ cs : List Int, IntsV w6 cs vc ∧ checkFl l len cs = (gz (labF l len.toNat l.length) len.toNat, 0) ∧ cs.length ≤ 1000000))) := by
      rcases HC5.out with h | ⟨h1, cs, h2, h3⟩
      · exact .inl h
      · exact .inr ⟨h1, cs, h2.below b6', h3⟩
    clear hA6 hz6 b6' HB5 HL15 HL25 HC5
    go_wp2_with fail
    refine (copyLists_any (labs l len.toNat) Al bl 0 cl _ HL16.out HL26.out (by omega) (fun i hi => Nat.le_trans (HNR2.out.1 i hi) (by omega))).mono ?_
    rintro e w7 ⟨v, rfl, ⟨A'', b'', c'', rfl, hA'', hr'', -⟩, b7⟩
    have HB7 := Lib.hid (HB6.out.trans (b7.mono HB6.out.size))
    have HA7 := Lib.hid (HA6.out.mono b7.size)
    have HZ7 := Lib.hid (HZ6.out.mono' HA6.out b7)
    have HA'' := Lib.hid hA''
    have HR'' := Lib.hid hr''
    have HC7 : Hid (((e0 = 12 ∧ vc = .slice none 0 0 ∧ gz (labF l len.toNat l.length) len.toNat = 1000000) ∨ (e0 = 0 ∧ ∃ cs : List Int, IntsV w7 cs vc ∧ checkFl l len cs = (gz (labF l len.toNat l.length) len.toNat, 0) ∧ cs.length ≤ 1000000))) := by
      rcases HC6.out with h | ⟨h1, cs, h2, h3⟩
      · exact .inl h
      · exact .inr ⟨h1, cs, h2.below b7, h3⟩
    clear hA'' hr'' b7 HB6 HA6 HZ6 HL16 HL26 HC6
    go_wp2_with fail
    refine (checkFillLabels_any l len (labs l len.toNat) _ _ _ _ _ _ _ _ _ HA7.out HZ7.out (by omega) HA''.out HR''.out (by omega)).mono ?_
    rintro e w8 ⟨rfl, b8⟩
    have HB8 := Lib.hid (HB7.out.trans (b8.mono HB7.out.size))
    have HC8 : Hid (((e0 = 12 ∧ vc = .slice none 0 0 ∧ gz (labF l len.toNat l.length) len.toNat = 1000000) ∨ (e0 = 0 ∧ ∃ cs : List Int, IntsV w8 cs vc ∧ checkFl l len cs = (gz (labF l len.toNat l.length) len.toNat, 0) ∧ cs.length ≤ 1000000))) := by
      rcases HC7.out with h | ⟨h1, cs, h2, h3⟩
      · exact .inl h
      · exact .inr ⟨h1, cs, h2.below b8, h3⟩
    rw [HCC.out]
    dsimp only
    clear b8 HB7 HA7 HZ7 HA'' HR'' HC7 HCC HCK HNR2
    have hfw := fewest_any HOK.out A b off c w8 (HA.out.mono HB8.out.size) (HZ.out.mono' HA.out HB8.out) l.length 0 len.toNat (by omega) HL3.out
    rw [← HL0.out, ← HFW.out] at hfw
    have HFEW := Lib.hid hfw
    clear hfw HFW
    generalize gz (labF l len.toNat l.length) len.toNat = lab at *
    go_wp2_with fail
    refine (thin_any l len A b off c _ (HA.out.mono HB8.out.size) (HZ.out.mono' HA.out HB8.out) (by omega)).mono ?_
    rintro e w' ⟨rfl, rfl⟩
    generalize thinB l len = tb
    cases tb
    case' true =>
      go_wp2_with fail
      refine HFEW.out.mono ?_
      rintro e w' ⟨rfl, rfl⟩
    all_goals (
      rcases HC8.out with ⟨rfl, rfl, hlab⟩ | ⟨rfl, cs, ⟨A9, b9, c9, rfl, hA9, hz9, -, hm9⟩, hcf, hcl⟩
      · go_wp2_with fail
        go_ret
        exact ⟨ret_bool (by simp [hlab]), HB8.out⟩
      · have HCF := Lib.hid hcf
        have HA9 := Lib.hid hA9
        have HZ9 := Lib.hid hz9
        clear hcf hA9 hz9 HC8
        go_wp2_with fail
        have hrf := refFilling_any l len cs A A9 b off c b9 0 c9 w8 (HA.out.mono HB8.out.size) (HZ.out.mono' HA.out HB8.out) HA9.out HZ9.out hm9 HOK2.out
        rw [← checkFl_ref cs HS.out, HCF.out] at hrf
        refine hrf.mono ?_
        rintro e wa ⟨rfl, ba⟩
        dsimp only
        have HBa := Lib.hid (HB8.out.trans (ba.mono HB8.out.size))
        have HA9a := Lib.hid (HA9.out.mono ba.size)
        have HZ9a := Lib.hid (HZ9.out.mono' HA9.out ba)
        clear hrf ba HB8 HA9 HZ9 HFEW
        go_wp2_with fail
        refine (stocked_any l A b off c _ (HA.out.mono HBa.out.size) (HZ.out.mono' HA.out HBa.out) (by omega)).mono ?_
        rintro e wb ⟨A6, b6, c6, rfl, hA6, hz6, b6'⟩
        have HBb := Lib.hid (HBa.out.trans (b6'.mono HBa.out.size))
        have HA6 := Lib.hid hA6
        have HZ6 := Lib.hid hz6
        have HA9b := Lib.hid (HA9a.out.mono b6'.size)
        have HZ9b := Lib.hid (HZ9a.out.mono' HA9a.out b6')
        clear hA6 hz6 b6' HBa HA9a HZ9a
        go_wp2_with fail
        refine (copyInts_any cs A9 b9 0 c9 _ HA9b.out HZ9b.out hcl).mono ?_
        rintro e wc ⟨A7, b7, c7, rfl, hA7, hz7, b7'⟩
        have HBc := Lib.hid (HBb.out.trans (b7'.mono HBb.out.size))
        have HA6c := Lib.hid (HA6.out.mono b7'.size)
        have HZ6c := Lib.hid (HZ6.out.mono' HA6.out b7')
        have HA7 := Lib.hid hA7
        have HZ7 := Lib.hid hz7
        clear hA7 hz7 b7' HBb HA6 HZ6 HA9b HZ9b
        go_wp2_with fail
        refine (checkFilling_any l len cs _ _ _ _ _ _ _ _ _ HA6c.out HZ6c.out (by omega) HA7.out HZ7.out (by omega)).mono ?_
        rintro e wd ⟨rfl, bd⟩
        have HBd := Lib.hid (HBc.out.trans (bd.mono HBc.out.size))
        rw [HCF.out]
        dsimp only
        clear bd HBc HA6c HZ6c HA7 HZ7 HCF
        go_wp2_with fail
        go_ret
        exact ⟨ret_bool (by simp), HBd.out⟩)
end Go.Proofs.Ytlfeoofchebbkaa
