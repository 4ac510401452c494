/- The reference's CheckFillLabels. -/
import Derived.Test.YtlfeoofchebbkaaClb
import Derived.Test.YtlfeoofchebbkaaRlp
namespace Go.Proofs.Ytlfeoofchebbkaa
set_option linter.unusedSimpArgs false
set_option linter.unusedVariables false
open Go.RowKit
theorem rl_ix {r j s L : Nat} (hr : r ≤ L) (hL : L ≤ 300) (h : j * s ≤ r) : (0 : Int) ≤ (r : Int) - (j : Int) * (s : Int) ∧ (r : Int) - (j : Int) * (s : Int) < (L : Int) + 1 ∧ ((r : Int) - (j : Int) * (s : Int)).toNat = r - j * s ∧ IntKind.i64.wrap ((j : Int) * (s : Int)) = (j : Int) * (s : Int) ∧ IntKind.i64.wrap ((r : Int) - (j : Int) * (s : Int)) = (r : Int) - (j : Int) * (s : Int) := by
  rw [← Int.natCast_mul]
  generalize j * s = x at *
  exact ⟨by omega, by omega, by omega, IntWalk.i64_in _ (by omega), IntWalk.i64_in _ (by omega)⟩
theorem rl_far {r j s c L : Nat} (hr : r ≤ L) (hL : L ≤ 300) (hj : j ≤ c) (hc : c ≤ 100) (hs : s ≤ 300) (h : ¬ j * s ≤ r) : ¬ (0 : Int) ≤ (r : Int) - (j : Int) * (s : Int) ∧ IntKind.i64.wrap ((j : Int) * (s : Int)) = (j : Int) * (s : Int) ∧ IntKind.i64.wrap ((r : Int) - (j : Int) * (s : Int)) = (r : Int) - (j : Int) * (s : Int) := by
  have hjs : j * s ≤ 100 * 300 := Nat.mul_le_mul (by omega) hs
  rw [← Int.natCast_mul]
  generalize j * s = x at *
  exact ⟨by omega, IntWalk.i64_in _ (by omega), IntWalk.i64_in _ (by omega)⟩
set_option maxRecDepth 100000 in
set_option maxHeartbeats 8000000 in
theorem refLabels_any (l : List (Int × Int)) (len : Int) (L : Nat) (ls : List (List Int)) (A Al : Option Addr) (b off c bl ol cl : Nat) (w : World) (hok : StRt l len L) (hA : Lies A l.length w.heap.size b off) (hz : FsAt w b off l)
    (hAl : Lies Al ls.length w.heap.size bl ol) (hr : 0 < ls.length → RowsAt w w.heap.size bl ol ls) (hml : ls.length ≤ 1000000) (hmr : ∀ i, i < ls.length → (gl ls i).length ≤ 1000000) :
    Calls Try.prog 55 #[.slice A l.length c, .int .i64 len, .slice Al ls.length cl] w fun e w' => e = .returned (.tuple #[.int .i64 (ckl l L ls).1, .int .i64 (ckl l L ls).2]) ∧ Below w.heap.size w w' := by
  obtain rfl := hok.L0
  have hL := hok.L1
  have h12 := hok.n12
  have HOK := Lib.hid hok
  have HA := Lib.hid hA
  have HZ := Lib.hid hz
  have HAl := Lib.hid hAl
  have HR := Lib.hid hr
  have HMR := Lib.hid hmr
  clear hok hA hz hAl hr hmr
  generalize hcv : ckl l L ls = cv at *
  have HCV := Lib.hid hcv
  clear hcv
  have i1 : IntKind.i64.wrap ((l.length : Int) + 1) = (l.length : Int) + 1 := IntWalk.i64_in _ (by omega)
  go_enter Try.func55, Try.ntmps55
  by_cases hlen : ls.length = l.length + 1
  · have hne : ((ls.length : Int) != (l.length : Int) + 1) = false := bne_f (by omega)
    obtain ⟨rfl, hbl⟩ := HAl.out (by omega)
    have HRW := Lib.hid (HR.out (by omega))
    have HLN := Lib.hid hlen
    generalize hnn : ls.length = m at *
    have HM := Lib.hid hnn
    clear hnn HR hlen
    go_wp2_with fail
    clear hne i1
    go_loopg [8] m (fun gg s8 wr => ∃ k : Nat, k ≤ m ∧ m - k ≤ gg ∧ s8 = .int .i64 k ∧ Hid (∀ i, i < k → (gl ls i).length = L + 1) ∧ w = wr)
    case atStart => exact ⟨0, Nat.zero_le _, by omega, rfl, fun i hi => absurd hi (Nat.not_lt_zero _), rfl⟩
    case round =>
      obtain ⟨k, hk, hgk, rfl, F, rfl⟩ := hrel
      by_cases hlt : k < m
      · have hltz : (k : Int) < (m : Int) := by omega
        have hk0 : (0 : Int) ≤ (k : Int) := by omega
        obtain ⟨Ak, bk, ok, ck, h0, lk, zk⟩ := HRW.out k (by have := HM.out; omega)
        have hmk := HMR.out k hlt
        have HY : Hid (∀ i, i = k → (gl ls i).length = (gl ls k).length) := (show ∀ i, _ from fun i h => by rw [h])
        clear lk zk
        generalize (gl ls k).length = y at *
        by_cases hy : y = L + 1
        · have hyb : ((y : Int) != (L : Int) + 1) = false := bne_f (by omega)
          have HYY := Lib.hid hy
          clear hy
          go_wp2_with fail
          go_roundg (m - (k + 1))
          case measure => omega
          case rel =>
            refine ⟨k + 1, by omega, by omega, by go_num, (show ∀ j, _ from fun j hj => ?_), rfl⟩
            by_cases e : j = k
            · rw [HY.out j e]; exact HYY.out
            · exact F.out j (by omega)
        · have hyb : ((y : Int) != (L : Int) + 1) = true := bne_t (by omega)
          have HYY := Lib.hid hy
          clear hy
          go_wp2_with fail
          go_ret2
          rw [← HCV.out, ckl_shape (fun h => HYY.out (by rw [← HY.out k rfl]; exact h.2 k (by rw [HM.out]; exact hlt)))]
          exact ⟨rfl, Below.refl _ _⟩
      · have hltz : ¬ (k : Int) < (m : Int) := by omega
        have he : k = m := by omega
        subst he
        have HALL := F
        have HSH : Hid (shL l L ls) := ⟨by rw [HM.out]; exact HLN.out, by rw [HM.out]; exact HALL.out⟩
        clear F
        go_wp2_with fail
        clear hltz
        go_loopg [9] k (fun gg s9 wr => ∃ k' : Nat, k' ≤ k ∧ k - k' ≤ gg ∧ s9 = .int .i64 k' ∧ Hid (Below w.heap.size w wr) ∧ Hid (∀ k'', k'' < k' → ∀ r', r' ≤ L → eL l ls k'' r' = 0))
        case atStart => exact ⟨0, Nat.zero_le _, by omega, rfl, Below.refl _ _, fun k' hk' => absurd hk' (Nat.not_lt_zero _)⟩
        case round =>
          as_aux_lemma =>
          obtain ⟨m, rfl⟩ : ∃ m, m = k := ⟨k, rfl⟩
          obtain ⟨k, hk', hgk', rfl, BW, E⟩ := hrel
          by_cases hlt : k < m
          · have hltz : (k : Int) < (m : Int) := by omega
            have hk0 : (0 : Int) ≤ (k : Int) := by omega
            go_wp2_with fail
            go_loopg [10] (L + 1) (fun gg s10 wi => ∃ r : Nat, r ≤ L + 1 ∧ L + 1 - r ≤ gg ∧ s10 = .int .i64 r ∧ Hid (Below w.heap.size w wi) ∧ Hid (∀ r', r' < r → eL l ls k r' = 0))
            case atStart => exact ⟨0, Nat.zero_le _, by omega, rfl, BW.out, fun k' hk' => absurd hk' (Nat.not_lt_zero _)⟩
            case round =>
              as_aux_lemma =>
              obtain ⟨r, hr, hgr, rfl, HBI, ER⟩ := hrel
              by_cases hrl : r < L + 1
              · have hrlz : (r : Int) ≤ (L : Int) := by omega
                have hrlz' : (r : Int) < (L : Int) + 1 := by omega
                have hr0 : (0 : Int) ≤ (r : Int) := by omega
                obtain ⟨Ak, bk, ok, ck, h0, lk, zk⟩ := (HRW.out.below HBI.out (Nat.le_refl _) hbl) k (by have := HM.out; omega)
                rw [HALL.out k hlt] at h0 lk
                obtain ⟨rfl, hbk⟩ := lk (by omega)
                have q := zk r (by rw [HALL.out k hlt]; omega)
                obtain ⟨A0, b0, o0, cc0, h00, l0, z0⟩ := (HRW.out.below HBI.out (Nat.le_refl _) hbl) 0 (by have := HM.out; omega)
                rw [HALL.out 0 (by omega)] at h00 l0
                obtain ⟨rfl, hb0⟩ := l0 (by omega)
                have q0 := z0 0 (by rw [HALL.out 0 (by omega)]; omega)
                rw [Nat.add_zero] at h00 q0
                have HZ0 : Hid (k = 0 → r = 0 → gz (gl ls 0) 0 = gz (gl ls k) r) := (show k = 0 → _ from fun h h' => by rw [h, h'])
                have HKP := Lib.hid zk
                clear lk zk l0 z0
                have HVP : Hid (0 < k → ∀ j, j ≤ L → 0 ≤ gz (gl ls (k - 1)) j ∧ gz (gl ls (k - 1)) j ≤ 1000000) := (show 0 < k → _ from fun h j hj => eL_win (E.out (k - 1) (by omega) j hj))
                have HGZ : Hid (∀ x, x = k → ∀ y, y = r → gz (gl ls x) y = gz (gl ls k) r) := (show ∀ x, _ from fun x h y h' => by rw [h, h'])
                generalize gz (gl ls k) r = z at *
                cases hw : win z 0 1000000 with
                | false =>
                  have HEZ : Hid (eL l ls k r = 2) := eL_out (by rw [HGZ.out k rfl r rfl]; exact hw)
                  go_wp2_with fail
                  refine (within49_any _ _ _ _).mono ?_
                  rintro e w5 ⟨rfl, rfl⟩
                  rw [hw]
                  clear hw HVP HZ0
                  go_wp2_with fail
                  go_ret2
                  rw [← HCV.out, ckl_hit (e := 2) HSH.out (k := k) (r := r) (by have := HLN.out; omega) (by omega) E.out ER.out HEZ.out (by decide)]
                  exact ⟨rfl, HBI.out⟩
                | true =>
                  have HW := Lib.hid hw
                  obtain ⟨zz0, zz1⟩ := win_t.1 hw
                  go_wp2_with fail
                  refine (within49_any _ _ _ _).mono ?_
                  rintro e wj ⟨rfl, hwj⟩
                  subst hwj
                  rw [hw]
                  clear hw
                  by_cases hk00 : k = 0
                  · have hkb : ((k : Int) == 0) = true := by simp [hk00]
                    have hkn : decide (0 < k) = false := decide_eq_false (by omega)
                    by_cases hr00 : r = 0
                    · have hrb : ((r : Int) == 0) = true := by simp [hr00]
                      rw [HZ0.out hk00 hr00] at q0
                      by_cases hz0 : z = 0
                      · have HEZ : Hid (eL l ls k r = 0) := by
                          show _ = _
                          have h1 := HGZ.out k rfl r rfl
                          subst hk00
                          rw [eL_zero (by rw [h1]; exact HW.out), if_neg (by rintro ⟨_, h⟩; exact h (by rw [HZ0.out rfl hr00]; exact hz0))]
                        have hzb : (z != 0) = false := bne_f hz0
                        clear HVP HZ0 hz0 hk00 hr00
                        go_wp2_with fail
                        go_loopg [11] 1 (fun gg s11 wx => s11 = .int .i64 0 ∧ wr = wx)
                        case atStart => exact ⟨rfl, rfl⟩
                        case round =>
                          obtain ⟨rfl, rfl⟩ := hrel
                          go_wp2_with fail
                          go_roundg (L + 1 - (r + 1))
                          case measure => omega
                          case rel =>
                            refine ⟨r + 1, by omega, by omega, by go_num, HBI.out, (show ∀ j, _ from fun j hj => ?_)⟩
                            by_cases e : j = r
                            · rw [e]; exact HEZ.out
                            · exact ER.out j (by omega)
                      · have HEZ : Hid (eL l ls k r = 22) := by
                          show _ = _
                          have h1 := HGZ.out k rfl r rfl
                          subst hk00
                          rw [eL_zero (by rw [h1]; exact HW.out), if_pos ⟨hr00, by rw [HZ0.out rfl hr00]; exact hz0⟩]
                        have hzb : (z != 0) = true := bne_t hz0
                        clear HVP HZ0 hz0 hk00 hr00
                        go_wp2_with fail
                        go_ret2
                        rw [← HCV.out, ckl_hit (e := 22) HSH.out (k := k) (r := r) (by have := HLN.out; omega) (by omega) E.out ER.out HEZ.out (by decide)]
                        exact ⟨rfl, HBI.out⟩
                    · have hrb : ((r : Int) == 0) = false := by simp; omega
                      have HEZ : Hid (eL l ls k r = 0) := by
                        show _ = _
                        have h1 := HGZ.out k rfl r rfl
                        subst hk00
                        rw [eL_zero (by rw [h1]; exact HW.out), if_neg (by rintro ⟨h, _⟩; exact hr00 h)]
                      clear HVP HZ0 hk00 hr00
                      go_wp2_with fail
                      go_loopg [11] 1 (fun gg s11 wx => s11 = .int .i64 0 ∧ wr = wx)
                      case atStart => exact ⟨rfl, rfl⟩
                      case round =>
                        obtain ⟨rfl, rfl⟩ := hrel
                        go_wp2_with fail
                        go_roundg (L + 1 - (r + 1))
                        case measure => omega
                        case rel =>
                          refine ⟨r + 1, by omega, by omega, by go_num, HBI.out, (show ∀ j, _ from fun j hj => ?_)⟩
                          by_cases e : j = r
                          · rw [e]; exact HEZ.out
                          · exact ER.out j (by omega)
                  · have hkb : ((k : Int) == 0) = false := by simp; omega
                    have hkgt : 0 < k := by omega
                    have hkgd : decide (0 < k) = true := decide_eq_true hkgt
                    obtain ⟨t1, t2, t3⟩ := HOK.out.s (k - 1) (by have := HLN.out; omega)
                    obtain ⟨u1, u2⟩ := HOK.out.c (k - 1) (by have := HLN.out; omega)
                    have HS1 := Lib.hid t2
                    have HGS : Hid (∀ i, i = k - 1 → stS l i = stS l (k - 1) ∧ stC l i = stC l (k - 1)) := (show ∀ i, _ from fun i h => by rw [h]; exact ⟨rfl, rfl⟩)
                    obtain ⟨rfl, hbA⟩ := HA.out (by have := HLN.out; omega)
                    have i1 : (0 : Int) ≤ (k : Int) - 1 := by omega
                    have i1' : (1 : Int) ≤ (k : Int) := by omega
                    have i2 : (k : Int) - 1 < (m : Int) := by omega
                    have i2' : (k : Int) - 1 < (l.length : Int) := by have := HLN.out; omega
                    have i3 : ((k : Int) - 1).toNat = k - 1 := by omega
                    have i4 : IntKind.i64.wrap ((k : Int) - 1) = (k : Int) - 1 := IntWalk.i64_in _ (by omega)
                    have T1 := Lib.hid t1
                    have U1 := Lib.hid u1
                    clear t1 u1 hk00 q0 h00 HZ0
                    generalize stS l (k - 1) = sv at *
                    generalize stC l (k - 1) = cv' at *
                    go_wp2_with fail
                    clear h0 q hkb
                    go_loopg [11] (cv' + 1) (fun gg s11 wx => ∃ j : Nat, j ≤ cv' + 1 ∧ cv' + 1 - j ≤ gg ∧ s11 = .int .i64 j ∧ Hid (Below w.heap.size w wx) ∧ Hid (∀ j', j' < j → j' * sv ≤ r → ¬ gz (gl ls (k - 1)) (r - j' * sv) + (j' : Int) < z))
                    case atStart => exact ⟨0, Nat.zero_le _, by omega, rfl, HBI.out, fun k' hk' => absurd hk' (Nat.not_lt_zero _)⟩
                    case round =>
                      as_aux_lemma =>
                      obtain ⟨j, hj, hgj, rfl, HBX, EJ⟩ := hrel
                      obtain ⟨s0, s1⟩ := (HZ.out.below HBX.out (fun _ => hbA)) (k - 1) (by have := HLN.out; omega)
                      rw [T1.out] at s0
                      rw [U1.out] at s1
                      have hfin : Hid ((∀ j', j' ≤ cv' → j' * sv ≤ r → ¬ gz (gl ls (k - 1)) (r - j' * sv) + (j' : Int) < z) → eL l ls k r = 0) := (show (∀ _, _) → _ from fun h => eL_miss hkgt (by rw [HGZ.out k rfl r rfl]; exact HW.out) (by rw [(HGS.out _ rfl).1]; exact HS1.out) (by rw [(HGS.out _ rfl).1, (HGS.out _ rfl).2, HGZ.out k rfl r rfl]; exact h))
                      by_cases hjc : j ≤ cv'
                      · have hjcd : decide (j ≤ cv') = true := decide_eq_true hjc
                        have hjcz : (j : Int) ≤ (cv' : Int) := by omega
                        by_cases hjs : j * sv ≤ r
                        · obtain ⟨x1, x2, x3, x4, x5⟩ := rl_ix (L := L) (by omega) hL hjs
                          have x1d : decide ((0 : Int) ≤ (r : Int) - (j : Int) * (sv : Int)) = true := decide_eq_true x1
                          obtain ⟨Ak', bk', ok', ck', h0, lk, zk⟩ := (HRW.out.below HBX.out (Nat.le_refl _) hbl) k (by have := HM.out; omega)
                          rw [HALL.out k hlt] at h0 lk
                          obtain ⟨rfl, hbk'⟩ := lk (by omega)
                          have q := zk r (by rw [HALL.out k hlt]; omega)
                          rw [HGZ.out k rfl r rfl] at q
                          obtain ⟨Ap, bp, op, cp, hp0, lp, zp⟩ := (HRW.out.below HBX.out (Nat.le_refl _) hbl) (k - 1) (by have := HM.out; omega)
                          have hlp := HALL.out (k - 1) (by omega)
                          rw [hlp] at hp0 lp
                          obtain ⟨rfl, hbp⟩ := lp (by omega)
                          have qp := zp (r - j * sv) (by rw [hlp]; omega)
                          have vp := HVP.out hkgt (r - j * sv) (by omega)
                          clear zk lk lp zp hlp hjs
                          have HGP : Hid (∀ j', j' = j → gz (gl ls (k - 1)) (r - j' * sv) = gz (gl ls (k - 1)) (r - j * sv)) := (show ∀ j', _ from fun j' h => by rw [h])
                          generalize gz (gl ls (k - 1)) (r - j * sv) = zp at *
                          have x6 : IntKind.i64.wrap (zp + (j : Int)) = zp + (j : Int) := IntWalk.i64_in _ (by omega)
                          by_cases hgt : zp + (j : Int) < z
                          · have HEZ : Hid (eL l ls k r = 22) := eL_hit hkgt (by rw [HGZ.out k rfl r rfl]; exact HW.out) (by rw [(HGS.out _ rfl).1]; exact HS1.out) (j := j) (by rw [(HGS.out _ rfl).2]; exact hjc) (by rw [(HGS.out _ rfl).1]; omega) (by rw [(HGS.out _ rfl).1, HGP.out j rfl, HGZ.out k rfl r rfl]; exact hgt)
                            clear hfin
                            go_wp2_with fail
                            go_quiet (fail)
                            go_wp2_with fail
                            go_ret2
                            rw [← HCV.out, ckl_hit (e := 22) HSH.out (k := k) (r := r) (by have := HLN.out; omega) (by omega) E.out ER.out HEZ.out (by decide)]
                            exact ⟨rfl, below_drewN HBX.out _⟩
                          · have HNG := Lib.hid hgt
                            go_wp2_with fail
                            go_quiet (fail)
                            have BXN := Lib.hid (below_drewN HBX.out nq)
                            go_wp2_with fail
                            go_roundg (cv' + 1 - (j + 1))
                            case measure => omega
                            case rel =>
                              refine ⟨j + 1, by omega, by omega, by go_num, BXN.out, (show ∀ j', _ from fun j' hj' => ?_)⟩
                              by_cases e : j' = j
                              · intro _; rw [HGP.out j' e, e]; exact HNG.out
                              · exact EJ.out j' (by omega)
                        · obtain ⟨x1, x2, x3⟩ := rl_far (L := L) (by omega) hL hjc u2 t3 hjs
                          have x1d : decide ((0 : Int) ≤ (r : Int) - (j : Int) * (sv : Int)) = false := decide_eq_false x1
                          have HEZ : Hid (eL l ls k r = 0) := hfin.out (fun j' h1 h2 => by
                            by_cases e : j' < j
                            · exact EJ.out j' e h2
                            · have := Nat.mul_le_mul_right sv (by omega : j ≤ j')
                              omega)
                          clear hfin hjs
                          go_wp2_with fail
                          go_roundg (L + 1 - (r + 1))
                          case measure => omega
                          case rel =>
                            refine ⟨r + 1, by omega, by omega, by go_num, HBX.out, (show ∀ j, _ from fun j hj => ?_)⟩
                            by_cases e : j = r
                            · rw [e]; exact HEZ.out
                            · exact ER.out j (by omega)
                      · have hjcd : decide (j ≤ cv') = false := decide_eq_false hjc
                        have HEZ : Hid (eL l ls k r = 0) := hfin.out (fun j' h1 h2 => EJ.out j' (by omega) h2)
                        clear hfin
                        go_wp2_with fail
                        go_roundg (L + 1 - (r + 1))
                        case measure => omega
                        case rel =>
                          refine ⟨r + 1, by omega, by omega, by go_num, HBX.out, (show ∀ j, _ from fun j hj => ?_)⟩
                          by_cases e : j = r
                          · rw [e]; exact HEZ.out
                          · exact ER.out j (by omega)
              · have hrlz : ¬ (r : Int) ≤ (L : Int) := by omega
                have he : r = L + 1 := by omega
                go_wp2_with fail
                go_roundg (m - (k + 1))
                case measure => omega
                case rel =>
                  refine ⟨k + 1, by omega, by omega, by go_num, HBI.out, (show ∀ j, _ from fun j hj r' hr' => ?_)⟩
                  by_cases e : j = k
                  · rw [e]; exact ER.out r' (by omega)
                  · exact E.out j (by omega) r' hr'
          · have hltz : ¬ (k : Int) < (m : Int) := by omega
            have he : k = m := by omega
            subst he
            obtain ⟨Ak, bk, ok, ck, h0, lk, zk⟩ := (HRW.out.below BW.out (Nat.le_refl _) hbl) (k - 1) (by have := HM.out; have := HLN.out; omega)
            have hkl := HLN.out
            rw [HALL.out (k - 1) (by omega)] at h0 lk
            obtain ⟨rfl, hbk⟩ := lk (by omega)
            have q := zk L (by rw [HALL.out (k - 1) (by omega)]; omega)
            have HFI : Hid (cv = (gz (gl ls (k - 1)) L, 0)) := by
              show _ = _
              rw [← HCV.out, ckl_ok HSH.out (fun k' hk' r' hr' => E.out k' (by omega) r' hr')]
              rw [show k - 1 = l.length by omega]
            have j0 : (0 : Int) ≤ (k : Int) - 1 := by omega
            have j0' : (1 : Int) ≤ (k : Int) := by omega
            have j1 : (k : Int) - 1 < (k : Int) := by omega
            have j2 : (0 : Int) ≤ (L : Int) := by omega
            have j3 : (L : Int) < (L : Int) + 1 := by omega
            have j4 : ((k : Int) - 1).toNat = k - 1 := by omega
            have j5 : IntKind.i64.wrap ((k : Int) - 1) = (k : Int) - 1 := IntWalk.i64_in _ (by omega)
            clear E HCV hkl
            generalize gz (gl ls (k - 1)) L = zv at *
            go_wp2_with fail
            go_ret2
            rw [HFI.out]
            exact ⟨rfl, BW.out⟩
  · have hne : ((ls.length : Int) != (l.length : Int) + 1) = true := bne_t (by omega)
    go_wp2_with fail
    go_ret2
    rw [← HCV.out, ckl_shape (fun h => hlen h.1)]
    exact ⟨rfl, Below.refl _ _⟩
end Go.Proofs.Ytlfeoofchebbkaa
