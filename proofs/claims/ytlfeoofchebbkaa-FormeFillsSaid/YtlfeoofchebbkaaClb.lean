/- CheckFillLabels returns the bound of right labels, or the errors. -/
import Derived.Test.YtlfeoofchebbkaaLbp
import Derived.Lib.QuietBelow
import Derived.Deep.DeepCutAuto
import Derived.Outline
namespace Go.Proofs.Ytlfeoofchebbkaa
set_option linter.unusedSimpArgs false
set_option linter.unusedVariables false
open Go.RowKit Go.Sort
set_option maxHeartbeats 400000 in
theorem indexR_any (lb : Array Value) (b off n c : Nat) (ls : List (List Int)) (pr : Nat → Bool) (w : World)
    (hp : ∀ (W : World) (j : Nat), Below w.heap.size w W → j < n → ∀ (A' : Option Addr) (c' : Nat), Calls Try.prog 114 (#[.slice A' (gl ls j).length c'] ++ lb) W fun e w' => e = .returned (.bool (pr j)) ∧ Below w.heap.size w w')
    (hn : n ≤ ls.length) (hbig : n ≤ 1000000) (hb : b < w.heap.size)
    (eg : ∀ args w, (callFunc 114 args).run Try.prog w = .ok (.enter 114 args) w)
    (hc : RowsAt w w.heap.size b off ls) :
    Calls Try.prog 138 #[.slice (some ⟨b, off, none⟩) n c, .func (.func 114) #[] lb] w fun e w' => e = .returned (.int .i64 (idx pr n)) ∧ Below w.heap.size w w' := by
  go_enter Try.func138, Try.ntmps138
  go_wp2
  go_loopg [5, 8] n (fun gg _ s8 wr => ∃ kk : Nat, kk ≤ n ∧ n - kk ≤ gg ∧ s8 = .int .i64 kk ∧ Aside (Below w.heap.size w wr) ∧ Aside (∀ j, j < kk → pr j = false))
  case atStart => exact ⟨0, Nat.zero_le _, by omega, rfl, Below.refl _ w, fun j hj => absurd hj (Nat.not_lt_zero _)⟩
  case round =>
    obtain ⟨kk, hkk, hg, rfl, BW, A⟩ := hrel
    by_cases hlt : kk < n
    · have hltz : (kk : Int) < (n : Int) := by omega
      obtain ⟨A', bi, oi, ci, c0, -, -⟩ := (hc.below BW.out (Nat.le_refl _) hb) kk (by omega)
      have hcall := hp wr kk BW.out hlt A' ci
      clear hc hp
      generalize (gl ls kk).length = y at *
      cases hq : pr kk with
      | true =>
        rw [hq] at hcall
        have HQ := Lib.hid hq
        clear hq
        go_wp2_with ((with_reducible refine hcall.mono ?_); rintro e w' ⟨rfl, hb'⟩)
        go_ret
        refine ⟨?_, hb'⟩
        rw [idx_hit (pr := pr) HQ.out A.out hlt]
        rfl
      | false =>
        rw [hq] at hcall
        have HQ := Lib.hid hq
        clear hq
        go_wp2_with ((with_reducible refine hcall.mono ?_); rintro e w' ⟨rfl, hb'⟩)
        go_roundg (n - (kk + 1))
        case measure => omega
        case rel =>
          refine ⟨kk + 1, by omega, by omega, by go_num, hb', (show Aside _ from fun j hj => ?_)⟩
          by_cases e : j = kk
          · subst e
            exact HQ.out
          · exact A.out j (by omega)
    · have hltz : ¬ (kk : Int) < (n : Int) := by omega
      have : kk = n := by omega
      subst this
      go_wp2
      go_ret
      refine ⟨?_, BW.out⟩
      rw [idx_none (pr := pr) A.out]
      rfl
theorem containsR_any (lb : Array Value) (b off n c : Nat) (ls : List (List Int)) (pr : Nat → Bool) (w : World)
    (hp : ∀ (W : World) (j : Nat), Below w.heap.size w W → j < n → ∀ (A' : Option Addr) (c' : Nat), Calls Try.prog 114 (#[.slice A' (gl ls j).length c'] ++ lb) W fun e w' => e = .returned (.bool (pr j)) ∧ Below w.heap.size w w')
    (hn : n ≤ ls.length) (hbig : n ≤ 1000000) (hb : b < w.heap.size)
    (eg : ∀ args w, (callFunc 114 args).run Try.prog w = .ok (.enter 114 args) w)
    (hc : RowsAt w w.heap.size b off ls) :
    Calls Try.prog 113 #[.slice (some ⟨b, off, none⟩) n c, .func (.func 114) #[] lb] w fun e w' => e = .returned (.bool (decide (0 ≤ idx pr n))) ∧ Below w.heap.size w w' := by
  go_enter Try.func113, Try.ntmps113
  go_wp2_with (go_at_call 138; refine (indexR_any lb b off n c ls pr w hp hn hbig hb eg hc).mono ?_; rintro e w' ⟨rfl, hb'⟩)
  go_ret
  exact ⟨rfl, hb'⟩
theorem enters114 : ∀ (args : Array Value) (w : World), (callFunc 114 args).run Try.prog w = .ok (.enter 114 args) w := enters_of' Try.func114 (by kernel_rfl) rfl
theorem otherLen_any (n L c bx : Nat) (A : Option Addr) (w : World) (hL : L ≤ 300) (hc : w.cell? ⟨bx, 0, none⟩ = some (.int .i64 (L : Int))) :
    Calls Try.prog 114 (#[.slice A n c] ++ #[.pointer (some ⟨bx, 0, none⟩)]) w fun e w' => e = .returned (.bool ((n : Int) != (L : Int) + 1)) ∧ Below w.heap.size w w' := by
  have hb := block_lt_of_cell hc
  have i4 : IntKind.i64.wrap ((L : Int) + 1) = (L : Int) + 1 := IntWalk.i64_in _ (by omega)
  go_enter Try.func114, Try.ntmps114
  go_wp2_with fail
  go_ret
  exact ⟨rfl, Below.refl _ _⟩
def ckC (l : List (Int × Int)) (len : Int) (ls : List (List Int)) : Int × Int := if checkSt l len ≠ 0 then (0, checkSt l len) else ckl l len.toNat ls
theorem idx_pos {pr : Nat → Bool} {i n : Nat} (h : i < n) (hp : pr i = true) : 0 ≤ idx pr n :=
  Classical.byContradiction fun hn => by have := idx_neg hn i h; rw [hp] at this; cases this
theorem eL_win {l : List (Int × Int)} {ls : List (List Int)} {k r : Nat} (h : eL l ls k r = 0) : 0 ≤ gz (gl ls k) r ∧ gz (gl ls k) r ≤ 1000000 := by
  unfold eL at h
  cases hw : win (gz (gl ls k) r) 0 1000000 with
  | true => exact win_t.1 hw
  | false => rw [if_pos hw] at h; exact absurd h (by decide)
set_option maxRecDepth 100000 in
set_option maxHeartbeats 8000000 in
theorem checkFillLabels_any (l : List (Int × Int)) (len : Int) (ls : List (List Int)) (A Al : Option Addr) (b off c bl ol cl : Nat) (w : World) (hA : Lies A l.length w.heap.size b off) (hz : FsAt w b off l) (hm : l.length ≤ 9223372036854775807)
    (hAl : Lies Al ls.length w.heap.size bl ol) (hr : 0 < ls.length → RowsAt w w.heap.size bl ol ls) (hml : ls.length ≤ 1000000) :
    Calls Try.prog 53 #[.slice A l.length c, .int .i64 len, .slice Al ls.length cl] w fun e w' => e = .returned (.tuple #[.int .i64 (ckC l len ls).1, .int .i64 (ckC l len ls).2]) ∧ Below w.heap.size w w' := by
  have HCK : Hid (ckC l len ls = if checkSt l len ≠ 0 then (0, checkSt l len) else ckl l len.toNat ls) := rfl
  generalize ckC l len ls = cv at *
  go_enter Try.func53, Try.ntmps53
  go_wp2_with fail
  have HB0 := Lib.hid (below_new w (Obj.cells #[Value.int IntKind.i64 len] 3))
  have c0 : (w.alloc (Obj.cells #[Value.int IntKind.i64 len] 3)).cell? ⟨w.heap.size, 0, none⟩ = some (.int .i64 len) := by simp [go_sem]
  have hz0 : w.heap.size < (w.alloc (Obj.cells #[Value.int IntKind.i64 len] 3)).heap.size := by simp
  generalize w.alloc (Obj.cells #[Value.int IntKind.i64 len] 3) = W0 at *
  have HA := Lib.hid hA
  have HZ := Lib.hid hz
  have HAl := Lib.hid hAl
  have HR := Lib.hid hr
  clear hA hz hAl hr
  refine (checkFill_any l len A b off c W0 (HA.out.mono HB0.out.size) (HZ.out.below HB0.out (fun h => (HA.out h).2)) hm).mono ?_
  rintro e w1 ⟨rfl, b1⟩
  have HB1 := Lib.hid (HB0.out.trans (b1.mono HB0.out.size))
  have c1 : w1.cell? ⟨w.heap.size, 0, none⟩ = some (.int .i64 len) := (b1.cell (p := ⟨w.heap.size, 0, none⟩) hz0).trans c0
  have hz1 : w.heap.size < w1.heap.size := Nat.lt_of_lt_of_le hz0 b1.size
  clear c0 hz0 b1 HB0
  by_cases hst : checkSt l len = 0
  · have hok := st_ok hst
    rw [hst]
    obtain ⟨L, rfl⟩ : ∃ L : Nat, len = (L : Int) := ⟨_, hok.L0⟩
    have hL : L ≤ 300 := hok.L1
    have h12 := hok.n12
    have HCV : Hid (cv = ckl l L ls) := by show _ = _; rw [HCK.out, if_neg (by rw [hst]; decide), Int.toNat_natCast]
    have HOK := Lib.hid hok
    clear hok hst HCK
    have i1 : IntKind.i64.wrap ((l.length : Int) + 1) = (l.length : Int) + 1 := IntWalk.i64_in _ (by omega)
    by_cases hlen : ls.length = l.length + 1
    · have hne : ((ls.length : Int) != (l.length : Int) + 1) = false := bne_f (by omega)
      obtain ⟨rfl, hbl⟩ := HAl.out (by omega)
      have HRW := Lib.hid (HR.out (by omega))
      have hcall := containsR_any #[.pointer (some ⟨w.heap.size, 0, none⟩)] bl ol ls.length cl ls (fun j => ((gl ls j).length : Int) != (L : Int) + 1) w1 (fun W j hW hj A' c' =>
        (otherLen_any (gl ls j).length L c' w.heap.size A' W hL ((hW.cell (p := ⟨w.heap.size, 0, none⟩) hz1).trans c1)).mono fun e w' h => ⟨h.1, hW.trans (h.2.mono hW.size)⟩) (Nat.le_refl _) hml (by omega) enters114 ((HRW.out.below HB1.out (Nat.le_refl _) hbl).mono HB1.out.size)
      have HLN := Lib.hid hlen
      generalize hnn : ls.length = m at *
      have HM := Lib.hid hnn
      clear hnn HR hlen
      by_cases hall : ∀ i, i < m → (gl ls i).length = L + 1
      · have HSH : Hid (shL l L ls) := ⟨by rw [HM.out]; exact HLN.out, by rw [HM.out]; exact hall⟩
        rw [idx_none (fun j hj => bne_f (by have := hall j hj; omega)), show decide (0 ≤ (-1 : Int)) = false by rfl] at hcall
        have HALL := Lib.hid hall
        have HCALL := Lib.hid hcall
        clear hall hcall
        go_wp2_with fail
        refine HCALL.out.mono ?_
        rintro e w2 ⟨rfl, b2⟩
        have HB2 := Lib.hid (HB1.out.trans (b2.mono HB1.out.size))
        have c2 : w2.cell? ⟨w.heap.size, 0, none⟩ = some (.int .i64 (L : Int)) := (b2.cell (p := ⟨w.heap.size, 0, none⟩) hz1).trans c1
        have hz2 : w.heap.size < w2.heap.size := Nat.lt_of_lt_of_le hz1 b2.size
        have HC2 := Lib.hid c2
        clear HCALL b2 c1 c2 hz1 HB1
        go_wp2_with fail
        go_loopg [32] m (fun gg s32 wr => ∃ k : Nat, k ≤ m ∧ m - k ≤ gg ∧ s32 = .int .i64 k ∧ Hid (Below w2.heap.size w2 wr) ∧ Hid (∀ k', k' < k → ∀ r', r' ≤ L → eL l ls k' r' = 0))
        case atStart => exact ⟨0, Nat.zero_le _, by omega, rfl, Below.refl _ _, fun k' hk' => absurd hk' (Nat.not_lt_zero _)⟩
        case round =>
          as_aux_lemma =>
          obtain ⟨k, hk, hgk, rfl, BW, E⟩ := hrel
          have HBW := Lib.hid (HB2.out.trans (BW.out.mono HB2.out.size))
          by_cases hlt : k < m
          · have hltz : (k : Int) < (m : Int) := by omega
            have hk0 : (0 : Int) ≤ (k : Int) := by omega
            obtain ⟨Ak, bk, ok, ck, h0, lk, zk⟩ := (HRW.out.below HBW.out (Nat.le_refl _) hbl) k (by have := HM.out; omega)
            rw [HALL.out k hlt] at h0 lk
            have HLK := Lib.hid lk
            have HZK := Lib.hid zk
            clear lk zk
            go_wp2_with fail
            clear h0
            go_loopg [39] (L + 1) (fun gg s39 wi => ∃ r : Nat, r ≤ L + 1 ∧ L + 1 - r ≤ gg ∧ s39 = .int .i64 r ∧ Hid (Below wr.heap.size wr wi) ∧ Hid (∀ r', r' < r → eL l ls k r' = 0))
            case atStart => exact ⟨0, Nat.zero_le _, by omega, rfl, Below.refl _ _, fun k' hk' => absurd hk' (Nat.not_lt_zero _)⟩
            case round =>
              as_aux_lemma =>
              obtain ⟨r, hr, hgr, rfl, BI, ER⟩ := hrel
              by_cases hrl : r < L + 1
              · have hrlz : (r : Int) < (L : Int) + 1 := by omega
                have hr0 : (0 : Int) ≤ (r : Int) := by omega
                obtain ⟨rfl, hbk⟩ := HLK.out (by omega)
                have HBI := Lib.hid (HBW.out.trans (BI.out.mono HBW.out.size))
                have q := (BI.out.cell (p := ⟨bk, ok + r, none⟩) (by have := HBW.out.size; show bk < _; omega)).trans (HZK.out r (by rw [HALL.out k hlt]; omega))
                have HEQ : Hid (eL l ls k r = if win (gz (gl ls k) r) 0 1000000 = false then 2 else if k = 0 then (if r = 0 ∧ gz (gl ls 0) 0 ≠ 0 then 22 else 0) else if bd (gl ls (k - 1)) l (k - 1) r < gz (gl ls k) r then 22 else 0) := rfl
                have HZ0 : Hid (k = 0 → r = 0 → gz (gl ls 0) 0 = gz (gl ls k) r) := (show k = 0 → _ from fun h h' => by rw [h, h'])
                have HVP : Hid (0 < k → ∀ j, j ≤ L → 0 ≤ gz (gl ls (k - 1)) j ∧ gz (gl ls (k - 1)) j ≤ 1000000) := (show 0 < k → _ from fun h j hj => eL_win (E.out (k - 1) (by omega) j hj))
                generalize gz (gl ls k) r = z at *
                cases hw : win z 0 1000000 with
                | false =>
                  have HEZ : Hid (eL l ls k r = 2) := by show _ = _; rw [HEQ.out, if_pos hw]
                  go_wp2_with fail
                  refine (within_any _ _ _ _).mono ?_
                  rintro e w5 ⟨rfl, rfl⟩
                  rw [hw]
                  clear hw HEQ HVP HZ0
                  go_wp2_with fail
                  go_ret2
                  rw [HCV.out, ckl_hit (e := 2) HSH.out (k := k) (r := r) (by have := HLN.out; omega) (by omega) E.out ER.out HEZ.out (by decide)]
                  exact ⟨rfl, HBI.out⟩
                | true =>
                  go_wp2_with fail
                  refine (within_any _ _ _ _).mono ?_
                  rintro e wj ⟨rfl, hwj⟩
                  subst hwj
                  rw [hw]
                  by_cases hk00 : k = 0
                  · have hkb : ((k : Int) == 0) = true := by simp [hk00]
                    have hkn : decide (0 < k) = false := decide_eq_false (by omega)
                    by_cases hr00 : r = 0
                    · have hrb : ((r : Int) == 0) = true := by simp [hr00]
                      by_cases hz0 : z = 0
                      · have HEZ : Hid (eL l ls k r = 0) := by show _ = _; rw [HEQ.out, hw, if_neg (by decide), if_pos hk00, if_neg (by rintro ⟨_, h⟩; exact h (by rw [HZ0.out hk00 hr00]; exact hz0))]
                        have hzb : (z != 0) = false := bne_f hz0
                        clear hw HEQ HVP HZ0 hz0 hk00 hr00
                        go_upto_region 15 with (fail)
                        go_quiet (fail)
                        have BWN := Lib.hid (below_drewN BI.out nq)
                        go_wp2_with fail
                        go_roundg (L + 1 - (r + 1))
                        case measure => omega
                        case rel =>
                          refine ⟨r + 1, by omega, by omega, by go_num, BWN.out, (show ∀ j, _ from fun j hj => ?_)⟩
                          by_cases e : j = r
                          · rw [e]; exact HEZ.out
                          · exact ER.out j (by omega)
                      · have HEZ : Hid (eL l ls k r = 22) := by show _ = _; rw [HEQ.out, hw, if_neg (by decide), if_pos hk00, if_pos ⟨hr00, by rw [HZ0.out hk00 hr00]; exact hz0⟩]
                        have hzb : (z != 0) = true := bne_t hz0
                        clear hw HEQ HVP HZ0 hz0 hk00 hr00
                        go_wp2_with fail
                        go_ret2
                        rw [HCV.out, ckl_hit (e := 22) HSH.out (k := k) (r := r) (by have := HLN.out; omega) (by omega) E.out ER.out HEZ.out (by decide)]
                        exact ⟨rfl, HBI.out⟩
                    · have hrb : ((r : Int) == 0) = false := by simp; omega
                      have HEZ : Hid (eL l ls k r = 0) := by show _ = _; rw [HEQ.out, hw, if_neg (by decide), if_pos hk00, if_neg (by rintro ⟨h, _⟩; exact hr00 h)]
                      clear hw HEQ HVP HZ0 hk00 hr00
                      go_upto_region 15 with (fail)
                      go_quiet (fail)
                      have BWN := Lib.hid (below_drewN BI.out nq)
                      go_wp2_with fail
                      go_roundg (L + 1 - (r + 1))
                      case measure => omega
                      case rel =>
                        refine ⟨r + 1, by omega, by omega, by go_num, BWN.out, (show ∀ j, _ from fun j hj => ?_)⟩
                        by_cases e : j = r
                        · rw [e]; exact HEZ.out
                        · exact ER.out j (by omega)
                  · have hkb : ((k : Int) == 0) = false := by simp; omega
                    have hkgt : 0 < k := by omega
                    have hkgd : decide (0 < k) = true := decide_eq_true hkgt
                    obtain ⟨Ap, bp, op, cp, h0, lp, zp⟩ := (HRW.out.below HBI.out (Nat.le_refl _) hbl) (k - 1) (by have := HM.out; omega)
                    have hlp := HALL.out (k - 1) (by omega)
                    rw [hlp] at h0
                    obtain ⟨t1, t2, t3⟩ := HOK.out.s (k - 1) (by have := HLN.out; omega)
                    obtain ⟨u1, u2⟩ := HOK.out.c (k - 1) (by have := HLN.out; omega)
                    obtain ⟨rfl, hbA⟩ := HA.out (by have := HLN.out; omega)
                    obtain ⟨s0, s1⟩ := (HZ.out.below HBI.out (fun _ => hbA)) (k - 1) (by have := HLN.out; omega)
                    rw [t1] at s0
                    rw [u1] at s1
                    have HCB : Hid (∀ W, Below wr.heap.size wr W → Calls Try.prog 115 #[.slice Ap (L + 1) cp, .agg #[.int .i64 (stS l (k - 1) : Int), .int .i64 (stC l (k - 1) : Int)], .int .i64 (r : Int)] W fun e w' => e = .returned (.int .i64 (bd (gl ls (k - 1)) l (k - 1) r)) ∧ Below W.heap.size W w') := (show ∀ W, _ from fun W hW => by
                      have := bound_any (gl ls (k - 1)) (stS l (k - 1)) (stC l (k - 1)) r (stM l (k - 1) r) Ap bp op cp W (lp.mono (Nat.le_trans HBI.out.size hW.size)) (fun j hj => (hW.cell (p := ⟨bp, _, none⟩) (Nat.lt_of_lt_of_le (lp (by omega)).2 HBI.out.size)).trans (zp j hj)) (by omega) (by omega) (stM_iff t2) (by omega) (by omega) (by omega) (fun j hj => HVP.out (by omega) j (by omega))
                      rw [hlp] at this
                      exact this)
                    have HEQ2 : Hid (eL l ls k r = if bd (gl ls (k - 1)) l (k - 1) r < z then 22 else 0) := by show _ = _; rw [HEQ.out, hw, if_neg (by decide), if_neg hk00]
                    clear hw HEQ HVP HZ0 hk00 t1 t2 t3 u1 u2 lp zp hlp
                    generalize bd (gl ls (k - 1)) l (k - 1) r = bv at *
                    generalize stS l (k - 1) = sv at *
                    generalize stC l (k - 1) = cv' at *
                    have i1 : (0 : Int) ≤ (k : Int) - 1 := by omega
                    have i1' : (1 : Int) ≤ (k : Int) := by omega
                    have i2 : (k : Int) - 1 < (m : Int) := by omega
                    have i2' : (k : Int) - 1 < (l.length : Int) := by have := HLN.out; omega
                    have i3 : ((k : Int) - 1).toNat = k - 1 := by omega
                    have i4 : IntKind.i64.wrap ((k : Int) - 1) = (k : Int) - 1 := IntWalk.i64_in _ (by omega)
                    by_cases hgt : bv < z
                    · have HEZ : Hid (eL l ls k r = 22) := by show _ = _; rw [HEQ2.out, if_pos hgt]
                      clear HEQ2
                      go_upto_region 15 with (fail)
                      have xh := cell_regrown h0
                      have xs0 := cell_regrown s0
                      have xs1 := cell_regrown s1
                      have cN : ∀ d os, Calls Try.prog 115 #[.slice Ap (L + 1) cp, .agg #[.int .i64 (sv : Int), .int .i64 (cv' : Int)], .int .i64 (r : Int)] (grow (redrawn wr d) os) fun e w'' => e = .returned (.int .i64 bv) ∧ ∃ p : Regrown, w'' = grow (redrawn wr p.d) p.os := fun d os => Calls.regrown_of (HCB.out (grow (redrawn wr d) os) (below_regrown wr d os))
                      refine wp_region_quiet_below (by kernel_rfl) (by kernel_rfl) ?_
                      repeat (first | go_big_quiet_step (exact cN _ _) | quiet_step (exact cN _ _))
                      refine wpQuiet_nil ?_
                      intro _ hw'
                      obtain ⟨⟨dq, osq⟩, hw''⟩ := hw'
                      subst hw''
                      have b3 := below_regrown wr dq osq
                      generalize grow (redrawn wr dq) osq = w3 at *
                      have BWN := Lib.hid (BI.out.trans (b3.mono BI.out.size))
                      have HBN := Lib.hid (HBI.out.trans (b3.mono HBI.out.size))
                      clear xh xs0 xs1 cN h0 s0 s1 HCB b3 i1 i1' i2 i2' i3 i4
                      go_wp2_with fail
                      go_ret2
                      rw [HCV.out, ckl_hit (e := 22) HSH.out (k := k) (r := r) (by have := HLN.out; omega) (by omega) E.out ER.out HEZ.out (by decide)]
                      exact ⟨rfl, HBN.out⟩
                    · have HEZ : Hid (eL l ls k r = 0) := by show _ = _; rw [HEQ2.out, if_neg hgt]
                      clear HEQ2
                      go_upto_region 15 with (fail)
                      have xh := cell_regrown h0
                      have xs0 := cell_regrown s0
                      have xs1 := cell_regrown s1
                      have cN : ∀ d os, Calls Try.prog 115 #[.slice Ap (L + 1) cp, .agg #[.int .i64 (sv : Int), .int .i64 (cv' : Int)], .int .i64 (r : Int)] (grow (redrawn wr d) os) fun e w'' => e = .returned (.int .i64 bv) ∧ ∃ p : Regrown, w'' = grow (redrawn wr p.d) p.os := fun d os => Calls.regrown_of (HCB.out (grow (redrawn wr d) os) (below_regrown wr d os))
                      refine wp_region_quiet_below (by kernel_rfl) (by kernel_rfl) ?_
                      repeat (first | go_big_quiet_step (exact cN _ _) | quiet_step (exact cN _ _))
                      refine wpQuiet_nil ?_
                      intro _ hw'
                      obtain ⟨⟨dq, osq⟩, hw''⟩ := hw'
                      subst hw''
                      have b3 := below_regrown wr dq osq
                      generalize grow (redrawn wr dq) osq = w3 at *
                      have BWN := Lib.hid (BI.out.trans (b3.mono BI.out.size))
                      have HBN := Lib.hid (HBI.out.trans (b3.mono HBI.out.size))
                      clear xh xs0 xs1 cN h0 s0 s1 HCB b3 i1 i1' i2 i2' i3 i4
                      go_wp2_with fail
                      go_roundg (L + 1 - (r + 1))
                      case measure => omega
                      case rel =>
                        refine ⟨r + 1, by omega, by omega, by go_num, BWN.out, (show ∀ j, _ from fun j hj => ?_)⟩
                        by_cases e : j = r
                        · rw [e]; exact HEZ.out
                        · exact ER.out j (by omega)
              · have hrlz : ¬ (r : Int) < (L : Int) + 1 := by omega
                have he : r = L + 1 := by omega
                subst he
                go_wp2_with fail
                go_roundg (m - (k + 1))
                case measure => omega
                case rel =>
                  refine ⟨k + 1, by omega, by omega, by go_num, BW.out.trans (BI.out.mono BW.out.size), (show ∀ j, _ from fun j hj r' hr' => ?_)⟩
                  by_cases e : j = k
                  · rw [e]; exact ER.out r' (by omega)
                  · exact E.out j (by omega) r' hr'
          · have hltz : ¬ (k : Int) < (m : Int) := by omega
            have he : k = m := by omega
            subst he
            obtain ⟨Ak, bk, ok, ck, h0, lk, zk⟩ := (HRW.out.below HBW.out (Nat.le_refl _) hbl) l.length (by have := HLN.out; have := HM.out; omega)
            rw [HALL.out l.length (by have := HLN.out; omega)] at h0 lk
            obtain ⟨rfl, hbk⟩ := lk (by omega)
            have q := zk L (by have := HALL.out l.length (by have := HLN.out; omega); omega)
            have c3 : wr.cell? ⟨w.heap.size, 0, none⟩ = some (.int .i64 (L : Int)) := (BW.out.cell (p := ⟨w.heap.size, 0, none⟩) hz2).trans HC2.out
            have j0 : (0 : Int) ≤ (l.length : Int) := by omega
            have j1 : (l.length : Int) < (k : Int) := by have := HLN.out; omega
            have j2 : (0 : Int) ≤ (L : Int) := by omega
            have j3 : (L : Int) < (L : Int) + 1 := by omega
            have HFI : Hid (cv = (gz (gl ls l.length) L, 0)) := by
              show _ = _
              rw [HCV.out, ckl_ok HSH.out (fun k' hk' r' hr' => E.out k' (by have := HLN.out; omega) r' hr')]
            clear E HCV
            generalize gz (gl ls l.length) L = zv at *
            go_wp2_with fail
            go_quiet (fail)
            go_wp2_with fail
            go_ret2
            rw [HFI.out]
            exact ⟨rfl, below_drewN HBW.out _⟩
      · obtain ⟨i, hi, hne'⟩ : ∃ i, i < m ∧ (gl ls i).length ≠ L + 1 := by
          refine Classical.byContradiction fun h => hall fun i hi => Classical.byContradiction fun h2 => h ⟨i, hi, h2⟩
        have hix : 0 ≤ idx (fun j => ((gl ls j).length : Int) != (L : Int) + 1) m := idx_pos (pr := fun j => ((gl ls j).length : Int) != (L : Int) + 1) hi (bne_t (by omega))
        rw [decide_eq_true hix] at hcall
        have HCALL := Lib.hid hcall
        have HF2 : Hid (cv = (0, 10)) := by
          show _ = _
          rw [HCV.out, ckl_shape (fun h => hall (by have := h.2; rw [HM.out] at this; exact this))]
        clear hall hcall hix hne'
        go_wp2_with fail
        refine HCALL.out.mono ?_
        rintro e w2 ⟨rfl, b2⟩
        have HB2 := Lib.hid (HB1.out.trans (b2.mono HB1.out.size))
        clear HCALL b2
        go_wp2_with fail
        go_ret2
        rw [HF2.out]
        exact ⟨rfl, HB2.out⟩
    · have hne : ((ls.length : Int) != (l.length : Int) + 1) = true := bne_t (by omega)
      go_wp2_with fail
      go_ret2
      rw [HCV.out, ckl_shape (fun h => hlen h.1)]
      exact ⟨rfl, HB1.out⟩
  · have hne := bne_t hst
    have HCV : Hid (cv = (0, checkSt l len)) := by show _ = _; rw [HCK.out, if_pos hst]
    clear hst HCK
    generalize checkSt l len = e at *
    go_wp2_with fail
    go_ret2
    rw [HCV.out]
    exact ⟨rfl, HB1.out⟩
end Go.Proofs.Ytlfeoofchebbkaa
