/- exactly's search at a space: it is known already, or each count is tried. -/
import Derived.Test.YtefjhhgfkdkfaaaXst
namespace Go.Proofs.Ytefjhhgfkdkfaaa
set_option linter.unusedSimpArgs false
set_option linter.unusedVariables false
open Go.RowKit
theorem list_set_same {l : List Int} {i : Nat} : l.set i (gz l i) = l := by
  apply List.ext_getElem?
  intro j
  rw [List.getElem?_set]
  by_cases e : i = j
  · subst e
    by_cases h : i < l.length
    · simp [gz, h]
    · simp [h]
  · rw [if_neg e]
theorem wfN (n : Nat) (h : n ≤ 100000) : (Lit.int .i64 (n : Int)).wf = true := WalkArith.wf_i64 (by omega)
set_option maxRecDepth 100000 in
set_option maxHeartbeats 4000000 in
theorem try_at {w0 : World} {f : Fnt} {v vs vl : Value} {qs : List (Nat × Nat)} {sp lim : List Int} (hP : XP w0 f v vs vl qs sp lim) {nb ob tb mb gb co : Nat} {a b : Int} (at_ : Nat) (hat : at_ < sp.length)
    (ih : ∀ (s w : Nat) (W : World) (out : List Int) (nn : Nat) (D : DataW Unit), s ≤ 90 → w ≤ 20000 → XS w0 W nb ob tb mb gb co f v vs vl a b qs out nn D → (∀ j, at_ + 1 ≤ j → j < sp.length → gz out (gz sp j).toNat = 0) → nn + cB (sp.length - (at_ + 1)) ≤ 1000000000000000000 →
      Calls Try.prog 136 #[.agg #[.int .i64 ((at_ + 1 : Nat) : Int), .int .i64 (s : Int), .int .i64 (w : Int)], .pointer (some ⟨nb, 0, none⟩), .pointer (some ⟨ob, 0, none⟩), .pointer (some ⟨tb, 0, none⟩)] W (XPost w0 W nb ob tb mb gb co f v vs vl a b qs sp out nn (at_ + 1) s w))
    (s w : Nat) (W : World) (out : List Int) (nn : Nat) (D : DataW Unit) (hs : s ≤ 90) (hw : w ≤ 20000) (h : XS w0 W nb ob tb mb gb co f v vs vl a b qs out nn D) (hz : ∀ j, at_ ≤ j → j < sp.length → gz out (gz sp j).toNat = 0) (hn : nn + cB (sp.length - at_) ≤ 1000000000000000000) :
    Calls Try.prog 136 #[.agg #[.int .i64 (at_ : Int), .int .i64 (s : Int), .int .i64 (w : Int)], .pointer (some ⟨nb, 0, none⟩), .pointer (some ⟨ob, 0, none⟩), .pointer (some ⟨tb, 0, none⟩)] W (XPost w0 W nb ob tb mb gb co f v vs vl a b qs sp out nn at_ s w) := by
  obtain ⟨As, bs, os, cs, rfl, hAs, hzs, -, -⟩ := hP.p.open
  obtain ⟨Av, cv, rfl⟩ := hP.s.shape
  obtain ⟨Al, bl, ol, cl, rfl, hAl, hzl, -, -⟩ := hP.l.open
  have hbn := below_new W (.cells #[.int .i64 (at_ : Int), .int .i64 (s : Int), .int .i64 (w : Int)] 193)
  have hX := h.below hbn
  have hK := Blk.new W 193 #[.int .i64 (at_ : Int), .int .i64 (s : Int), .int .i64 (w : Int)]
  have HB2 := Lib.hid (But2.of_below (m1 := gb) (m2 := mb) hbn)
  have k0 := hK.cell 0
  have k1 := hK.cell 1
  have k2 := hK.cell 2
  have kl := hK.lt
  have n3 := hX.N.cell 3
  have n7 := hX.N.cell 7
  have nl := hX.N.lt
  have hp8 := hP.sp8
  obtain ⟨str, hkl⟩ := key193 (at_ : Int) (s : Int) (w : Int) (wfN _ (by omega)) (wfN _ (by omega)) (wfN _ (by omega))
  have HX := Lib.hid hX
  have HK := Lib.hid hK
  have HPP := Lib.hid hP
  have HH := Lib.hid h
  have HZ := Lib.hid hz
  have hown := hX.M
  have hFv := hX.F.val at_ s w (.string str) hkl
  have hatz : (at_ : Int) < (sp.length : Int) := by omega
  have hnez : ¬ (at_ : Int) = (sp.length : Int) := by omega
  clear hX hK hbn h hP hz
  generalize hN : sp.length = N at *
  have HN := Lib.hid hN
  clear hN
  go_enter Try.func136, Try.ntmps136
  go_upto_region 1 with fail
  generalize W.alloc (.cells #[.int .i64 (at_ : Int), .int .i64 (s : Int), .int .i64 (w : Int)] 193) = Wq at *
  obtain ⟨cc, hrun, hatk⟩ := ownsMap_lookup_bool hown keyed193 Try.underlying157 Try.underlying4 (zero4b _) hkl
  unfold st3 at hrun
  cases cc with
  | true =>
    have hnone := hFv hatk
    have HXP : Hid (XPost w0 W nb ob tb mb gb co f (.slice Av f.sorts.length cv) (.slice As N cs) (.slice Al lim.length cl) a b qs sp out nn at_ s w (.returned (.bool false)) Wq) := ⟨HB2.out, out, nn, D, HX.out, Nat.le_refl _, Nat.le_add_right _ _, .inl ⟨hnone, rfl, rfl⟩⟩
    go_wp2_with fail
    go_ret
    exact HXP.out
  | false =>
    obtain ⟨rfl, hbsl⟩ := hAs (by omega)
    have hsc := (HX.out.B.cell (p := ⟨bs, os + at_, none⟩) hbsl).trans (hzs at_ (by rw [HN.out]; exact hat))
    have hbsl' := Nat.lt_of_lt_of_le hbsl HX.out.B.size
    have hneq := beq_false_of_ne hnez
    have hin := HPP.out.inF at_ (by rw [HN.out]; exact hat)
    have hwd := HPP.out.wdp at_ (by rw [HN.out]; exact hat)
    have hqt := HPP.out.qat at_ (by rw [HN.out]; exact hat)
    have hz0 := HZ.out at_ (Nat.le_refl _) hat
    have HAS := Lib.hid (fun j (h1 : at_ < j) (h2 : j < N) => HPP.out.asc at_ j h1 (by rw [HN.out]; exact h2))
    have HSD : Hid (sp.drop at_ = gz sp at_ :: sp.drop (at_ + 1)) := (by
      show sp.drop at_ = _
      have hi : at_ < sp.length := by rw [HN.out]; exact hat
      rw [List.drop_eq_getElem_cons hi, gz, List.getD_eq_getElem?_getD, List.getElem?_eq_getElem hi]
      rfl)
    have HCB : Hid (cB (N - at_) = 1 + 91 * cB (N - (at_ + 1))) := (by
      show cB (N - at_) = _
      rw [show N - at_ = (N - (at_ + 1)) + 1 by omega]
      rfl)
    generalize gz sp at_ = z at *
    obtain ⟨q, rfl⟩ := Int.eq_ofNat_of_zero_le hin.1
    rw [Int.toNat_natCast] at hqt hz0
    have hlk := HPP.out.lok.2 q (by omega)
    have hql : q < f.sorts.length := by omega
    obtain ⟨bv, ov, cv', hev, hbv, hsw⟩ := HPP.out.s.width (f := f) (s := (q : Int)) hin
    injection hev with ev1 ev2 ev3
    subst ev1
    clear ev2 ev3
    rw [Int.toNat_natCast] at hsw
    obtain ⟨rfl, hbl⟩ := hAl (by rw [HPP.out.lok.1]; omega)
    have hlc := hzl q (by rw [HPP.out.lok.1]; omega)
    obtain ⟨u, hu⟩ : ∃ u : Nat, wd f (q : Int) = (u : Int) := ⟨(wd f (q : Int)).toNat, by omega⟩
    obtain ⟨l, hl⟩ : ∃ l : Nat, gz lim q = (l : Int) := ⟨(gz lim q).toNat, by omega⟩
    rw [hu, hl, Int.toNat_natCast, Int.toNat_natCast] at hqt
    rw [hu] at hsw hwd
    rw [hl] at hlc hlk
    have hdr : qs.drop at_ = (l, u) :: qs.drop (at_ + 1) := by
      obtain ⟨hi, hx⟩ := List.getElem?_eq_some_iff.1 hqt
      rw [List.drop_eq_getElem_cons hi, hx]
    have HDR := Lib.hid hdr
    have HQ0 := Lib.hid hz0
    clear hu hl hqt hdr hz0 hFv hatk hown
    go_upto_region 7 with fail
    clear hrun k0 k1 k2 n3 n7
    go_loopg [5, 7] (s + 1) (fun gg _ s7 wr => ∃ (k : Nat) (o : List Int) (n' : Nat) (D' : DataW Unit), k ≤ s + 1 ∧ s + 1 - k ≤ gg ∧ s7 = .int .i64 (k : Int) ∧ nn ≤ n' ∧ n' ≤ nn + k * cB (N - (at_ + 1)) ∧ Hid (XS w0 wr nb ob tb mb gb co f (.slice (some ⟨bv, ov, none⟩) f.sorts.length cv) (.slice (some ⟨bs, os, none⟩) N cs) (.slice (some ⟨bl, ol, none⟩) lim.length cl) a b qs o n' D') ∧ Hid (∀ x, o.set q x = out.set q x) ∧ Hid (But2 gb mb W wr) ∧ Hid (Blk wr W.heap.size 193 #[.int .i64 (at_ : Int), .int .i64 (s : Int), .int .i64 (w : Int)]) ∧ Hid (∀ j, j < k → exq (qs.drop (at_ + 1)) (s - j) (w - j * u) = none))
    case atStart => exact ⟨0, out, nn, D, by omega, by omega, rfl, Nat.le_refl _, by omega, HX.out, fun x => rfl, HB2.out, HK.out, fun j hj => absurd hj (Nat.not_lt_zero _)⟩
    case round =>
      obtain ⟨k, o, n', D', hk, hg, rfl, hn1, hn2, HXR, HOR, HBR, HKR, HNO⟩ := hrel
      have n2 := HXR.out.N.cell 2
      have n4 := HXR.out.N.cell 4
      have nl2 := HXR.out.N.lt
      have k1 := HKR.out.cell 1
      have k2 := HKR.out.cell 2
      have kl2 := HKR.out.lt
      have c1 := (HXR.out.B.cell (p := ⟨bl, ol + q, none⟩) hbl).trans hlc
      have c2 := (HXR.out.B.cell (p := ⟨bv, ov + q * 4 + 3, none⟩) hbv).trans hsw
      have hbl2 := Nat.lt_of_lt_of_le hbl HXR.out.B.size
      have hbv2 := Nat.lt_of_lt_of_le hbv HXR.out.B.size
      have hlim : lim.length = f.sorts.length := HPP.out.lok.1
      have hqz : (q : Int) < (lim.length : Int) := by omega
      have hqz2 : (q : Int) < (f.sorts.length : Int) := by omega
      clear hlim
      obtain ⟨mn, hmn⟩ : ∃ m : Nat, m = min l s := ⟨_, rfl⟩
      have hmz : min (l : Int) (s : Int) = (mn : Int) := by omega
      obtain ⟨p, hp⟩ : ∃ p : Nat, p = k * u := ⟨_, rfl⟩
      have hpz : (k : Int) * (u : Int) = (p : Int) := by rw [hp]; push_cast; rfl
      have hpb : p ≤ 9100000 := by
        have h1 : u ≤ 100000 := by omega
        have := Nat.mul_le_mul (show k ≤ 91 by omega) h1
        omega
      have HMN := Lib.hid hmn
      have HPE := Lib.hid hp
      clear hmn hp
      by_cases hc1 : k ≤ mn
      · have hc1z : (k : Int) ≤ (mn : Int) := by omega
        by_cases hc2 : p ≤ w
        · have hc2z : (p : Int) ≤ (w : Int) := by omega
          go_wp2_with fail
          go_quiet (fail)
          have hbq := below_drewN wr nq
          have HXQ := Lib.hid (HXR.out.below hbq)
          have HBQ := Lib.hid (HBR.out.trans (But2.of_below (m1 := gb) (m2 := mb) hbq))
          have HKQ := Lib.hid (HKR.out.below hbq HKR.out.lt)
          clear n2 n4 nl2 k1 k2 kl2 c1 c2 hbl2 hbv2 hbq
          generalize wr.drewN nq = w2 at *
          have o0 := HXQ.out.O.cell 0
          have ol2 := HXQ.out.O.lt
          obtain ⟨gg, hge, hgg, hgl, hgc, hgf, -⟩ := HXQ.out.I.at (i := q) (by rw [HXQ.out.len]; exact hql)
          injection hge with hge
          injection hge with hge
          subst hge
          have HX3 := Lib.hid (HXQ.out.put hql (k : Int))
          have HB3 := Lib.hid (HBQ.out.trans (But2.of_grown (m1 := gb) (m2 := mb) (grown_setCell w2 gb q (.int .i64 (k : Int))) (.inl rfl)))
          have hWg : W.heap.size ≠ gb := by have h1 := HH.out.I; obtain ⟨g1, e1, -, h2, -⟩ := h1.at (i := q) (by rw [HH.out.len]; exact hql); injection e1 with e1; injection e1 with e1; omega
          have HK3 : Hid (Blk (w2.setCell ⟨gb, q, none⟩ (.int .i64 (k : Int))) W.heap.size 193 _) := (Below.heap_setCell _ _ _ _ hWg).trans HKQ.out
          go_upto_region 10 with fail
          clear o0 ol2 hgl hgc hgf
          generalize w2.setCell ⟨gb, q, none⟩ (.int .i64 (k : Int)) = w3 at *
          have t0 := HX3.out.T.cell 0
          have tl := HX3.out.T.lt
          have m2 := HX3.out.N.cell 2
          have ml := HX3.out.N.lt
          have k0 := HK3.out.cell 0
          have k1 := HK3.out.cell 1
          have k2 := HK3.out.cell 2
          have kl2 := HK3.out.lt
          have c2 := (HX3.out.B.cell (p := ⟨bv, ov + q * 4 + 3, none⟩) hbv).trans hsw
          have hbv2 := Nat.lt_of_lt_of_le hbv HX3.out.B.size
          have hkm : k * cB (N - (at_ + 1)) ≤ 90 * cB (N - (at_ + 1)) := Nat.mul_le_mul_right _ (by have := HMN.out; omega)
          have hcb : n' + cB (N - (at_ + 1)) ≤ 1000000000000000000 := by have := HCB.out; omega
          have HKM := Lib.hid hkm
          clear hkm
          have hks : ((s - k : Nat) : Int) = (s : Int) - (k : Int) := by have := HMN.out; omega
          have hws : ((w - p : Nat) : Int) = (w : Int) - (p : Int) := by omega
          have HCALL : Hid (∀ W', Below w3.heap.size w3 W' → Calls Try.prog 136 #[.agg #[.int .i64 ((at_ : Int) + 1), .int .i64 ((s : Int) - (k : Int)), .int .i64 ((w : Int) - (p : Int))], .pointer (some ⟨nb, 0, none⟩), .pointer (some ⟨ob, 0, none⟩), .pointer (some ⟨tb, 0, none⟩)] W'
              (XPost w0 W' nb ob tb mb gb co f (.slice (some ⟨bv, ov, none⟩) f.sorts.length cv) (.slice (some ⟨bs, os, none⟩) N cs) (.slice (some ⟨bl, ol, none⟩) lim.length cl) a b qs sp (o.set q (k : Int)) n' (at_ + 1) (s - k) (w - p))) := (show ∀ W', _ from fun W' hb' => by
            have hcc := ih (s - k) (w - p) W' (o.set q (k : Int)) n' D' (by omega) (by omega) (HX3.out.below hb') (fun j hj1 hj2 => by
              rw [HOR.out, gz_set (by rw [HH.out.len]; exact hql)]
              have hjq : (gz sp j).toNat ≠ q := by have := HAS.out j (by omega) hj2; omega
              rw [if_neg hjq]
              exact HZ.out j (by omega) hj2) hcb
            rw [hks, hws] at hcc
            rw [show ((at_ + 1 : Nat) : Int) = (at_ : Int) + 1 by push_cast; rfl] at hcc
            exact hcc)
          clear ih hks hws hcb
          go_still_tail 22, (by kernel_rfl)
          change wpList _ _ _ _ _ w3.drew
          have hbd : Below w3.heap.size w3 w3.drew := (Below.refl _ _).drew
          have HCD := Lib.hid (HCALL.out _ hbd)
          go_wp2_with fail
          clear t0 tl m2 ml k0 k1 k2 kl2 c2 hbv2 HCALL
          refine HCD.out.mono ?_
          rintro e w4 ⟨hb4, o', n4, D4, hx4, hn3, hn4, ⟨hnone, rfl, rfl⟩ | ⟨r, hsome, rfl, rfl⟩⟩
          · rw [HN.out] at hn4
            have HX4 := Lib.hid hx4
            have HB4 := Lib.hid ((HB3.out.trans (But2.of_below (m1 := gb) (m2 := mb) hbd)).trans hb4)
            have hWm : W.heap.size ≠ mb := by have := HH.out.M.lt; omega
            have HK4 : Hid (Blk w4 W.heap.size 193 _) := (hb4.block W.heap.size (Nat.lt_of_lt_of_le HK3.out.lt hbd.size) hWg hWm).trans (HK3.out.below hbd HK3.out.lt)
            have HN4 := Lib.hid hnone
            clear hx4 hb4 hnone HCD
            go_wp2_with fail
            go_roundg (s + 1 - (k + 1))
            case measure => have := HMN.out; omega
            case rel =>
              refine ⟨k + 1, o.set q (k : Int), n4, D4, by have := HMN.out; omega, by omega, by go_num, by omega, by rw [Nat.succ_mul]; omega, HX4.out, (show Hid _ from fun x => by rw [List.set_set]; exact HOR.out x), HB4.out, HK4.out, (show Hid _ from fun j hj => ?_)⟩
              by_cases e : j = k
              · subst e; rw [← HPE.out]; exact HN4.out
              · exact HNO.out j (by omega)
          · have HPX : Hid (XPost w0 W nb ob tb mb gb co f (.slice (some ⟨bv, ov, none⟩) f.sorts.length cv) (.slice (some ⟨bs, os, none⟩) N cs) (.slice (some ⟨bl, ol, none⟩) lim.length cl) a b qs sp out nn at_ s w (.returned (.bool true)) w4) := by
              refine ⟨(HB3.out.trans (But2.of_below (m1 := gb) (m2 := mb) hbd)).trans hb4, _, n4, D4, hx4, by omega, ?_, .inr ⟨k :: r, ?_, rfl, ?_⟩⟩
              · rw [HN.out] at hn4 ⊢
                have h1 := HCB.out
                have h2 := HKM.out
                omega
              · rw [HDR.out]
                unfold exq
                refine fsome_hit (k := k) ?_ (fun j hj => ?_) ?_
                · show (exq (qs.drop (at_ + 1)) (s - k) (w - k * u)).map _ = _
                  rw [← HPE.out, hsome]; rfl
                · show (exq (qs.drop (at_ + 1)) (s - j) (w - j * u)).map _ = _
                  rw [HNO.out j hj]; rfl
                · have h1 : k ≤ w / u := (div_le k u w (by omega)).2 (by rw [← HPE.out]; exact hc2)
                  have h2 := HMN.out
                  show k < min (min l s) (w / u) + 1
                  omega
              · rw [HSD.out, putR, Int.toNat_natCast, HOR.out]
            clear hx4 hb4 HCD
            go_wp2_with fail
            go_ret
            exact HPX.out
        · have hc2z : ¬ (p : Int) ≤ (w : Int) := by omega
          have HEX : Hid (exq (qs.drop at_) s w = none) := (by
            show exq (qs.drop at_) s w = none
            rw [HDR.out]
            unfold exq
            refine fsome_none fun j hj => ?_
            have hjk : j < k := by
              have h2 := HMN.out
              have hj2 : j < min (min l s) (w / u) + 1 := hj
              rcases Nat.lt_or_ge j k with h3 | h3
              · exact h3
              · exfalso
                have h4 : j * u ≤ w := (div_le j u w (by omega)).1 (by omega)
                have h5 : k * u ≤ j * u := Nat.mul_le_mul_right _ h3
                have h6 := HPE.out
                omega
            show (exq (qs.drop (at_ + 1)) (s - j) (w - j * u)).map _ = _
            rw [HNO.out j hjk]; rfl)
          go_wp2_with fail
          go_quiet (fail)
          have hbq := below_drewN wr nq
          have HXQ := Lib.hid (HXR.out.below hbq)
          have HBQ := Lib.hid (HBR.out.trans (But2.of_below (m1 := gb) (m2 := mb) hbq))
          have HKQ := Lib.hid (HKR.out.below hbq HKR.out.lt)
          clear n2 n4 nl2 k1 k2 kl2 c1 c2 hbl2 hbv2 hbq
          generalize wr.drewN nq = w2 at *
          have o0 := HXQ.out.O.cell 0
          have ol2 := HXQ.out.O.lt
          obtain ⟨gg, hge, hgg, hgl, hgc, hgf, -⟩ := HXQ.out.I.at (i := q) (by rw [HXQ.out.len]; exact hql)
          injection hge with hge
          injection hge with hge
          subst hge
          have HX3 := Lib.hid (HXQ.out.put hql 0)
          rw [HOR.out, show out.set q 0 = out by rw [← HQ0.out]; exact list_set_same] at HX3
          have HB3 := Lib.hid (HBQ.out.trans (But2.of_grown (m1 := gb) (m2 := mb) (grown_setCell w2 gb q (.int .i64 0)) (.inl rfl)))
          have hWg : W.heap.size ≠ gb := by have h1 := HH.out.I; obtain ⟨g1, e1, -, h2, -⟩ := h1.at (i := q) (by rw [HH.out.len]; exact hql); injection e1 with e1; injection e1 with e1; omega
          have HK3 : Hid (Blk (w2.setCell ⟨gb, q, none⟩ (.int .i64 0)) W.heap.size 193 _) := (Below.heap_setCell _ _ _ _ hWg).trans HKQ.out
          go_upto_region 13 with fail
          clear o0 ol2 hgl hgc hgf
          generalize w2.setCell ⟨gb, q, none⟩ (.int .i64 0) = w3 at *
          have m7 := HX3.out.N.cell 7
          have ml := HX3.out.N.lt
          have k0 := HK3.out.cell 0
          have k1 := HK3.out.cell 1
          have k2 := HK3.out.cell 2
          have kl2 := HK3.out.lt
          have hown := HX3.out.M
          have hkl2 : keyOf Try.prog 193 (.agg #[.int .i64 (at_ : Int), .int .i64 (s : Int), .int .i64 (w : Int)]) = some (.string str) := hkl
          have hkm : k * cB (N - (at_ + 1)) ≤ 91 * cB (N - (at_ + 1)) := Nat.mul_le_mul_right _ (by omega)
          have hmx : n' < maxLen := by have := HCB.out; simp only [maxLen]; omega
          have hn5 : n' + 1 ≤ nn + cB (N - at_) := by have := HCB.out; omega
          have HN5 := Lib.hid hn5
          clear hkm hn5 ih
          go_wp2_with ((at_mapUpdate
                        refine wpList_mapUpdate_own _ rfl _ _ _ 157 rfl 193 4 keyed193 Try.underlying157 (plainElem Try.prog 4) mb n' D' rfl hown hmx _ _ (.string str) rfl rfl hkl2 (.lit (.bool true)) [] (plainElem_bool Try.underlying4 true) ?_
                        intro w5 hown5 hgrow5
                        have HX5 := Lib.hid (HX3.out.ins hgrow5 hown5 (HX3.out.F.put hkl HEX.out))
                        have HB5 := Lib.hid (HB3.out.trans (But2.of_grown (m1 := gb) (m2 := mb) hgrow5 (.inr rfl)))
                        clear hown5 hgrow5 m7 ml k0 k1 k2 kl2 hown))
          go_ret
          exact ⟨HB5.out, out, n' + 1, _, HX5.out, by omega, by rw [HN.out]; exact HN5.out, .inl ⟨HEX.out, rfl, rfl⟩⟩
      · have hc1z : ¬ (k : Int) ≤ (mn : Int) := by omega
        have HEX : Hid (exq (qs.drop at_) s w = none) := (by
          show exq (qs.drop at_) s w = none
          rw [HDR.out]
          unfold exq
          refine fsome_none fun j hj => ?_
          have hjk : j < k := by
            have h2 := HMN.out
            have hj2 : j < min (min l s) (w / u) + 1 := hj
            omega
          show (exq (qs.drop (at_ + 1)) (s - j) (w - j * u)).map _ = _
          rw [HNO.out j hjk]; rfl)
        go_wp2_with fail
        go_quiet (fail)
        have hbq := below_drewN wr nq
        have HXQ := Lib.hid (HXR.out.below hbq)
        have HBQ := Lib.hid (HBR.out.trans (But2.of_below (m1 := gb) (m2 := mb) hbq))
        have HKQ := Lib.hid (HKR.out.below hbq HKR.out.lt)
        clear n2 n4 nl2 k1 k2 kl2 c1 c2 hbl2 hbv2 hbq
        generalize wr.drewN nq = w2 at *
        have o0 := HXQ.out.O.cell 0
        have ol2 := HXQ.out.O.lt
        obtain ⟨gg, hge, hgg, hgl, hgc, hgf, -⟩ := HXQ.out.I.at (i := q) (by rw [HXQ.out.len]; exact hql)
        injection hge with hge
        injection hge with hge
        subst hge
        have HX3 := Lib.hid (HXQ.out.put hql 0)
        rw [HOR.out, show out.set q 0 = out by rw [← HQ0.out]; exact list_set_same] at HX3
        have HB3 := Lib.hid (HBQ.out.trans (But2.of_grown (m1 := gb) (m2 := mb) (grown_setCell w2 gb q (.int .i64 0)) (.inl rfl)))
        have hWg : W.heap.size ≠ gb := by have h1 := HH.out.I; obtain ⟨g1, e1, -, h2, -⟩ := h1.at (i := q) (by rw [HH.out.len]; exact hql); injection e1 with e1; injection e1 with e1; omega
        have HK3 : Hid (Blk (w2.setCell ⟨gb, q, none⟩ (.int .i64 0)) W.heap.size 193 _) := (Below.heap_setCell _ _ _ _ hWg).trans HKQ.out
        go_upto_region 13 with fail
        clear o0 ol2 hgl hgc hgf
        generalize w2.setCell ⟨gb, q, none⟩ (.int .i64 0) = w3 at *
        have m7 := HX3.out.N.cell 7
        have ml := HX3.out.N.lt
        have k0 := HK3.out.cell 0
        have k1 := HK3.out.cell 1
        have k2 := HK3.out.cell 2
        have kl2 := HK3.out.lt
        have hown := HX3.out.M
        have hkl2 : keyOf Try.prog 193 (.agg #[.int .i64 (at_ : Int), .int .i64 (s : Int), .int .i64 (w : Int)]) = some (.string str) := hkl
        have hkm : k * cB (N - (at_ + 1)) ≤ 91 * cB (N - (at_ + 1)) := Nat.mul_le_mul_right _ (by omega)
        have hmx : n' < maxLen := by have := HCB.out; simp only [maxLen]; omega
        have hn5 : n' + 1 ≤ nn + cB (N - at_) := by have := HCB.out; omega
        have HN5 := Lib.hid hn5
        clear hkm hn5 ih
        go_wp2_with ((at_mapUpdate
                      refine wpList_mapUpdate_own _ rfl _ _ _ 157 rfl 193 4 keyed193 Try.underlying157 (plainElem Try.prog 4) mb n' D' rfl hown hmx _ _ (.string str) rfl rfl hkl2 (.lit (.bool true)) [] (plainElem_bool Try.underlying4 true) ?_
                      intro w5 hown5 hgrow5
                      have HX5 := Lib.hid (HX3.out.ins hgrow5 hown5 (HX3.out.F.put hkl HEX.out))
                      have HB5 := Lib.hid (HB3.out.trans (But2.of_grown (m1 := gb) (m2 := mb) hgrow5 (.inr rfl)))
                      clear hown5 hgrow5 m7 ml k0 k1 k2 kl2 hown))
        go_ret
        exact ⟨HB5.out, out, n' + 1, _, HX5.out, by omega, by rw [HN.out]; exact HN5.out, .inl ⟨HEX.out, rfl, rfl⟩⟩
end Go.Proofs.Ytefjhhgfkdkfaaa
/- exactly's search, at any space. -/
namespace Go.Proofs.Ytefjhhgfkdkfaaa
set_option linter.unusedSimpArgs false
set_option linter.unusedVariables false
open Go.RowKit
theorem try_any {w0 : World} {f : Fnt} {v vs vl : Value} {qs : List (Nat × Nat)} {sp lim : List Int} (hP : XP w0 f v vs vl qs sp lim) {nb ob tb mb gb co : Nat} {a b : Int} :
    ∀ (m at_ : Nat), at_ + m = sp.length → ∀ (s w : Nat) (W : World) (out : List Int) (nn : Nat) (D : DataW Unit), s ≤ 90 → w ≤ 20000 → XS w0 W nb ob tb mb gb co f v vs vl a b qs out nn D → (∀ j, at_ ≤ j → j < sp.length → gz out (gz sp j).toNat = 0) → nn + cB (sp.length - at_) ≤ 1000000000000000000 →
      Calls Try.prog 136 #[.agg #[.int .i64 (at_ : Int), .int .i64 (s : Int), .int .i64 (w : Int)], .pointer (some ⟨nb, 0, none⟩), .pointer (some ⟨ob, 0, none⟩), .pointer (some ⟨tb, 0, none⟩)] W (XPost w0 W nb ob tb mb gb co f v vs vl a b qs sp out nn at_ s w)
  | 0, at_, hm, s, w, W, out, nn, D, hs, hw, hX, hz, hn => by
    have e : at_ = sp.length := by omega
    subst e
    exact try_end hP hX s w hs hw
  | m + 1, at_, hm, s, w, W, out, nn, D, hs, hw, hX, hz, hn =>
    try_at hP at_ (by omega) (fun s w W out nn D h1 h2 h3 h4 h5 => try_any hP m (at_ + 1) (by omega) s w W out nn D h1 h2 h3 h4 h5) s w W out nn D hs hw hX hz hn
end Go.Proofs.Ytefjhhgfkdkfaaa
