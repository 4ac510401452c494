/- fits: whether sorts are the indent and the words of a task, with spaces between. -/
import Derived.Test.YtefjhhgfkdkfaaaEqc
import Derived.Test.YtefjhhgfkdkfaaaOta
import Derived.Lib.QuietBelow
namespace Go.Proofs.Ytefjhhgfkdkfaaa
set_option linter.unusedSimpArgs false
set_option linter.unusedVariables false
open Go.RowKit Go.Lib
/-- How many spaces a list begins with. -/
def lead (f : Fnt) (l : List Int) : Nat := (l.takeWhile (spB f)).length
def fitK (f : Fnt) (ind : List Int) (ws : List (List Int)) (zs : List Int) : Nat → List Int × Bool
  | 0 => cutR zs ind
  | k + 1 =>
    let s := fitK f ind ws zs k
    let r := if 0 < k then s.1.drop (lead f s.1) else s.1
    let o := if 0 < k then s.2 && win (lead f s.1) 1 3 else s.2
    ((cutR r (gl ws k)).1, o && (cutR r (gl ws k)).2)
def fitB (t : Tsk) (zs : List Int) : Bool := (fitK t.f t.ind t.words zs t.words.length).2 && decide ((fitK t.f t.ind t.words zs t.words.length).1.length = 0)
theorem cutR_mem {l h : List Int} {x : Int} (hx : x ∈ (cutR l h).1) : x ∈ l := by
  unfold cutR at hx
  split at hx
  · exact List.mem_of_mem_drop hx
  · cases hx
theorem fitK_mem (f : Fnt) (ind : List Int) (ws : List (List Int)) (zs : List Int) : ∀ k x, x ∈ (fitK f ind ws zs k).1 → x ∈ zs
  | 0, x, hx => cutR_mem hx
  | k + 1, x, hx => by
    have h1 := cutR_mem (h := gl ws k) (l := if 0 < k then (fitK f ind ws zs k).1.drop (lead f (fitK f ind ws zs k).1) else (fitK f ind ws zs k).1) hx
    split at h1
    · exact fitK_mem f ind ws zs k x (List.mem_of_mem_drop h1)
    · exact fitK_mem f ind ws zs k x h1
theorem cutR_len (l h : List Int) : (cutR l h).1.length ≤ l.length := by
  unfold cutR
  split
  · simp
  · simp
theorem fitK_len (f : Fnt) (ind : List Int) (ws : List (List Int)) (zs : List Int) : ∀ k, (fitK f ind ws zs k).1.length ≤ zs.length
  | 0 => cutR_len _ _
  | k + 1 => by
    have h1 := cutR_len (if 0 < k then (fitK f ind ws zs k).1.drop (lead f (fitK f ind ws zs k).1) else (fitK f ind ws zs k).1) (gl ws k)
    have h2 := fitK_len f ind ws zs k
    show (cutR _ _).1.length ≤ _
    refine Nat.le_trans h1 ?_
    split
    · rw [List.length_drop]; omega
    · exact h2
theorem lead_le (f : Fnt) (l : List Int) : lead f l ≤ l.length := (List.takeWhile_sublist _).length_le
/-- Up to the lead all are spaces; behind it there is none. -/
theorem lead_at (f : Fnt) : ∀ (l : List Int) (n : Nat), n ≤ l.length → (∀ j, j < n → spB f (gz l j) = true) → (n < l.length → spB f (gz l n) = false) → lead f l = n
  | [], n, h, _, _ => by simp at h; subst h; rfl
  | a :: l, 0, _, _, h2 => by
    have : spB f a = false := h2 (by simp)
    unfold lead
    rw [List.takeWhile_cons, this]
    rfl
  | a :: l, n + 1, h, h1, h2 => by
    have h0 : spB f a = true := h1 0 (by omega)
    have ih := lead_at f l n (by simpa using h) (fun j hj => h1 (j + 1) (by omega)) (fun hn => h2 (by simpa using hn))
    unfold lead at ih ⊢
    rw [List.takeWhile_cons, h0]
    simp [ih]
set_option maxRecDepth 100000 in
set_option maxHeartbeats 8000000 in
theorem fits_any (t : Tsk) (v vs vc vi vw : Value) (zs : List Int) (vz : Value) (w : World) (hT : TkV w t v vc vi vw) (hz : IV w zs vz) (hin : InF t.f zs) (hm : zs.length ≤ 1000) (hn : t.f.sorts.length ≤ 1000) (hi : t.ind.length ≤ 1000) (hw : t.words.length ≤ 1000)
    (hwl : ∀ k, k < t.words.length → (gl t.words k).length ≤ 1000) :
    Calls Try.prog 73 #[.agg (xfs t.f v vs), .agg (xts t v vc vi vw), vz] w fun e w' => e = .returned (.bool (fitB t zs)) ∧ Below w.heap.size w w' := by
  have hb0 := below_new w (.cells (xfs t.f v vs) 116)
  have hb1 := below_new (w.alloc (.cells (xfs t.f v vs) 116)) (.cells (xts t v vc vi vw) 51)
  have hX := (Blk.new w 116 (xfs t.f v vs)).below hb1 (by simp)
  have hK := Blk.new (w.alloc (.cells (xfs t.f v vs) 116)) 51 (xts t v vc vi vw)
  rw [World.size_alloc] at hK
  have HB := Lib.hid (hb0.trans (hb1.mono hb0.size))
  have HT := Lib.hid ((hT.below hb0).below hb1)
  have HZ := Lib.hid ((hz.below hb0).below hb1)
  have HX := Lib.hid hX
  have HK := Lib.hid hK
  have HP : Hid (∀ W b, b = fitB t zs → Below w.heap.size w W → Ending.returned (.bool b) = .returned (.bool (fitB t zs)) ∧ Below w.heap.size w W) := (show ∀ W b, _ from fun W b e h => ⟨by rw [e], h⟩)
  have HWL := Lib.hid hwl
  have HMEM := Lib.hid (fitK_mem t.f t.ind t.words zs)
  have HLEN := Lib.hid (fitK_len t.f t.ind t.words zs)
  have HIN := Lib.hid (inF_iff.1 hin)
  obtain ⟨Av, cv, rfl⟩ := hT.s.shape
  obtain ⟨Ac, _, _, cc, rfl, -⟩ := hT.c.open
  obtain ⟨Ai, _, _, ci, rfl, -⟩ := hT.i.open
  obtain ⟨Aw, cw, rfl, -, -⟩ := hT.w.shape
  obtain ⟨Az, _, _, cz, rfl, -⟩ := hz.open
  have HC0 := Lib.hid (cut_any zs t.ind _ _ _ HZ.out HT.out.i (by omega) (by omega))
  have k4 := hK.cell 4
  have k5 := hK.cell 5
  clear hb0 hb1 hX hK hT hz hin hwl
  have HF0 : Hid (fitK t.f t.ind t.words zs 0 = cutR zs t.ind) := rfl
  have HFS : Hid (∀ k, fitK t.f t.ind t.words zs (k + 1) = ((cutR (if 0 < k then (fitK t.f t.ind t.words zs k).1.drop (lead t.f (fitK t.f t.ind t.words zs k).1) else (fitK t.f t.ind t.words zs k).1) (gl t.words k)).1, (if 0 < k then (fitK t.f t.ind t.words zs k).2 && win (lead t.f (fitK t.f t.ind t.words zs k).1) 1 3 else (fitK t.f t.ind t.words zs k).2) && (cutR (if 0 < k then (fitK t.f t.ind t.words zs k).1.drop (lead t.f (fitK t.f t.ind t.words zs k).1) else (fitK t.f t.ind t.words zs k).1) (gl t.words k)).2)) := (show ∀ k, _ from fun k => rfl)
  have HFB : Hid (fitB t zs = ((fitK t.f t.ind t.words zs t.words.length).2 && decide ((fitK t.f t.ind t.words zs t.words.length).1.length = 0))) := rfl
  generalize hN : t.words.length = N at *
  have HN := Lib.hid hN
  clear hN
  go_enter Try.func73, Try.ntmps73
  go_wp2_with fail
  refine HC0.out.mono ?_
  generalize (w.alloc (.cells (xfs t.f (.slice Av t.f.sorts.length cv) vs) 116)).alloc (.cells (xts t (.slice Av t.f.sorts.length cv) (.slice Ac t.cs.length cc) (.slice Ai t.ind.length ci) (.slice Aw N cw)) 51) = W0 at *
  rintro e w1 ⟨hb1, A7, n7, c7, rfl, hi7⟩
  have HB1 := Lib.hid (HB.out.trans (hb1.mono HB.out.size))
  have HT1 := Lib.hid (HT.out.below hb1)
  have HX1 := Lib.hid (HX.out.below hb1 HX.out.lt)
  have HK1 := Lib.hid (HK.out.below hb1 HK.out.lt)
  have HI1 : Hid (IV w1 (fitK t.f t.ind t.words zs 0).1 (.slice A7 n7 c7)) := (show IV _ _ _ from by rw [HF0.out]; exact hi7)
  rw [← HF0.out]
  clear hb1 hi7 k4 k5 HB HT HX HK HZ HC0
  have k5 := HK1.out.cell 5
  have kl := HK1.out.lt
  go_wp2_with fail
  go_loopg [7, 8, 9, 10, 11, 12, 23] N (fun gg s7 s8 _ _ _ _ s23 wr => ∃ (k : Nat) (A : Option Addr) (n c : Nat), k ≤ N ∧ N - k ≤ gg ∧ s23 = .int .i64 (k : Int) ∧ s7 = .slice A n c ∧ s8 = .bool (fitK t.f t.ind t.words zs k).2 ∧ Hid (Below w1.heap.size w1 wr) ∧ Hid (IV wr (fitK t.f t.ind t.words zs k).1 (.slice A n c)))
  case atStart => exact ⟨0, A7, n7, c7, by omega, by omega, rfl, rfl, rfl, Below.refl _ _, HI1.out⟩
  case round =>
    obtain ⟨k, A, n, c, hk, hg, rfl, rfl, rfl, HB, HI⟩ := hrel
    have HBr := Lib.hid (HB1.out.trans (HB.out.mono HB1.out.size))
    have HTr := Lib.hid (HT1.out.below HB.out)
    have HXr := Lib.hid (HX1.out.below HB.out HX1.out.lt)
    have HLk := Lib.hid (HLEN.out k)
    have HMk : Hid (InF t.f (fitK t.f t.ind t.words zs k).1) := (show InF _ _ from inF_iff.2 (fun x hx => HIN.out x (HMEM.out k x hx)))
    have hnl : n = (fitK t.f t.ind t.words zs k).1.length := by
      obtain ⟨_, _, _, _, e, -⟩ := HI.out.open
      injection e
    have hn2 : n ≤ zs.length := by have := HLk.out; omega
    have HNL := Lib.hid hnl
    by_cases hlt : k < N
    · have hltz : (k : Int) < (N : Int) := by omega
      obtain ⟨hs, ⟨Aw', bw, ow, cw', he, hAw, hzw, -, -⟩, hIw⟩ := HTr.out.w
      rw [HN.out] at he hAw hzw hIw
      injection he with e1 e2 e3
      subst e1
      clear e2 e3
      obtain ⟨rfl, hbw⟩ := hAw (by omega)
      have z1 := hzw k (by omega)
      have hiw := hIw k hlt
      have hwl := HWL.out k (by first | exact hlt | (have := HN.out; omega))
      have HST := Lib.hid (HFS.out k)
      generalize hs k = vk at *
      obtain ⟨Ak, _, _, ck, rfl, -⟩ := hiw.open
      have HIW := Lib.hid hiw
      clear hAw hzw hIw hiw hnl
      generalize fitK t.f t.ind t.words zs k = s at *
      obtain ⟨rs, os⟩ := s
      by_cases hk0 : 0 < k
      · have hkz : (0 : Int) < (k : Int) := by omega
        have x0 := HXr.out.cell 0
        have x1 := HXr.out.cell 1
        have x2 := HXr.out.cell 2
        have x3 := HXr.out.cell 3
        go_upto_block 2 with fail
        go_cut [11] (fun s11 wx => ∃ m : Nat, s11 = .int .i64 (m : Int) ∧ m ≤ n ∧ Hid (lead t.f rs = m) ∧ Hid (Below wr.heap.size wr wx))
        case first =>
          go_wp2_with fail
          have HBR : Hid (∀ W, Below wr.heap.size wr W → W.cell? ⟨w.heap.size, 0, none⟩ = some (.string t.f.name) ∧ W.cell? ⟨w.heap.size, 1, none⟩ = some (.int .i64 t.f.body) ∧ W.cell? ⟨w.heap.size, 2, none⟩ = some (.slice Av t.f.sorts.length cv) ∧ W.cell? ⟨w.heap.size, 3, none⟩ = some vs ∧ IV W rs (.slice A n c) ∧ SoV W t.f.sorts (.slice Av t.f.sorts.length cv)) := (show ∀ W, _ from fun W hW => by
            have h := HXr.out.below hW HXr.out.lt
            exact ⟨h.cell 0, h.cell 1, h.cell 2, h.cell 3, HI.out.below hW, HTr.out.s.below hW⟩)
          have HN0 : Hid (Below wr.heap.size wr wr) := Below.refl _ _
          clear x0 x1 x2 x3 z1
          go_loopg [11] n (fun gg2 s11 wr2 => ∃ m : Nat, m ≤ n ∧ n - m ≤ gg2 ∧ s11 = .int .i64 (m : Int) ∧ Hid (∀ W, Below wr2.heap.size wr2 W → W.cell? ⟨w.heap.size, 0, none⟩ = some (.string t.f.name) ∧ W.cell? ⟨w.heap.size, 1, none⟩ = some (.int .i64 t.f.body) ∧ W.cell? ⟨w.heap.size, 2, none⟩ = some (.slice Av t.f.sorts.length cv) ∧ W.cell? ⟨w.heap.size, 3, none⟩ = some vs ∧ IV W rs (.slice A n c) ∧ SoV W t.f.sorts (.slice Av t.f.sorts.length cv)) ∧ Hid (Below wr.heap.size wr wr2) ∧ Hid (∀ j, j < m → spB t.f (gz rs j) = true))
          case atStart => exact ⟨0, by omega, by omega, rfl, HBR.out, HN0.out, fun j hj => absurd hj (Nat.not_lt_zero _)⟩
          case round =>
            obtain ⟨m, hmn, hg2, rfl, HF, HBJ, HSP⟩ := hrel
            by_cases hml : m < n
            · have hmz : (m : Int) < (n : Int) := by omega
              have hmd : decide ((m : Int) < (n : Int)) = true := decide_eq_true hmz
              obtain ⟨y0, y1, y2, y3, hiv, hsv⟩ := HF.out wr (Below.refl _ _)
              obtain ⟨A', bz, oz, cz', he, hAz, hzz, -, -⟩ := hiv.open
              injection he with e1 e2 e3
              subst e1
              have hnr : rs.length = n := HNL.out.symm
              obtain ⟨rfl, hbz⟩ := hAz (by omega)
              have z2 := hzz m (by omega)
              have hin := HMk.out m (by show m < rs.length; omega)
              have hin2 : 0 ≤ gz rs m ∧ gz rs m < t.f.sorts.length := hin
              have HC : Hid (∀ W, Below wr.heap.size wr W → Calls Try.prog 111 #[.agg (xfs t.f (.slice Av t.f.sorts.length cv) vs), .int .i64 (gz rs m)] W fun e w' => e = .returned (.bool (spB t.f (gz rs m))) ∧ Below W.heap.size W w') := (show ∀ W, _ from fun W hW => isSpaceF_any t.f _ vs (gz rs m) W (HF.out W hW).2.2.2.2.2 hin2 hn)
              clear hiv hsv hAz hzz
              (try clear e2 e3)
              have xx0 := cell_regrown y0
              have xx1 := cell_regrown y1
              have xx2 := cell_regrown y2
              have xx3 := cell_regrown y3
              have xz := cell_regrown z2
              have HLA := Lib.hid (lead_at t.f rs m (by omega) HSP.out)
              have HSN : Hid (spB t.f (gz rs m) = true → ∀ j, j < m + 1 → spB t.f (gz rs j) = true) := (show _ → _ from fun h j hj => by
                by_cases e : j = m
                · subst e; exact h
                · exact HSP.out j (by omega))
              generalize hsp : spB t.f (gz rs m) = sp at *
              have HSB := Lib.hid hsp
              generalize gz rs m = x at *
              clear hsp hin hin2
              have c1' : ∀ d os, Calls Try.prog 111 #[.agg #[.string t.f.name, .int .i64 t.f.body, .slice Av t.f.sorts.length cv, vs], .int .i64 x] (Go.Sort.grow (redrawn wr d) os) fun e w'' => e = .returned (.bool sp) ∧ ∃ p : Regrown, w'' = Go.Sort.grow (redrawn wr p.d) p.os := fun d os => Calls.regrown_of (HC.out (Go.Sort.grow (redrawn wr d) os) (below_regrown wr d os))
              go_upto_region 7 with fail
              refine wp_region_quiet_below (by kernel_rfl) (by kernel_rfl) ?_
              repeat (first | go_big_quiet_step (with_reducible exact c1' _ _) | quiet_step (with_reducible exact c1' _ _))
              refine wpQuiet_nil ?_
              intro _ hw'
              obtain ⟨⟨dq, osq⟩, hw''⟩ := hw'
              subst hw''
              have b3 := below_regrown wr dq osq
              have HB3 := Lib.hid (HBJ.out.trans (b3.mono HBJ.out.size))
              have HF3 : Hid (∀ W, Below (Go.Sort.grow (redrawn wr dq) osq).heap.size (Go.Sort.grow (redrawn wr dq) osq) W → W.cell? ⟨w.heap.size, 0, none⟩ = some (.string t.f.name) ∧ W.cell? ⟨w.heap.size, 1, none⟩ = some (.int .i64 t.f.body) ∧ W.cell? ⟨w.heap.size, 2, none⟩ = some (.slice Av t.f.sorts.length cv) ∧ W.cell? ⟨w.heap.size, 3, none⟩ = some vs ∧ IV W rs (.slice (some ⟨bz, oz, none⟩) n c) ∧ SoV W t.f.sorts (.slice Av t.f.sorts.length cv)) := (show ∀ W, _ from fun W hW => HF.out W (b3.trans (hW.mono b3.size)))
              clear xx0 xx1 xx2 xx3 xz c1' y0 y1 y2 y3 z2 b3
              generalize Go.Sort.grow (redrawn wr dq) osq = W3 at *
              cases sp with
              | true =>
                go_wp2_with fail
                go_roundg (n - (m + 1))
                case measure => omega
                case rel => exact ⟨m + 1, by omega, by omega, by go_num, HF3.out, HB3.out, HSN.out (by first | rfl | trivial)⟩
              | false =>
                go_wp2_with fail
                go_meet
                exact ⟨m, rfl, hmn, HLA.out (fun _ => by first | trivial | exact HSB.out), HB3.out⟩
            · have hmz : ¬ (m : Int) < (n : Int) := by omega
              have hmd : decide ((m : Int) < (n : Int)) = false := decide_eq_false hmz
              have hnr : rs.length = n := HNL.out.symm
              have HLA := Lib.hid (lead_at t.f rs m (by omega) HSP.out (fun h => absurd h (by omega)))
              have HB3 := Lib.hid (HBJ.out.trans ((Below.refl wr.heap.size wr).drew.mono HBJ.out.size))
              go_wp2_with fail
              go_big_region
              go_wp2_with fail
              go_meet
              exact ⟨m, rfl, hmn, HLA.out, HB3.out⟩
        case rest =>
          obtain ⟨m, rfl, hmn, HLD, HBm⟩ := hcut
          have HBC := Lib.hid (HB.out.trans (HBm.out.mono HB.out.size))
          have HIC := Lib.hid (HI.out.below HBm.out)
          have HIWC := Lib.hid (HIW.out.below HBm.out)
          have HTX := HST.out
          clear HST
          simp only [if_pos hk0] at HTX
          rw [HLD.out] at HTX
          have HST := Lib.hid HTX
          clear HTX HIW HI HBr HTr HXr HMk HLk x0 x1 x2 x3 z1
          have HW : Hid (∀ W, Calls Try.prog 107 #[.int .i64 (m : Int), .int .i64 1, .int .i64 3] W fun e w' => e = .returned (.bool (win (m : Int) 1 3)) ∧ W = w') := (show ∀ W, _ from fun W => within107_any _ _ _ W)
          generalize hwin : win (m : Int) 1 3 = wi at *
          go_upto_region 9 with fail
          go_cut [8] (fun s8 wx => s8 = .bool (os && wi) ∧ wx = wc)
          case first =>
            cases os with
            | false =>
              go_wp2_with fail
              go_meet
              exact ⟨rfl, rfl⟩
            | true =>
              go_wp2_with fail
              refine (HW.out _).mono ?_
              rintro e w' ⟨rfl, rfl⟩
              go_wp2_with fail
              go_meet
              exact ⟨by simp, rfl⟩
          case rest =>
            obtain ⟨rfl, rfl⟩ := hcut
            generalize (os && wi) = o2 at *
            have hnr : rs.length = n := HNL.out.symm
            have hdl : (rs.drop m).length = n - m := by rw [List.length_drop, hnr]
            have hIV := HIC.out
            rw [← hnr] at hIV
            have hmr : m ≤ rs.length := by omega
            go_upto_region 10 with fail
            go_cut [7] (fun s7 wx => ∃ (A' : Option Addr) (c' : Nat), s7 = .slice A' (n - m) c' ∧ Hid (IV wc (rs.drop m) (.slice A' (n - m) c')) ∧ wx = wc)
            case first =>
              have hmz : (m : Int) ≤ (n : Int) := by omega
              by_cases hcm : c = m
              · have h1 := iv_drop0 hIV hmr hcm
                rw [hnr] at h1
                have H1 := Lib.hid h1
                clear h1 hIV hdl hnr hmr
                go_wp2_with fail
                go_meet
                exact ⟨_, _, rfl, H1.out, rfl⟩
              · have h1 := iv_drop1 hIV hmr hcm
                rw [hnr] at h1
                have H1 := Lib.hid h1
                clear h1 hIV hdl hnr hmr
                go_wp2_with fail
                go_meet
                exact ⟨_, _, rfl, H1.out, rfl⟩
            case rest =>
              obtain ⟨A', c', rfl, HI2, rfl⟩ := hcut
              have hl2 : (rs.drop m).length ≤ 1000 := by rw [hdl]; omega
              have HCC := Lib.hid (cut_any (rs.drop m) (gl t.words k) _ _ wc HI2.out HIWC.out (by omega) (by omega))
              clear hnr hdl hIV hmr hl2
              generalize rs.drop m = rd at *
              go_wp2_with fail
              refine HCC.out.mono ?_
              rintro e w5 ⟨hb5, A5, n5, c5, rfl, hi5⟩
              have HB5 := Lib.hid (HBC.out.trans (hb5.mono HBC.out.size))
              have HI5 := Lib.hid hi5
              clear hb5 hi5
              have HS5 := Lib.hid HST.out
              generalize hcb : (cutR rd (gl t.words k)).2 = cb at *
              cases o2 with
              | true =>
                cases cb with
                | true =>
                  go_wp2_with fail
                  go_roundg (N - (k + 1))
                  case measure => omega
                  case rel => exact ⟨k + 1, A5, n5, c5, by omega, by omega, by go_num, rfl, by rw [HS5.out]; rfl, HB5.out, by rw [HS5.out]; exact HI5.out⟩
                | false =>
                  go_wp2_with fail
                  go_roundg (N - (k + 1))
                  case measure => omega
                  case rel => exact ⟨k + 1, A5, n5, c5, by omega, by omega, by go_num, rfl, by rw [HS5.out]; rfl, HB5.out, by rw [HS5.out]; exact HI5.out⟩
              | false =>
                go_wp2_with fail
                go_roundg (N - (k + 1))
                case measure => omega
                case rel => exact ⟨k + 1, A5, n5, c5, by omega, by omega, by go_num, rfl, by rw [HS5.out]; rfl, HB5.out, by rw [HS5.out]; exact HI5.out⟩
      · have hkz : ¬ (0 : Int) < (k : Int) := by omega
        have HTX := HST.out
        clear HST
        simp only [if_neg hk0] at HTX
        have HST := Lib.hid HTX
        have hnr : rs.length = n := HNL.out.symm
        have HCC := Lib.hid (cut_any rs (gl t.words k) _ _ wr HI.out HIW.out (by omega) (by omega))
        clear HTX hnr
        go_wp2_with fail
        refine HCC.out.mono ?_
        rintro e w5 ⟨hb5, A5, n5, c5, rfl, hi5⟩
        have HB5 := Lib.hid (HB.out.trans (hb5.mono HB.out.size))
        have HI5 := Lib.hid hi5
        clear hb5 hi5
        have HS5 := Lib.hid HST.out
        generalize hcb : (cutR rs (gl t.words k)).2 = cb at *
        cases os with
        | true =>
          cases cb with
          | true =>
            go_wp2_with fail
            go_roundg (N - (k + 1))
            case measure => omega
            case rel => exact ⟨k + 1, A5, n5, c5, by omega, by omega, by go_num, rfl, by rw [HS5.out]; rfl, HB5.out, by rw [HS5.out]; exact HI5.out⟩
          | false =>
            go_wp2_with fail
            go_roundg (N - (k + 1))
            case measure => omega
            case rel => exact ⟨k + 1, A5, n5, c5, by omega, by omega, by go_num, rfl, by rw [HS5.out]; rfl, HB5.out, by rw [HS5.out]; exact HI5.out⟩
        | false =>
          go_wp2_with fail
          go_roundg (N - (k + 1))
          case measure => omega
          case rel => exact ⟨k + 1, A5, n5, c5, by omega, by omega, by go_num, rfl, by rw [HS5.out]; rfl, HB5.out, by rw [HS5.out]; exact HI5.out⟩
    · have hltz : ¬ (k : Int) < (N : Int) := by omega
      have hke : k = N := by omega
      subst hke
      have HFB2 := Lib.hid HFB.out
      clear HFB
      generalize fitK t.f t.ind t.words zs k = s at *
      obtain ⟨rs, os⟩ := s
      have hnr : rs.length = n := HNL.out.symm
      have HX : Hid (fitB t zs = (os && decide (n = 0))) := (show _ = _ from by rw [HFB2.out, ← hnr])
      clear hnr hnl HNL HI HFB2
      cases os with
      | false =>
        go_wp2_with fail
        go_ret
        exact HP.out _ _ (by rw [HX.out]; rfl) HBr.out
      | true =>
        by_cases hn0 : n = 0
        · subst hn0
          go_wp2_with fail
          go_ret
          exact HP.out _ _ (by rw [HX.out]; rfl) HBr.out
        · have hnz : ¬ (n : Int) = 0 := by omega
          go_wp2_with fail
          go_ret
          exact HP.out _ _ (by rw [HX.out, decide_eq_false hn0]; first | rfl | exact beq_false_of_ne hnz) HBr.out
end Go.Proofs.Ytefjhhgfkdkfaaa
