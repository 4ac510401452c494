/- TopLineExact: a line that is found is exact. -/
import Derived.Test.YtefjhhgfkdkfaaaTlp
import Derived.Test.YtefjhhgfkdkfaaaJex
import Derived.Test.YtefjhhgfkdkfaaaLgt
import Derived.Test.YtefjhhgfkdkfaaaRtk
import Derived.Test.YtefjhhgfkdkfaaaTkj
import Derived.Test.YtefjhhgfkdkfaaaSpc
import Derived.Test.YtefjhhgfkdkfaaaFme
namespace Go.Proofs.Ytefjhhgfkdkfaaa
set_option linter.unusedSimpArgs false
set_option linter.unusedVariables false
open Go.RowKit
def TlPost (w : World) (e : Ending) (w' : World) : Prop := e = .returned (.bool true) ∧ Below w.heap.size w w'
/-- Where the law has its task, and the line. -/
structure L1 (w W : World) (t : Tsk) (v vc vi vw : Value) : Prop where
  B : Below w.heap.size w W
  K : Blk W w.heap.size 51 (xts t v vc vi vw)
  T : TkV W t v vc vi vw
theorem L1.step {w W W' : World} {t : Tsk} {v vc vi vw : Value} (h : L1 w W t v vc vi vw) (hb : Below W.heap.size W W') : L1 w W' t v vc vi vw :=
  ⟨h.B.trans (hb.mono h.B.size), h.K.below hb h.K.lt, h.T.below hb⟩
structure L2 (w W : World) (t : Tsk) (v vc vi vw : Value) (lb : Nat) (zs : List Int) (vz : Value) : Prop where
  l : L1 w W t v vc vi vw
  L : Blk W lb 55 #[.int .i64 t.me, vz]
  Z : IV W zs vz
theorem L2.step {w W W' : World} {t : Tsk} {v vc vi vw : Value} {lb : Nat} {zs : List Int} {vz : Value} (h : L2 w W t v vc vi vw lb zs vz) (hb : Below W.heap.size W W') : L2 w W' t v vc vi vw lb zs vz :=
  ⟨h.l.step hb, h.L.below hb h.L.lt, h.Z.below hb⟩
theorem L2.cells {w W : World} {t : Tsk} {v vc vi vw : Value} {lb : Nat} {zs : List Int} {vz : Value} (h : L2 w W t v vc vi vw lb zs vz) :
    W.cell? ⟨w.heap.size, 0, none⟩ = some (.string t.f.name) ∧ W.cell? ⟨w.heap.size, 1, none⟩ = some (.int .i64 t.f.body) ∧ W.cell? ⟨w.heap.size, 2, none⟩ = some v ∧ W.cell? ⟨w.heap.size, 3, none⟩ = some vc ∧ W.cell? ⟨w.heap.size, 4, none⟩ = some vi ∧ W.cell? ⟨w.heap.size, 5, none⟩ = some vw ∧ W.cell? ⟨w.heap.size, 6, none⟩ = some (.int .i64 t.me) ∧ W.cell? ⟨lb, 0, none⟩ = some (.int .i64 t.me) ∧ W.cell? ⟨lb, 1, none⟩ = some vz :=
  ⟨h.l.K.cell 0, h.l.K.cell 1, h.l.K.cell 2, h.l.K.cell 3, h.l.K.cell 4, h.l.K.cell 5, h.l.K.cell 6, h.L.cell 0, h.L.cell 1⟩
theorem io_ne {W : World} {B g : Nat} {zs : List Int} {v : Value} (h : IO W B zs v) (hg : g < B) : v.ownBlock = none ∨ v.ownBlock ≠ some g := by
  rcases h.2 with ⟨rfl, -⟩ | ⟨k, cap, cur, rfl, hb, -⟩
  · exact .inl rfl
  · refine .inr (fun e => ?_)
    rw [ownBlock_some] at e
    injection e with e
    omega
def CfV (f : Fnt) (w : World) (e : Ending) (w' : World) : Prop := ∃ v, e = .returned (.agg (fcs f v)) ∧ SoV w' f.sorts v ∧ Below w.heap.size w w'
theorem copyF_v (f : Fnt) (v : Value) (w : World) (hv : SoV w f.sorts v) (hm : f.sorts.length ≤ 100000) : Calls Try.prog 22 #[.agg (fcs f v)] w (CfV f w) :=
  (copyFount_any f v w hv hm).mono fun e w' ⟨u, h1, h2, h3⟩ => ⟨u, h1, h2.sov (by obtain ⟨_, _, _, _, _, _, _, _, _, hz⟩ := hv; exact hz), h3⟩
def CiV (w : World) (zs : List Int) (e : Ending) (w' : World) : Prop := ∃ v, e = .returned v ∧ IV w' zs v ∧ Below w.heap.size w w'
theorem copyI_v (zs : List Int) (v : Value) (w : World) (hv : IV w zs v) (hm : zs.length ≤ 1000000) : Calls Try.prog 11 #[v] w (CiV w zs) :=
  (copyInts_any zs v w hv hm).mono fun e w' ⟨u, h1, h2, h3⟩ => ⟨u, h1, h2.iv, h3⟩
set_option maxRecDepth 100000 in
set_option maxHeartbeats 8000000 in
theorem topLine_any (t : Tsk) (v vc vi vw : Value) (w : World) (h : TkV w t v vc vi vw) (hn : t.f.name.size ≤ 9223372036854775807) : Calls Try.prog 4 #[.agg (xts t v vc vi vw)] w (TlPost w) := by
  have hb0 := below_new w (.cells (xts t v vc vi vw) 51)
  have HL0 : Hid (L1 w (w.alloc (.cells (xts t v vc vi vw) 51)) t v vc vi vw) := ⟨hb0, Blk.new w 51 (xts t v vc vi vw), h.below hb0⟩
  have HN := Lib.hid hn
  have HP : Hid (∀ W, Below w.heap.size w W → TlPost w (.returned (.bool true)) W) := (show ∀ W, _ from fun W hb => ⟨rfl, hb⟩)
  obtain ⟨Av, cv, rfl⟩ := h.s.shape
  obtain ⟨Ac, _, _, cc, rfl, -⟩ := h.c.open
  obtain ⟨Ai, _, _, ci, rfl, -⟩ := h.i.open
  obtain ⟨Aw, cw, rfl, -, -⟩ := h.w.shape
  clear hb0 h hn
  go_enter Try.func4, Try.ntmps4
  go_wp2_with fail
  generalize w.alloc (.cells (xts t (.slice Av t.f.sorts.length cv) (.slice Ac t.cs.length cc) (.slice Ai t.ind.length ci) (.slice Aw t.words.length cw)) 51) = W0 at *
  refine (justified_any _).mono ?_
  rintro e W1 ⟨rfl, hb⟩
  have HL1 := Lib.hid (HL0.out.step hb)
  clear hb HL0
  have k0 := HL1.out.K.cell 0
  have k1 := HL1.out.K.cell 1
  have k2 := HL1.out.K.cell 2
  have k3 := HL1.out.K.cell 3
  have k4 := HL1.out.K.cell 4
  have k5 := HL1.out.K.cell 5
  have k6 := HL1.out.K.cell 6
  have kl := HL1.out.K.lt
  go_wp2_with fail
  refine (light3_any t _ _ _ _ W1 HL1.out.T HN.out).mono ?_
  rintro e W2 ⟨b, rfl, hlg, hb⟩
  have HL2 := Lib.hid (HL1.out.step hb)
  clear hb HL1 k0 k1 k2 k3 k4 k5 k6 kl
  cases b with
  | false =>
    go_wp2_with fail
    go_ret
    exact HP.out _ HL2.out.B
  | true =>
  obtain ⟨g1, g2, g3, g4, g5⟩ := hlg rfl
  have HLG : Hid (Lgt t) := ⟨g1, g2, g3, g4, g5⟩
  clear hlg
  have HCP : Hid (∀ W, L1 w W t (.slice Av t.f.sorts.length cv) (.slice Ac t.cs.length cc) (.slice Ai t.ind.length ci) (.slice Aw t.words.length cw) → Calls Try.prog 20 #[.agg (xts t (.slice Av t.f.sorts.length cv) (.slice Ac t.cs.length cc) (.slice Ai t.ind.length ci) (.slice Aw t.words.length cw))] W (CtPost t W)) := (show ∀ W, _ from fun W hW => copy20_any t _ _ _ _ W hW.T (by omega) (by omega) (by omega) (by omega) (fun k hk => by have := g5 k hk; omega))
  have HRT := Lib.hid (refTask_any t _ _ _ _ W2 HL2.out.T HN.out (by omega) (by omega) (by omega) (by omega) (fun k hk => by have := g5 k hk; omega))
  clear g1 g2 g3 g4 g5
  have k0 := HL2.out.K.cell 0
  have k1 := HL2.out.K.cell 1
  have k2 := HL2.out.K.cell 2
  have k3 := HL2.out.K.cell 3
  have k4 := HL2.out.K.cell 4
  have k5 := HL2.out.K.cell 5
  have k6 := HL2.out.K.cell 6
  have kl := HL2.out.K.lt
  go_wp2_with fail
  refine HRT.out.mono ?_
  rintro e W3 ⟨rfl, hb⟩
  have HL3 := Lib.hid (HL2.out.step hb)
  clear hb HL2 HRT k0 k1 k2 k3 k4 k5 k6 kl
  by_cases hte : tkErr t = 0
  case neg =>
    have hbn := bne_t hte
    go_wp2_with fail
    go_ret
    exact HP.out _ HL3.out.B
  have HTE := Lib.hid hte
  have hbn := bne_f hte
  rw [hte] at hbn ⊢
  clear hte
  have k0 := HL3.out.K.cell 0
  have k1 := HL3.out.K.cell 1
  have k2 := HL3.out.K.cell 2
  have k3 := HL3.out.K.cell 3
  have k4 := HL3.out.K.cell 4
  have k5 := HL3.out.K.cell 5
  have k6 := HL3.out.K.cell 6
  have kl := HL3.out.K.lt
  go_wp2_with fail
  refine (HCP.out _ HL3.out).mono ?_
  rintro e W4 ⟨q, qc, qi, qw, rfl, hq, hb⟩
  have HL4 := Lib.hid (HL3.out.step hb)
  have HJ := Lib.hid (justify_any t q qc qi qw W4 hq HN.out (by have := HLG.out.1; omega))
  clear hb hq HL3 k0 k1 k2 k3 k4 k5 k6 kl hbn
  go_wp2_with fail
  refine HJ.out.mono ?_
  rintro e W5 ⟨hb, hor⟩
  have HL5 := Lib.hid (HL4.out.step hb)
  have HOR : Hid ((∃ er : Int, er ≠ 0 ∧ e = .returned (.tuple #[.agg #[.int .i64 0, .slice none 0 0], .int .i64 er])) ∨ ∃ zs u, FndOk t zs ∧ e = .returned (.tuple #[.agg #[.int .i64 t.me, u], .int .i64 0]) ∧ IV W5 zs u) := by
    rcases hor with ⟨h1, h2⟩ | ⟨h1, lf, h2, ⟨-, h4⟩ | ⟨r, u, h3, h4, h5⟩⟩
    · exact .inl ⟨_, h1, h2⟩
    · exact .inl ⟨12, by decide, h4⟩
    · exact .inr ⟨_, u, just_ok h1 h2 h3, h4, h5.iv⟩
  clear hb hor HL4 HJ
  rcases HOR.out with ⟨er, her, rfl⟩ | ⟨zs, u, hF, rfl, hz⟩
  · have hbn := bne_t her
    clear HOR
    have HB6 := Lib.hid (HL5.out.B.alloc HL5.out.B.size (.cells #[.int .i64 0, .slice none 0 0] 55))
    go_wp2_with fail
    go_ret
    exact HP.out _ HB6.out
  clear HOR
  have HF := Lib.hid hF
  obtain ⟨Az, _, _, cz, rfl, -⟩ := hz.open
  have HL6 : Hid (L2 w (W5.alloc (.cells #[.int .i64 t.me, .slice Az zs.length cz] 55)) t (.slice Av t.f.sorts.length cv) (.slice Ac t.cs.length cc) (.slice Ai t.ind.length ci) (.slice Aw t.words.length cw) W5.heap.size zs (.slice Az zs.length cz)) := by
    have hb := below_new W5 (.cells #[.int .i64 t.me, .slice Az zs.length cz] 55)
    exact ⟨HL5.out.step hb, Blk.new W5 55 _, hz.below hb⟩
  obtain ⟨l2, hl2⟩ := Option.ne_none_iff_exists'.1 ((takR_iff (tk_ok HTE.out).c hF.inF).2 hF.enough)
  have HLO := Lib.hid (lft_ok HTE.out hF hl2)
  have HTW := Lib.hid (fun T => twice_ok HTE.out hF hl2 (T := T))
  have HCL : Hid (clE t t.me zs = 0) := cl_zero HTE.out hF
  have HLI : Hid (liErr t.f zs = 0) := li_ok (tk_ok HTE.out) hF
  have HTK : Hid (takR t.cs zs = some l2) := hl2
  clear hz hF hl2
  go_wp2_with fail
  generalize W5.alloc (.cells #[.int .i64 t.me, .slice Az zs.length cz] 55) = W6 at *
  generalize W5.heap.size = lb at *
  have HL := Lib.hid HL6.out
  have hFF : (fnErr t.f).2 = 0 := (tk_ok HTE.out).f
  have hC := (tk_ok HTE.out).c
  clear HL5 HL6
  have HSM : Hid (t.f.sorts.length ≤ 122 ∧ t.cs.length ≤ 124 ∧ zs.length ≤ 300) := ⟨HLG.out.1, HLG.out.2.1, HF.out.len⟩
  have hme := (tk_ok HTE.out).me
  have HME := Lib.hid hme
  have HCF : Hid (∀ W, L1 w W t (.slice Av t.f.sorts.length cv) (.slice Ac t.cs.length cc) (.slice Ai t.ind.length ci) (.slice Aw t.words.length cw) → Calls Try.prog 22 #[.agg (fcs t.f (.slice Av t.f.sorts.length cv))] W (CfV t.f W)) := (show ∀ W, _ from fun W hW => copyF_v t.f _ W hW.T.s (by have := HSM.out; omega))
  have HCI : Hid (∀ W l u, IV W l u → l.length ≤ 1000000 → Calls Try.prog 11 #[u] W (CiV W l)) := (show ∀ W l u, _ from fun W l u h hm => copyI_v l u W h hm)
  have HC21 : Hid (∀ W vf u, SoV W t.f.sorts vf → IV W zs u → Calls Try.prog 21 #[.agg (fcs t.f vf), u] W fun e w' => e = .returned (.tuple #[.int .i64 t.me, .int .i64 0]) ∧ Below W.heap.size W w') := (show ∀ W vf u, _ from fun W vf u h1 h2 => (widthOf_any t.f vf zs u W h1 HN.out h2).mono fun e w' ⟨h3, h4⟩ => ⟨by rw [h3, HLI.out, if_pos rfl, HF.out.wid], h4⟩)
  have HC23 : Hid (∀ W vf u, SoV W t.f.sorts vf → IV W zs u → Calls Try.prog 23 #[.agg (fcs t.f vf), u] W fun e w' => ∃ x, e = .returned (.tuple #[x, .int .i64 0]) ∧ IV w' (nedR t.f.sorts.length zs) x ∧ Below W.heap.size W w') := (show ∀ W vf u, _ from fun W vf u h1 h2 => (needOf_any t.f vf zs u W h1 HN.out h2).mono fun e w' ⟨h4, h3⟩ => by
    rcases h3 with ⟨h3, -⟩ | ⟨-, x, h3, h5⟩
    · exact absurd HLI.out h3
    · exact ⟨x, h3, h5.iv, h4⟩)
  have HC24 : Hid (∀ W q qc qi qw u, TkV W t q qc qi qw → IV W zs u → Calls Try.prog 24 #[.agg (xts t q qc qi qw), .agg #[.int .i64 t.me, u]] W fun e w' => ∃ x, e = .returned (.tuple #[x, .int .i64 0]) ∧ IV w' l2 x ∧ Below W.heap.size W w') := (show ∀ W q qc qi qw u, _ from fun W q qc qi qw u h1 h2 => (leftOf_any t q qc qi qw t.me zs u W h1 h2 HN.out (by have := HSM.out; omega) (by have := HSM.out; omega) (by have := HME.out; omega)).mono fun e w' ⟨h4, h3⟩ => by
    rcases h3 with ⟨h3, -⟩ | ⟨-, lf, x, h6, h3, h5⟩
    · exact absurd HCL.out h3
    · rw [HTK.out] at h6
      injection h6 with h6
      subst h6
      exact ⟨x, h3, h5.iv, h4⟩)
  have HC25 : Hid (∀ W vf uc un, SoV W t.f.sorts vf → IV W t.cs uc → IV W (nedR t.f.sorts.length zs) un → Calls Try.prog 25 #[.agg (fcs t.f vf), uc, un] W fun e w' => ∃ x, e = .returned (.tuple #[x, .int .i64 0, .int .i64 0]) ∧ IV w' l2 x ∧ Below W.heap.size W w') := (show ∀ W vf uc un, _ from fun W vf uc un h1 h2 h3 => (taken_any t.f vf _ _ uc un W h1 HN.out h2 h3 (tk_ok HTE.out).f (cnt_of (tk_ok HTE.out).c) (cnt_of HLO.out.cn) HLO.out.ge).mono fun e w' ⟨x, h4, h5, h6⟩ => ⟨x, h4, HLO.out.tak ▸ h5.iv, h6⟩)
  have HC26 : Hid (∀ W vf uc un, SoV W t.f.sorts vf → IV W l2 uc → IV W (nedR t.f.sorts.length zs) un → Calls Try.prog 26 #[.agg (fcs t.f vf), uc, un] W fun e w' => ∃ x, e = .returned (.tuple #[x, .int .i64 0]) ∧ IV w' t.cs x ∧ Below W.heap.size W w') := (show ∀ W vf uc un, _ from fun W vf uc un h1 h2 h3 => (joined_any t.f vf _ _ uc un W h1 HN.out h2 h3 (tk_ok HTE.out).f (cnt_of HLO.out.c2) (cnt_of HLO.out.cn) HLO.out.le).mono fun e w' ⟨x, h4, h5, h6⟩ => ⟨x, h4, HLO.out.joi ▸ h5.iv, h6⟩)
  have HC27 : Hid (∀ W l u u', IV W l u → IV W l u' → l.length ≤ 1000000 → Calls Try.prog 27 #[u, u'] W fun e w' => e = .returned (.bool true) ∧ Below W.heap.size W w') := (show ∀ W l u u', _ from fun W l u u' h1 h2 h3 => (ints27_any l l u u' W h1 h2 h3 h3).mono fun e w' ⟨h4, h5⟩ => ⟨by rw [h4, decide_eq_true rfl], h5⟩)
  have HC28 : Hid (∀ l, CsOk t.f.sorts.length l → ∀ W vf u, SoV W t.f.sorts vf → IV W l u → Calls Try.prog 28 #[.agg (fcs t.f vf), u] W fun e w' => e = .returned (.tuple #[.int .i64 (metR t.f l), .int .i64 0]) ∧ Below W.heap.size W w') := (show ∀ l, _ from fun l hl W vf u h1 h2 => (metalOf_any t.f vf l u W h1 HN.out h2).mono fun e w' ⟨h3, h4⟩ => ⟨by
    have h0 : caErr t.f l = 0 := by
      unfold caErr
      rw [if_neg (by rw [(tk_ok HTE.out).f]; simp)]
      exact cnt_of hl
    rw [h3, h0, if_pos rfl], h4⟩)
  have HC29 : Hid (∀ W vf uc un, SoV W t.f.sorts vf → IV W t.cs uc → IV W (nedR t.f.sorts.length zs) un → Calls Try.prog 29 #[.agg (fcs t.f vf), uc, un] W (TimesPost t.cs (nedR t.f.sorts.length zs) W)) := (show ∀ W vf uc un, _ from fun W vf uc un h1 h2 h3 => times_any t.f vf _ _ uc un W h1 HN.out h2 h3 (tk_ok HTE.out).f (cnt_of (tk_ok HTE.out).c) (cnt_of HLO.out.cn))
  have HC30 : Hid (∀ W q qc qi qw u, TkV W { t with cs := l2 } q qc qi qw → IV W zs u → Calls Try.prog 30 #[.agg (xts { t with cs := l2 } q qc qi qw), .agg #[.int .i64 t.me, u]] W (IntPost (clE { t with cs := l2 } t.me zs) W)) := (show ∀ W q qc qi qw u, _ from fun W q qc qi qw u h1 h2 => checkLine_any { t with cs := l2 } q qc qi qw t.me zs u W h1 h2 HN.out (by have := HSM.out; simp only; omega) (by have := HSM.out; omega) (by have := HME.out; omega))
  have HNL : Hid ((nedR t.f.sorts.length zs).length ≤ 1000000 ∧ l2.length ≤ 1000000 ∧ t.cs.length ≤ 1000000) := ⟨by have := HLO.out.cn.1; have := HSM.out; omega, by have := HLO.out.c2.1; have := HSM.out; omega, by have := HSM.out; omega⟩
  have HM : Hid (0 ≤ metR t.f l2 ∧ metR t.f l2 ≤ metR t.f t.cs ∧ metR t.f l2 + metR t.f (nedR t.f.sorts.length zs) = metR t.f t.cs ∧ metR t.f t.cs ≤ 2000000000000000 ∧ 0 ≤ metR t.f (nedR t.f.sorts.length zs)) := by
    have h1 := HLO.out.met
    have h2 := metK_bound (tk_ok HTE.out).f (tk_ok HTE.out).c _ (Nat.le_refl _)
    have h3 := metK_bound (tk_ok HTE.out).f HLO.out.cn _ (Nat.le_refl _)
    have h4 := HSM.out.1
    refine ⟨h1.1, h1.2.1, h1.2.2, ?_, h3.1⟩
    have : metK t.f t.cs t.f.sorts.length ≤ 14400000000000 * (t.f.sorts.length : Int) := h2.2
    show metK t.f t.cs t.f.sorts.length ≤ _
    omega
  have HCS : Hid (CsOk t.f.sorts.length t.cs ∧ CsOk t.f.sorts.length l2 ∧ CsOk t.f.sorts.length (nedR t.f.sorts.length zs)) := ⟨(tk_ok HTE.out).c, HLO.out.c2, HLO.out.cn⟩
  have HZL : Hid (zs.length ≤ 1000000) := (show zs.length ≤ 1000000 from by have := HSM.out; omega)
  clear hFF hC hme
  generalize hnd : nedR t.f.sorts.length zs = nd at *
  clear hnd
  obtain ⟨k0, k1, k2, k3, k4, k5, k6, y0, y1⟩ := HL.out.cells
  have kl := HL.out.l.K.lt
  have ll := HL.out.L.lt
  have HK : Hid (∀ W, Below W6.heap.size W6 W → (W.cell? ⟨w.heap.size, 0, none⟩ = some (.string t.f.name) ∧ W.cell? ⟨w.heap.size, 1, none⟩ = some (.int .i64 t.f.body) ∧ W.cell? ⟨w.heap.size, 2, none⟩ = some (.slice Av t.f.sorts.length cv) ∧ W.cell? ⟨w.heap.size, 3, none⟩ = some (.slice Ac t.cs.length cc) ∧ W.cell? ⟨w.heap.size, 4, none⟩ = some (.slice Ai t.ind.length ci) ∧ W.cell? ⟨w.heap.size, 5, none⟩ = some (.slice Aw t.words.length cw) ∧ W.cell? ⟨w.heap.size, 6, none⟩ = some (.int .i64 t.me) ∧ W.cell? ⟨lb, 0, none⟩ = some (.int .i64 t.me) ∧ W.cell? ⟨lb, 1, none⟩ = some (.slice Az zs.length cz))) := (show ∀ W, _ from fun W hW => (HL.out.step hW).cells)
  have hbd : Below W6.heap.size W6 W6.drew := (Below.refl _ _).drew
  have hS0 := HK.out W6.drew hbd
  clear k0 k1 k2 k3 k4 k5 k6 y0 y1 kl ll
  go_region_held3 (fun W => (W.cell? ⟨w.heap.size, 0, none⟩ = some (.string t.f.name) ∧ W.cell? ⟨w.heap.size, 1, none⟩ = some (.int .i64 t.f.body) ∧ W.cell? ⟨w.heap.size, 2, none⟩ = some (.slice Av t.f.sorts.length cv) ∧ W.cell? ⟨w.heap.size, 3, none⟩ = some (.slice Ac t.cs.length cc) ∧ W.cell? ⟨w.heap.size, 4, none⟩ = some (.slice Ai t.ind.length ci) ∧ W.cell? ⟨w.heap.size, 5, none⟩ = some (.slice Aw t.words.length cw) ∧ W.cell? ⟨w.heap.size, 6, none⟩ = some (.int .i64 t.me) ∧ W.cell? ⟨lb, 0, none⟩ = some (.int .i64 t.me) ∧ W.cell? ⟨lb, 1, none⟩ = some (.slice Az zs.length cz)))
    (first
      | exact hS0
      | exact HK.out _ hb_W9
      | exact HK.out _ hb_w8
      | exact HK.out _ hb_w7
      | go_keep)
    ((first
      | (go_at_call 22; (with_reducible refine (HCF.out _ (HL.out.step hbd).l).mono ?_); rintro e w7 ⟨vf7, rfl, hf7, hb_w7'⟩; have hb_w7 : Below W6.heap.size W6 w7 := hbd.trans (hb_w7'.mono hbd.size))
      | (go_at_call 11; (with_reducible refine (HCI.out _ zs _ (HL.out.step hb_w7).Z HZL.out).mono ?_); rintro e w8 ⟨u8, rfl, hu8, hb_w8'⟩; have hb_w8 : Below W6.heap.size W6 w8 := hb_w7.trans (hb_w8'.mono hb_w7.size))
      | (go_at_call 21; (with_reducible refine (HC21.out _ _ _ (hf7.below hb_w8') hu8).mono ?_); rintro e W9 ⟨rfl, hb_W9'⟩; have hb_W9 : Below W6.heap.size W6 W9 := hb_w8.trans (hb_W9'.mono hb_w8.size))))
  have HLn := Lib.hid (HL.out.step hb_W9)
  clear HL HK hS0 hbd hb_w7 hb_w8 hb_W9 hb_w7' hb_w8' hb_W9' hf7 hu8
  have HL := Lib.hid HLn.out
  clear HLn
  obtain ⟨k0, k1, k2, k3, k4, k5, k6, y0, y1⟩ := HL.out.cells
  have kl := HL.out.l.K.lt
  have ll := HL.out.L.lt
  go_wp2_with fail
  have HK : Hid (∀ W, Below W9.heap.size W9 W → (W.cell? ⟨w.heap.size, 0, none⟩ = some (.string t.f.name) ∧ W.cell? ⟨w.heap.size, 1, none⟩ = some (.int .i64 t.f.body) ∧ W.cell? ⟨w.heap.size, 2, none⟩ = some (.slice Av t.f.sorts.length cv) ∧ W.cell? ⟨w.heap.size, 3, none⟩ = some (.slice Ac t.cs.length cc) ∧ W.cell? ⟨w.heap.size, 4, none⟩ = some (.slice Ai t.ind.length ci) ∧ W.cell? ⟨w.heap.size, 5, none⟩ = some (.slice Aw t.words.length cw) ∧ W.cell? ⟨w.heap.size, 6, none⟩ = some (.int .i64 t.me) ∧ W.cell? ⟨lb, 0, none⟩ = some (.int .i64 t.me) ∧ W.cell? ⟨lb, 1, none⟩ = some (.slice Az zs.length cz))) := (show ∀ W, _ from fun W hW => (HL.out.step hW).cells)
  have hbd : Below W9.heap.size W9 W9.drew := (Below.refl _ _).drew
  have hS0 := HK.out W9.drew hbd
  clear k0 k1 k2 k3 k4 k5 k6 y0 y1 kl ll
  go_region_held3 (fun W => (W.cell? ⟨w.heap.size, 0, none⟩ = some (.string t.f.name) ∧ W.cell? ⟨w.heap.size, 1, none⟩ = some (.int .i64 t.f.body) ∧ W.cell? ⟨w.heap.size, 2, none⟩ = some (.slice Av t.f.sorts.length cv) ∧ W.cell? ⟨w.heap.size, 3, none⟩ = some (.slice Ac t.cs.length cc) ∧ W.cell? ⟨w.heap.size, 4, none⟩ = some (.slice Ai t.ind.length ci) ∧ W.cell? ⟨w.heap.size, 5, none⟩ = some (.slice Aw t.words.length cw) ∧ W.cell? ⟨w.heap.size, 6, none⟩ = some (.int .i64 t.me) ∧ W.cell? ⟨lb, 0, none⟩ = some (.int .i64 t.me) ∧ W.cell? ⟨lb, 1, none⟩ = some (.slice Az zs.length cz)))
    (first
      | exact hS0
      | exact HK.out _ hb_W12
      | exact HK.out _ hb_w11
      | exact HK.out _ hb_w10
      | go_keep)
    ((first
      | (go_at_call 22; (with_reducible refine (HCF.out _ (HL.out.step hbd).l).mono ?_); rintro e w10 ⟨vf10, rfl, hf10, hb_w10'⟩; have hb_w10 : Below W9.heap.size W9 w10 := hbd.trans (hb_w10'.mono hbd.size))
      | (go_at_call 11; (with_reducible refine (HCI.out _ zs _ (HL.out.step hb_w10).Z HZL.out).mono ?_); rintro e w11 ⟨u11, rfl, hu11, hb_w11'⟩; have hb_w11 : Below W9.heap.size W9 w11 := hb_w10.trans (hb_w11'.mono hb_w10.size))
      | (go_at_call 23; (with_reducible refine (HC23.out _ _ _ (hf10.below hb_w11') hu11).mono ?_); rintro e W12 ⟨vn, rfl, hvn, hb_W12'⟩; have hb_W12 : Below W9.heap.size W9 W12 := hb_w11.trans (hb_W12'.mono hb_w11.size))))
  have HLn := Lib.hid (HL.out.step hb_W12)
  have HVNn := Lib.hid (hvn)
  clear HL HK hS0 hbd hb_w10 hb_w11 hb_W12 hb_w10' hb_w11' hb_W12' hf10 hu11 hvn
  have HL := Lib.hid HLn.out
  clear HLn
  (try clear HVN)
  have HVN := Lib.hid HVNn.out
  clear HVNn
  obtain ⟨k0, k1, k2, k3, k4, k5, k6, y0, y1⟩ := HL.out.cells
  have kl := HL.out.l.K.lt
  have ll := HL.out.L.lt
  go_wp2_with fail
  have HK : Hid (∀ W, Below W12.heap.size W12 W → (W.cell? ⟨w.heap.size, 0, none⟩ = some (.string t.f.name) ∧ W.cell? ⟨w.heap.size, 1, none⟩ = some (.int .i64 t.f.body) ∧ W.cell? ⟨w.heap.size, 2, none⟩ = some (.slice Av t.f.sorts.length cv) ∧ W.cell? ⟨w.heap.size, 3, none⟩ = some (.slice Ac t.cs.length cc) ∧ W.cell? ⟨w.heap.size, 4, none⟩ = some (.slice Ai t.ind.length ci) ∧ W.cell? ⟨w.heap.size, 5, none⟩ = some (.slice Aw t.words.length cw) ∧ W.cell? ⟨w.heap.size, 6, none⟩ = some (.int .i64 t.me) ∧ W.cell? ⟨lb, 0, none⟩ = some (.int .i64 t.me) ∧ W.cell? ⟨lb, 1, none⟩ = some (.slice Az zs.length cz))) := (show ∀ W, _ from fun W hW => (HL.out.step hW).cells)
  have hbd : Below W12.heap.size W12 W12.drew := (Below.refl _ _).drew
  have hS0 := HK.out W12.drew hbd
  clear k0 k1 k2 k3 k4 k5 k6 y0 y1 kl ll
  go_region_held3 (fun W => (W.cell? ⟨w.heap.size, 0, none⟩ = some (.string t.f.name) ∧ W.cell? ⟨w.heap.size, 1, none⟩ = some (.int .i64 t.f.body) ∧ W.cell? ⟨w.heap.size, 2, none⟩ = some (.slice Av t.f.sorts.length cv) ∧ W.cell? ⟨w.heap.size, 3, none⟩ = some (.slice Ac t.cs.length cc) ∧ W.cell? ⟨w.heap.size, 4, none⟩ = some (.slice Ai t.ind.length ci) ∧ W.cell? ⟨w.heap.size, 5, none⟩ = some (.slice Aw t.words.length cw) ∧ W.cell? ⟨w.heap.size, 6, none⟩ = some (.int .i64 t.me) ∧ W.cell? ⟨lb, 0, none⟩ = some (.int .i64 t.me) ∧ W.cell? ⟨lb, 1, none⟩ = some (.slice Az zs.length cz)))
    (first
      | exact hS0
      | exact HK.out _ hb_W14
      | exact HK.out _ hb_w13
      | go_keep)
    ((first
      | (go_at_call 20; (with_reducible refine (HCP.out _ (HL.out.step hbd).l).mono ?_); rintro e w13 ⟨q13, qc13, qi13, qw13, rfl, hq13, hb_w13'⟩; have hb_w13 : Below W12.heap.size W12 w13 := hbd.trans (hb_w13'.mono hbd.size))
      | (go_at_call 24; (with_reducible refine (HC24.out _ _ _ _ _ _ hq13 (HL.out.step hb_w13).Z).mono ?_); rintro e W14 ⟨vl, rfl, hvl, hb_W14'⟩; have hb_W14 : Below W12.heap.size W12 W14 := hb_w13.trans (hb_W14'.mono hb_w13.size))))
  have HLn := Lib.hid (HL.out.step hb_W14)
  have HVNn := Lib.hid (HVN.out.below hb_W14)
  have HVLn := Lib.hid (hvl)
  clear HL HK hS0 hbd hb_w13 hb_W14 hb_w13' hb_W14' hq13 hvl
  have HL := Lib.hid HLn.out
  clear HLn
  (try clear HVN)
  have HVN := Lib.hid HVNn.out
  clear HVNn
  (try clear HVL)
  have HVL := Lib.hid HVLn.out
  clear HVLn
  obtain ⟨k0, k1, k2, k3, k4, k5, k6, y0, y1⟩ := HL.out.cells
  have kl := HL.out.l.K.lt
  have ll := HL.out.L.lt
  have hbm : (t.me != t.me) = false := bne_f rfl
  go_wp2_with fail
  clear hbm
  have HK : Hid (∀ W, Below W14.heap.size W14 W → (W.cell? ⟨w.heap.size, 0, none⟩ = some (.string t.f.name) ∧ W.cell? ⟨w.heap.size, 1, none⟩ = some (.int .i64 t.f.body) ∧ W.cell? ⟨w.heap.size, 2, none⟩ = some (.slice Av t.f.sorts.length cv) ∧ W.cell? ⟨w.heap.size, 3, none⟩ = some (.slice Ac t.cs.length cc) ∧ W.cell? ⟨w.heap.size, 4, none⟩ = some (.slice Ai t.ind.length ci) ∧ W.cell? ⟨w.heap.size, 5, none⟩ = some (.slice Aw t.words.length cw) ∧ W.cell? ⟨w.heap.size, 6, none⟩ = some (.int .i64 t.me) ∧ W.cell? ⟨lb, 0, none⟩ = some (.int .i64 t.me) ∧ W.cell? ⟨lb, 1, none⟩ = some (.slice Az zs.length cz))) := (show ∀ W, _ from fun W hW => (HL.out.step hW).cells)
  have hbd : Below W14.heap.size W14 W14.drew := (Below.refl _ _).drew
  have hS0 := HK.out W14.drew hbd
  clear k0 k1 k2 k3 k4 k5 k6 y0 y1 kl ll
  go_region_held3 (fun W => (W.cell? ⟨w.heap.size, 0, none⟩ = some (.string t.f.name) ∧ W.cell? ⟨w.heap.size, 1, none⟩ = some (.int .i64 t.f.body) ∧ W.cell? ⟨w.heap.size, 2, none⟩ = some (.slice Av t.f.sorts.length cv) ∧ W.cell? ⟨w.heap.size, 3, none⟩ = some (.slice Ac t.cs.length cc) ∧ W.cell? ⟨w.heap.size, 4, none⟩ = some (.slice Ai t.ind.length ci) ∧ W.cell? ⟨w.heap.size, 5, none⟩ = some (.slice Aw t.words.length cw) ∧ W.cell? ⟨w.heap.size, 6, none⟩ = some (.int .i64 t.me) ∧ W.cell? ⟨lb, 0, none⟩ = some (.int .i64 t.me) ∧ W.cell? ⟨lb, 1, none⟩ = some (.slice Az zs.length cz)))
    (first
      | exact hS0
      | exact HK.out _ hb_W18
      | exact HK.out _ hb_w17
      | exact HK.out _ hb_w16
      | exact HK.out _ hb_w15
      | go_keep)
    ((first
      | (go_at_call 22; (with_reducible refine (HCF.out _ (HL.out.step hbd).l).mono ?_); rintro e w15 ⟨vf15, rfl, hf15, hb_w15'⟩; have hb_w15 : Below W14.heap.size W14 w15 := hbd.trans (hb_w15'.mono hbd.size))
      | (go_at_call 11; (with_reducible refine (HCI.out _ t.cs _ (HL.out.step hb_w15).l.T.c HNL.out.2.2).mono ?_); rintro e w16 ⟨u16, rfl, hu16, hb_w16'⟩; have hb_w16 : Below W14.heap.size W14 w16 := hb_w15.trans (hb_w16'.mono hb_w15.size))
      | (go_at_call 11; (with_reducible refine (HCI.out _ nd _ (HVN.out.below hb_w16) HNL.out.1).mono ?_); rintro e w17 ⟨u17, rfl, hu17, hb_w17'⟩; have hb_w17 : Below W14.heap.size W14 w17 := hb_w16.trans (hb_w17'.mono hb_w16.size))
      | (go_at_call 25; (with_reducible refine (HC25.out _ _ _ _ ((hf15.below hb_w16').below hb_w17') (hu16.below hb_w17') hu17).mono ?_); rintro e W18 ⟨vt, rfl, hvt, hb_W18'⟩; have hb_W18 : Below W14.heap.size W14 W18 := hb_w17.trans (hb_W18'.mono hb_w17.size))))
  have HLn := Lib.hid (HL.out.step hb_W18)
  have HVNn := Lib.hid (HVN.out.below hb_W18)
  have HVLn := Lib.hid (HVL.out.below hb_W18)
  have HVTn := Lib.hid (hvt)
  clear HL HK hS0 hbd hb_w15 hb_w16 hb_w17 hb_W18 hb_w15' hb_w16' hb_w17' hb_W18' hf15 hu16 hu17 hvt
  have HL := Lib.hid HLn.out
  clear HLn
  (try clear HVN)
  have HVN := Lib.hid HVNn.out
  clear HVNn
  (try clear HVL)
  have HVL := Lib.hid HVLn.out
  clear HVLn
  (try clear HVT)
  have HVT := Lib.hid HVTn.out
  clear HVTn
  obtain ⟨k0, k1, k2, k3, k4, k5, k6, y0, y1⟩ := HL.out.cells
  have kl := HL.out.l.K.lt
  have ll := HL.out.L.lt
  go_wp2_with fail
  refine (HCF.out _ HL.out.l).mono ?_
  rintro e w19 ⟨vf19, rfl, hf19, hb_w19'⟩
  have hb_w19 : Below W18.heap.size W18 w19 := hb_w19'
  go_wp2_with fail
  refine (HCI.out _ l2 _ (HVL.out.below hb_w19) HNL.out.2.1).mono ?_
  rintro e w20 ⟨u20, rfl, hu20, hb_w20'⟩
  have hb_w20 : Below W18.heap.size W18 w20 := hb_w19.trans (hb_w20'.mono hb_w19.size)
  go_wp2_with fail
  refine (HCI.out _ nd _ (HVN.out.below hb_w20) HNL.out.1).mono ?_
  rintro e w21 ⟨u21, rfl, hu21, hb_w21'⟩
  have hb_w21 : Below W18.heap.size W18 w21 := hb_w20.trans (hb_w21'.mono hb_w20.size)
  go_wp2_with fail
  refine (HC26.out _ _ _ _ ((hf19.below hb_w20').below hb_w21') (hu20.below hb_w21') hu21).mono ?_
  rintro e W22 ⟨vj, rfl, hvj, hb_W22'⟩
  have hb_W22 : Below W18.heap.size W18 W22 := hb_w21.trans (hb_W22'.mono hb_w21.size)
  have HLn := Lib.hid (HL.out.step hb_W22)
  have HVNn := Lib.hid (HVN.out.below hb_W22)
  have HVLn := Lib.hid (HVL.out.below hb_W22)
  have HVTn := Lib.hid (HVT.out.below hb_W22)
  have HVJn := Lib.hid (hvj)
  clear HL k0 k1 k2 k3 k4 k5 k6 y0 y1 kl ll hb_w19 hb_w20 hb_w21 hb_W22 hb_w19' hb_w20' hb_w21' hb_W22' hf19 hu20 hu21 hvj
  have HL := Lib.hid HLn.out
  clear HLn
  (try clear HVN)
  have HVN := Lib.hid HVNn.out
  clear HVNn
  (try clear HVL)
  have HVL := Lib.hid HVLn.out
  clear HVLn
  (try clear HVT)
  have HVT := Lib.hid HVTn.out
  clear HVTn
  (try clear HVJ)
  have HVJ := Lib.hid HVJn.out
  clear HVJn
  obtain ⟨k0, k1, k2, k3, k4, k5, k6, y0, y1⟩ := HL.out.cells
  have kl := HL.out.l.K.lt
  have ll := HL.out.L.lt
  go_wp2_with fail
  refine (HC27.out _ l2 _ _ HVT.out HVL.out HNL.out.2.1).mono ?_
  rintro e w23 ⟨rfl, hb_w23'⟩
  have hb_w23 : Below W22.heap.size W22 w23 := hb_w23'
  clear k0 k1 k2 k3 k4 k5 k6 y0 y1 kl ll
  obtain ⟨k0, k1, k2, k3, k4, k5, k6, y0, y1⟩ := (HL.out.step hb_w23).cells
  have kl := (HL.out.step hb_w23).l.K.lt
  have ll := (HL.out.step hb_w23).L.lt
  go_wp2_with fail
  refine (HC27.out _ t.cs _ _ (HVJ.out.below hb_w23) (HL.out.step hb_w23).l.T.c HNL.out.2.2).mono ?_
  rintro e W24 ⟨rfl, hb_W24'⟩
  have hb_W24 : Below W22.heap.size W22 W24 := hb_w23.trans (hb_W24'.mono hb_w23.size)
  have HLn := Lib.hid (HL.out.step hb_W24)
  have HVNn := Lib.hid (HVN.out.below hb_W24)
  have HVLn := Lib.hid (HVL.out.below hb_W24)
  clear HL k0 k1 k2 k3 k4 k5 k6 y0 y1 kl ll hb_w23 hb_W24 hb_w23' hb_W24' HVT HVJ
  have HL := Lib.hid HLn.out
  clear HLn
  (try clear HVN)
  have HVN := Lib.hid HVNn.out
  clear HVNn
  (try clear HVL)
  have HVL := Lib.hid HVLn.out
  clear HVLn
  obtain ⟨k0, k1, k2, k3, k4, k5, k6, y0, y1⟩ := HL.out.cells
  have kl := HL.out.l.K.lt
  have ll := HL.out.L.lt
  have HC28a : Hid (∀ W vf u, SoV W t.f.sorts vf → IV W l2 u → Calls Try.prog 28 #[.agg (fcs t.f vf), u] W fun e w' => e = .returned (.tuple #[.int .i64 (metR t.f l2), .int .i64 0]) ∧ Below W.heap.size W w') := HC28.out l2 HCS.out.2.1
  have HC28b : Hid (∀ W vf u, SoV W t.f.sorts vf → IV W nd u → Calls Try.prog 28 #[.agg (fcs t.f vf), u] W fun e w' => e = .returned (.tuple #[.int .i64 (metR t.f nd), .int .i64 0]) ∧ Below W.heap.size W w') := HC28.out nd HCS.out.2.2
  have HC28c : Hid (∀ W vf u, SoV W t.f.sorts vf → IV W t.cs u → Calls Try.prog 28 #[.agg (fcs t.f vf), u] W fun e w' => e = .returned (.tuple #[.int .i64 (metR t.f t.cs), .int .i64 0]) ∧ Below W.heap.size W w') := HC28.out t.cs HCS.out.1
  clear HC28
  generalize metR t.f l2 = M1 at *
  generalize metR t.f nd = M2 at *
  generalize metR t.f t.cs = M3 at *
  go_wp2_with fail
  refine (HCF.out _ HL.out.l).mono ?_
  rintro e w25 ⟨vf25, rfl, hf25, hb_w25'⟩
  have hb_w25 : Below W24.heap.size W24 w25 := hb_w25'
  go_wp2_with fail
  refine (HCI.out _ l2 _ (HVL.out.below hb_w25) HNL.out.2.1).mono ?_
  rintro e w26 ⟨u26, rfl, hu26, hb_w26'⟩
  have hb_w26 : Below W24.heap.size W24 w26 := hb_w25.trans (hb_w26'.mono hb_w25.size)
  go_wp2_with fail
  refine (HC28a.out _ _ _ (hf25.below hb_w26') hu26).mono ?_
  rintro e W27 ⟨rfl, hb_W27'⟩
  have hb_W27 : Below W24.heap.size W24 W27 := hb_w26.trans (hb_W27'.mono hb_w26.size)
  have HLn := Lib.hid (HL.out.step hb_W27)
  have HVNn := Lib.hid (HVN.out.below hb_W27)
  have HVLn := Lib.hid (HVL.out.below hb_W27)
  clear HL k0 k1 k2 k3 k4 k5 k6 y0 y1 kl ll hb_w25 hb_w26 hb_W27 hb_w25' hb_w26' hb_W27' hf25 hu26 HC28a
  have HL := Lib.hid HLn.out
  clear HLn
  (try clear HVN)
  have HVN := Lib.hid HVNn.out
  clear HVNn
  (try clear HVL)
  have HVL := Lib.hid HVLn.out
  clear HVLn
  obtain ⟨k0, k1, k2, k3, k4, k5, k6, y0, y1⟩ := HL.out.cells
  have kl := HL.out.l.K.lt
  have ll := HL.out.L.lt
  go_wp2_with fail
  refine (HCF.out _ HL.out.l).mono ?_
  rintro e w28 ⟨vf28, rfl, hf28, hb_w28'⟩
  have hb_w28 : Below W27.heap.size W27 w28 := hb_w28'
  go_wp2_with fail
  refine (HCI.out _ nd _ (HVN.out.below hb_w28) HNL.out.1).mono ?_
  rintro e w29 ⟨u29, rfl, hu29, hb_w29'⟩
  have hb_w29 : Below W27.heap.size W27 w29 := hb_w28.trans (hb_w29'.mono hb_w28.size)
  go_wp2_with fail
  refine (HC28b.out _ _ _ (hf28.below hb_w29') hu29).mono ?_
  rintro e W30 ⟨rfl, hb_W30'⟩
  have hb_W30 : Below W27.heap.size W27 W30 := hb_w29.trans (hb_W30'.mono hb_w29.size)
  have HLn := Lib.hid (HL.out.step hb_W30)
  have HVNn := Lib.hid (HVN.out.below hb_W30)
  have HVLn := Lib.hid (HVL.out.below hb_W30)
  clear HL k0 k1 k2 k3 k4 k5 k6 y0 y1 kl ll hb_w28 hb_w29 hb_W30 hb_w28' hb_w29' hb_W30' hf28 hu29 HC28b
  have HL := Lib.hid HLn.out
  clear HLn
  (try clear HVN)
  have HVN := Lib.hid HVNn.out
  clear HVNn
  (try clear HVL)
  have HVL := Lib.hid HVLn.out
  clear HVLn
  obtain ⟨k0, k1, k2, k3, k4, k5, k6, y0, y1⟩ := HL.out.cells
  have kl := HL.out.l.K.lt
  have ll := HL.out.L.lt
  go_wp2_with fail
  have HK : Hid (∀ W, Below W30.heap.size W30 W → (W.cell? ⟨w.heap.size, 0, none⟩ = some (.string t.f.name) ∧ W.cell? ⟨w.heap.size, 1, none⟩ = some (.int .i64 t.f.body) ∧ W.cell? ⟨w.heap.size, 2, none⟩ = some (.slice Av t.f.sorts.length cv) ∧ W.cell? ⟨w.heap.size, 3, none⟩ = some (.slice Ac t.cs.length cc) ∧ W.cell? ⟨w.heap.size, 4, none⟩ = some (.slice Ai t.ind.length ci) ∧ W.cell? ⟨w.heap.size, 5, none⟩ = some (.slice Aw t.words.length cw) ∧ W.cell? ⟨w.heap.size, 6, none⟩ = some (.int .i64 t.me) ∧ W.cell? ⟨lb, 0, none⟩ = some (.int .i64 t.me) ∧ W.cell? ⟨lb, 1, none⟩ = some (.slice Az zs.length cz))) := (show ∀ W, _ from fun W hW => (HL.out.step hW).cells)
  have hbd : Below W30.heap.size W30 W30.drew := (Below.refl _ _).drew
  have hS0 := HK.out W30.drew hbd
  clear k0 k1 k2 k3 k4 k5 k6 y0 y1 kl ll
  go_region_held3 (fun W => (W.cell? ⟨w.heap.size, 0, none⟩ = some (.string t.f.name) ∧ W.cell? ⟨w.heap.size, 1, none⟩ = some (.int .i64 t.f.body) ∧ W.cell? ⟨w.heap.size, 2, none⟩ = some (.slice Av t.f.sorts.length cv) ∧ W.cell? ⟨w.heap.size, 3, none⟩ = some (.slice Ac t.cs.length cc) ∧ W.cell? ⟨w.heap.size, 4, none⟩ = some (.slice Ai t.ind.length ci) ∧ W.cell? ⟨w.heap.size, 5, none⟩ = some (.slice Aw t.words.length cw) ∧ W.cell? ⟨w.heap.size, 6, none⟩ = some (.int .i64 t.me) ∧ W.cell? ⟨lb, 0, none⟩ = some (.int .i64 t.me) ∧ W.cell? ⟨lb, 1, none⟩ = some (.slice Az zs.length cz)))
    (first
      | exact hS0
      | exact HK.out _ hb_W33
      | exact HK.out _ hb_w32
      | exact HK.out _ hb_w31
      | go_keep)
    ((first
      | (go_at_call 22; (with_reducible refine (HCF.out _ (HL.out.step hbd).l).mono ?_); rintro e w31 ⟨vf31, rfl, hf31, hb_w31'⟩; have hb_w31 : Below W30.heap.size W30 w31 := hbd.trans (hb_w31'.mono hbd.size))
      | (go_at_call 11; (with_reducible refine (HCI.out _ t.cs _ (HL.out.step hb_w31).l.T.c HNL.out.2.2).mono ?_); rintro e w32 ⟨u32, rfl, hu32, hb_w32'⟩; have hb_w32 : Below W30.heap.size W30 w32 := hb_w31.trans (hb_w32'.mono hb_w31.size))
      | (go_at_call 28; (with_reducible refine (HC28c.out _ _ _ (hf31.below hb_w32') hu32).mono ?_); rintro e W33 ⟨rfl, hb_W33'⟩; have hb_W33 : Below W30.heap.size W30 W33 := hb_w32.trans (hb_W33'.mono hb_w32.size))))
  have HLn := Lib.hid (HL.out.step hb_W33)
  have HVNn := Lib.hid (HVN.out.below hb_W33)
  have HVLn := Lib.hid (HVL.out.below hb_W33)
  clear HL HK hS0 hbd hb_w31 hb_w32 hb_W33 hb_w31' hb_w32' hb_W33' hf31 hu32 HC28c
  have HL := Lib.hid HLn.out
  clear HLn
  (try clear HVN)
  have HVN := Lib.hid HVNn.out
  clear HVNn
  (try clear HVL)
  have HVL := Lib.hid HVLn.out
  clear HVLn
  obtain ⟨k0, k1, k2, k3, k4, k5, k6, y0, y1⟩ := HL.out.cells
  have kl := HL.out.l.K.lt
  have ll := HL.out.L.lt
  obtain ⟨hm0, hm1, hm2, hm3, hm4⟩ := HM.out
  have hwm : win M1 0 M3 = true := win_t.2 ⟨hm0, hm1⟩
  have hsm : (M1 + M2 != M3) = false := bne_f hm2
  go_wp2_with fail
  refine (within13_any M1 0 M3 W33).mono ?_
  rintro e w34 ⟨rfl, rfl⟩
  rw [hwm]
  go_wp2_with fail
  clear hm0 hm1 hm2 hm3 hm4 hwm hsm HM
  refine (HCP.out _ HL.out.l).mono ?_
  rintro e W34 ⟨q34, qc34, qi34, qw34, rfl, hq34, hb34⟩
  obtain ⟨A1, c1, rfl⟩ := hq34.s.shape
  obtain ⟨A2, _, _, c2, rfl, -⟩ := hq34.c.open
  obtain ⟨A3, _, _, c3, rfl, -⟩ := hq34.i.open
  obtain ⟨A4, c4, rfl, -, -⟩ := hq34.w.shape
  have HLn := Lib.hid (HL.out.step hb34)
  have HVNn := Lib.hid (HVN.out.below hb34)
  have HVLn := Lib.hid (HVL.out.below hb34)
  have HQ := Lib.hid hq34
  have HN35 : Hid (Below W34.heap.size W34 (W34.alloc (.cells (xts t (.slice A1 t.f.sorts.length c1) (.slice A2 t.cs.length c2) (.slice A3 t.ind.length c3) (.slice A4 t.words.length c4)) 51))) := below_new W34 _
  have HG35 : Hid (Blk (W34.alloc (.cells (xts t (.slice A1 t.f.sorts.length c1) (.slice A2 t.cs.length c2) (.slice A3 t.ind.length c3) (.slice A4 t.words.length c4)) 51)) W34.heap.size 51 (xts t (.slice A1 t.f.sorts.length c1) (.slice A2 t.cs.length c2) (.slice A3 t.ind.length c3) (.slice A4 t.words.length c4))) := Blk.new W34 51 _
  clear HL HVN HVL hq34 hb34 k0 k1 k2 k3 k4 k5 k6 y0 y1 kl ll
  go_wp2_with fail
  generalize W34.alloc (.cells (xts t (.slice A1 t.f.sorts.length c1) (.slice A2 t.cs.length c2) (.slice A3 t.ind.length c3) (.slice A4 t.words.length c4)) 51) = W35 at *
  refine (copyInts_any l2 _ W35 (HVLn.out.below HN35.out) HNL.out.2.1).mono ?_
  rintro e W36 ⟨u36, rfl, hio36, hb36⟩
  obtain ⟨A5, c5, rfl⟩ := hio36.shape
  have HG36 := Lib.hid (HG35.out.below hb36 HG35.out.lt)
  have hb37 : Below W34.heap.size W34 (W36.setCell ⟨W34.heap.size, 3, none⟩ (.slice A5 l2.length c5)) := (HN35.out.trans (hb36.mono HN35.out.size)).setCell (p := ⟨W34.heap.size, 3, none⟩) (Nat.le_refl _) _
  have HG37 : Hid (Blk (W36.setCell ⟨W34.heap.size, 3, none⟩ (.slice A5 l2.length c5)) W34.heap.size 51 (xts { t with cs := l2 } (.slice A1 t.f.sorts.length c1) (.slice A5 l2.length c5) (.slice A3 t.ind.length c3) (.slice A4 t.words.length c4))) := by
    have h := HG36.out.set_ 3 (.slice A5 l2.length c5)
    simp only [List.setIfInBounds_toArray, List.set_cons_zero, List.set_cons_succ] at h
    exact h
  have HT2 : Hid (TkV (W36.setCell ⟨W34.heap.size, 3, none⟩ (.slice A5 l2.length c5)) { t with cs := l2 } (.slice A1 t.f.sorts.length c1) (.slice A5 l2.length c5) (.slice A3 t.ind.length c3) (.slice A4 t.words.length c4)) := ⟨HQ.out.s.below hb37, (hio36.keptG (grown_setCell _ _ _ _) (io_ne hio36 HG35.out.lt)).iv, HQ.out.i.below hb37, HQ.out.w.below hb37⟩
  have HL := Lib.hid (HLn.out.step hb37)
  have HVN := Lib.hid (HVNn.out.below hb37)
  have g3 := HG36.out.cell 3
  have gf := HG36.out.frozen 3
  have gl := HG36.out.lt
  clear HLn HVNn HVLn HQ HN35 HG35 hb36 hb37 hio36
  go_wp2_with fail
  clear g3 gf gl HG36
  generalize W36.setCell ⟨W34.heap.size, 3, none⟩ (.slice A5 l2.length c5) = W37 at *
  generalize W34.heap.size = gb at *
  obtain ⟨k0, k1, k2, k3, k4, k5, k6, y0, y1⟩ := HL.out.cells
  have kl := HL.out.l.K.lt
  have ll := HL.out.L.lt
  have HK : Hid (∀ W, Below W37.heap.size W37 W → (W.cell? ⟨w.heap.size, 0, none⟩ = some (.string t.f.name) ∧ W.cell? ⟨w.heap.size, 1, none⟩ = some (.int .i64 t.f.body) ∧ W.cell? ⟨w.heap.size, 2, none⟩ = some (.slice Av t.f.sorts.length cv) ∧ W.cell? ⟨w.heap.size, 3, none⟩ = some (.slice Ac t.cs.length cc) ∧ W.cell? ⟨w.heap.size, 4, none⟩ = some (.slice Ai t.ind.length ci) ∧ W.cell? ⟨w.heap.size, 5, none⟩ = some (.slice Aw t.words.length cw) ∧ W.cell? ⟨w.heap.size, 6, none⟩ = some (.int .i64 t.me) ∧ W.cell? ⟨lb, 0, none⟩ = some (.int .i64 t.me) ∧ W.cell? ⟨lb, 1, none⟩ = some (.slice Az zs.length cz))) := (show ∀ W, _ from fun W hW => (HL.out.step hW).cells)
  have hbd : Below W37.heap.size W37 W37.drew := (Below.refl _ _).drew
  have hS0 := HK.out W37.drew hbd
  clear k0 k1 k2 k3 k4 k5 k6 y0 y1 kl ll
  go_region_held3 (fun W => (W.cell? ⟨w.heap.size, 0, none⟩ = some (.string t.f.name) ∧ W.cell? ⟨w.heap.size, 1, none⟩ = some (.int .i64 t.f.body) ∧ W.cell? ⟨w.heap.size, 2, none⟩ = some (.slice Av t.f.sorts.length cv) ∧ W.cell? ⟨w.heap.size, 3, none⟩ = some (.slice Ac t.cs.length cc) ∧ W.cell? ⟨w.heap.size, 4, none⟩ = some (.slice Ai t.ind.length ci) ∧ W.cell? ⟨w.heap.size, 5, none⟩ = some (.slice Aw t.words.length cw) ∧ W.cell? ⟨w.heap.size, 6, none⟩ = some (.int .i64 t.me) ∧ W.cell? ⟨lb, 0, none⟩ = some (.int .i64 t.me) ∧ W.cell? ⟨lb, 1, none⟩ = some (.slice Az zs.length cz)))
    (first
      | exact hS0
      | exact HK.out _ hb_W41
      | exact HK.out _ hb_w40
      | exact HK.out _ hb_w39
      | exact HK.out _ hb_w38
      | go_keep)
    ((first
      | (go_at_call 22; (with_reducible refine (HCF.out _ (HL.out.step hbd).l).mono ?_); rintro e w38 ⟨vf38, rfl, hf38, hb_w38'⟩; have hb_w38 : Below W37.heap.size W37 w38 := hbd.trans (hb_w38'.mono hbd.size))
      | (go_at_call 11; (with_reducible refine (HCI.out _ t.cs _ (HL.out.step hb_w38).l.T.c HNL.out.2.2).mono ?_); rintro e w39 ⟨u39, rfl, hu39, hb_w39'⟩; have hb_w39 : Below W37.heap.size W37 w39 := hb_w38.trans (hb_w39'.mono hb_w38.size))
      | (go_at_call 11; (with_reducible refine (HCI.out _ nd _ (HVN.out.below hb_w39) HNL.out.1).mono ?_); rintro e w40 ⟨u40, rfl, hu40, hb_w40'⟩; have hb_w40 : Below W37.heap.size W37 w40 := hb_w39.trans (hb_w40'.mono hb_w39.size))
      | (go_at_call 29; (with_reducible refine (HC29.out _ _ _ _ ((hf38.below hb_w39').below hb_w40') (hu39.below hb_w40') hu40).mono ?_); rintro e W41 ⟨T, sT, er, rfl, hb_W41', himp⟩; have hb_W41 : Below W37.heap.size W37 W41 := hb_w40.trans (hb_W41'.mono hb_w40.size))))
  have HLn := Lib.hid (HL.out.step hb_W41)
  have HG37n := Lib.hid (HG37.out.below hb_W41 HG37.out.lt)
  have HT2n := Lib.hid (HT2.out.below hb_W41)
  clear HL HK hS0 hbd hb_w38 hb_w39 hb_w40 hb_W41 hb_w38' hb_w39' hb_w40' hb_W41' hf38 hu39 hu40 HVN
  have HL := Lib.hid HLn.out
  clear HLn
  (try clear HG37)
  have HG37 := Lib.hid HG37n.out
  clear HG37n
  (try clear HT2)
  have HT2 := Lib.hid HT2n.out
  clear HT2n
  obtain ⟨k0, k1, k2, k3, k4, k5, k6, y0, y1⟩ := HL.out.cells
  have kl := HL.out.l.K.lt
  have ll := HL.out.L.lt
  by_cases her : er = 0
  case neg =>
    have hbn := bne_t her
    go_wp2_with fail
    go_ret
    exact HP.out _ HL.out.l.B
  have hbn := bne_f her
  have hX := HTW.out T (himp her)
  rw [her] at hbn ⊢
  clear himp her
  have g0 := HG37.out.cell 0
  have g1 := HG37.out.cell 1
  have g2 := HG37.out.cell 2
  have g3 := HG37.out.cell 3
  have g4 := HG37.out.cell 4
  have g5 := HG37.out.cell 5
  have g6 := HG37.out.cell 6
  have gll := HG37.out.lt
  have HC := Lib.hid (HC30.out _ _ _ _ _ _ HT2.out HL.out.Z)
  have HX := Lib.hid hX
  clear hX
  generalize clE { t with cs := l2 } t.me zs = X at *
  go_wp2_with fail
  refine HC.out.mono ?_
  rintro e W42 ⟨rfl, hb⟩
  have HB42 := Lib.hid (HL.out.step hb).l.B
  clear hb HC
  go_wp2_with fail
  have hbb : ((X == 0) == decide (2 ≤ T)) = true := by
    rw [← HX.out, beq_iff_eq]
    by_cases h : X = 0
    · rw [h]; rfl
    · rw [decide_eq_false h]; simp [h]
  rw [hbb]
  go_ret
  exact HP.out _ HB42.out
end Go.Proofs.Ytefjhhgfkdkfaaa
