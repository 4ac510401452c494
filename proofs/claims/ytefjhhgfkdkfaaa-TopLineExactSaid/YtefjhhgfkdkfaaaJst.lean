/- Justify: the line of a task. -/
import Derived.Test.YtefjhhgfkdkfaaaJoi
namespace Go.Proofs.Ytefjhhgfkdkfaaa
set_option linter.unusedSimpArgs false
set_option linter.unusedVariables false
open Go.RowKit
theorem joinK_perm (ind : List Int) (ws gs : List (List Int)) : ∀ k, k ≤ ws.length → k ≤ gs.length + 1 → (joinK ind ws gs k).Perm (ind ++ (ws.take k).flatten ++ (gs.take (k - 1)).flatten)
  | 0, _, _ => by simp [joinK]
  | k + 1, h1, h2 => by
    have ih := joinK_perm ind ws gs k (by omega) (by omega)
    unfold joinK
    rw [take_flat (by omega)]
    rcases Nat.eq_zero_or_pos k with e | e
    · subst e
      rw [if_neg (by omega)]
      simp [joinK]
    · obtain ⟨kp, rfl⟩ : ∃ q, k = q + 1 := ⟨k - 1, by omega⟩
      rw [if_pos (by omega), show kp + 1 + 1 - 1 = kp + 1 from rfl, show kp + 1 - 1 = kp from rfl, take_flat (ls := gs) (k := kp) (by omega)]
      rw [show kp + 1 - 1 = kp from rfl] at ih
      refine ((ih.append_right _).append_right _).trans ?_
      simp only [List.append_assoc]
      refine List.Perm.append_left _ (List.Perm.append_left _ ?_)
      rw [← List.append_assoc, ← List.append_assoc]
      exact List.perm_append_comm.trans (by simp)
def chzT (t : Tsk) (lf : List Int) : Option (List Nat) := fewS (qsF t.f lf) (fillT t).toNat (t.words.length - 1) (2 * (t.words.length - 1) + 1)
def cntT (t : Tsk) (r : List Nat) : List Int := putR (List.replicate t.f.sorts.length 0) (spl t.f.sorts t.f.sorts.length) r
/-- The line of a task, with a choice. -/
def justL (t : Tsk) (r : List Nat) : List Int := joinK t.ind t.words (sprR t.f (cntT t r) (t.words.length - 1)) t.words.length
theorem takK_ok {n : Nat} {cs zs : List Int} (h : CsOk n cs) (hin : ∀ j, j < zs.length → 0 ≤ gz zs j ∧ gz zs j < (n : Int)) : ∀ k, k ≤ zs.length → ∀ out, takK cs zs k = some out → CsOk n out
  | 0, _, out, e => by unfold takK at e; injection e with e; subst e; exact h
  | k + 1, hk, out, e => by
    unfold takK at e
    cases hq : takK cs zs k with
    | none => rw [hq] at e; cases e
    | some o =>
      rw [hq] at e
      have ih := takK_ok h hin k (by omega) o hq
      simp only at e
      split at e
      · cases e
      · rename_i hne
        injection e with e
        subst e
        have := hin k (by omega)
        exact ih.dec (by omega) hne
theorem takR_ok {n : Nat} {cs zs out : List Int} (h : CsOk n cs) (hin : ∀ j, j < zs.length → 0 ≤ gz zs j ∧ gz zs j < (n : Int)) (e : takR cs zs = some out) : CsOk n out := takK_ok h hin _ (Nat.le_refl _) out e
theorem qsF_at {f : Fnt} {lf : List Int} {j : Nat} (hj : j < (spl f.sorts f.sorts.length).length) : (qsF f lf)[j]? = some ((gz lf (gz (spl f.sorts f.sorts.length) j).toNat).toNat, (wd f (gz (spl f.sorts f.sorts.length) j)).toNat) := by
  unfold qsF
  rw [List.getElem?_map, List.getElem?_eq_getElem hj, gz_get hj]
  rfl
theorem opnE_ok {t : Tsk} (h : opnE t = 0) : TkOk t ∧ (∃ lf, takR t.cs (ownL t) = some lf ∧ CsOk t.f.sorts.length lf) ∧ 0 ≤ fillT t ∧ fillT t ≤ 20000 := by
  unfold opnE at h
  split at h
  · omega
  rename_i h0
  have hok := tk_ok (Classical.not_not.1 h0)
  split at h
  · omega
  rename_i h1
  split at h
  · omega
  split at h
  · omega
  refine ⟨hok, ?_, by omega, by omega⟩
  obtain ⟨lf, hlf⟩ := Option.ne_none_iff_exists'.1 h1
  exact ⟨lf, hlf, takR_ok hok.c (own_in hok).1 hlf⟩
def JuPost (t : Tsk) (w : World) (e : Ending) (w' : World) : Prop := Below w.heap.size w w' ∧
  ((opnE t ≠ 0 ∧ e = .returned (.tuple #[.agg #[.int .i64 0, .slice none 0 0], .int .i64 (opnE t)])) ∨ (opnE t = 0 ∧ ∃ lf, takR t.cs (ownL t) = some lf ∧
    ((chzT t lf = none ∧ e = .returned (.tuple #[.agg #[.int .i64 0, .slice none 0 0], .int .i64 12])) ∨
      ∃ r v, chzT t lf = some r ∧ e = .returned (.tuple #[.agg #[.int .i64 t.me, v], .int .i64 0]) ∧ IO w' w.heap.size (justL t r) v)))
theorem ju_res {W : World} {bR : Nat} {cs : Array Value} (hg : Blk W bR 55 cs) (hs : cs.size = 2) (tmps : Array Value) (hp : tmps.getD 2 undef = .pointer (some ⟨bR, 0, none⟩)) :
    (results Try.f19 tmps).run Try.prog W = .ok (.tuple #[.agg cs, tmps.getD 3 undef]) W := by
  have h : Try.f19.results = #[.cell 2 55, .tmp 3] := rfl
  have hi : (Try.prog.info? 55).map (·.size) = some cs.size := by rw [hs]; kernel_rfl
  have hp' : tmps[2]?.getD undef = .pointer (some ⟨bR, 0, none⟩) := by simpa using hp
  simp only [results, h]
  simp [Sem.run_bind, Result.andThen, hp', asAddr, run_loadVar_row W bR 55 55 cs (0, 0) _ hg Try.underlying55 rfl hi]
theorem Blk.two {W : World} {g : Nat} {t : TypeId} {c0 c1 : Value} (h : Blk W g t #[c0, c1]) (d0 d1 : Value) : Blk ((W.setCell ⟨g, 0, none⟩ d0).setCell ⟨g, 1, none⟩ d1) g t #[d0, d1] := by
  have := (h.set_ 0 d0).set_ 1 d1
  simpa using this
theorem below_two {B : Nat} {W0 W : World} {g : Nat} (h : Below B W0 W) (hg : B ≤ g) (d0 d1 : Value) : Below B W0 ((W.setCell ⟨g, 0, none⟩ d0).setCell ⟨g, 1, none⟩ d1) :=
  (h.setCell (p := ⟨g, 0, none⟩) hg d0).setCell (p := ⟨g, 1, none⟩) hg d1
set_option maxRecDepth 100000 in
set_option maxHeartbeats 8000000 in
theorem justify_any (t : Tsk) (v vc vi vw : Value) (w : World) (h : TkV w t v vc vi vw) (hn : t.f.name.size ≤ 9223372036854775807) (hm : t.f.sorts.length ≤ 100000) :
    Calls Try.prog 19 #[.agg (xts t v vc vi vw)] w (JuPost t w) := by
  have hb0 := below_new w (.cells (xts t v vc vi vw) 51)
  have hb1 := below_new (w.alloc (.cells (xts t v vc vi vw) 51)) (.cells #[.int .i64 0, .slice none 0 0] 55)
  have hK := Blk.new w 51 (xts t v vc vi vw)
  have hR := Blk.new (w.alloc (.cells (xts t v vc vi vw) 51)) 55 #[.int .i64 0, .slice none 0 0]
  rw [World.size_alloc] at hR
  have hT := (h.below hb0).below hb1
  have hK2 := hK.below hb1 hK.lt
  have hB := hb0.trans (hb1.mono hb0.size)
  have HC := Lib.hid (open55_any t v vc vi vw _ hT hn hm)
  obtain ⟨Av, cv, rfl⟩ := h.s.shape
  obtain ⟨Ac, _, _, cc, rfl, -⟩ := h.c.open
  obtain ⟨Ai, _, _, ci, rfl, -⟩ := h.i.open
  obtain ⟨Aw, cw, rfl, -, -⟩ := h.w.shape
  have c0 := hK2.cell 0
  have c1 := hK2.cell 1
  have c2 := hK2.cell 2
  have c3 := hK2.cell 3
  have c4 := hK2.cell 4
  have c5 := hK2.cell 5
  have c6 := hK2.cell 6
  have HB := Lib.hid hB
  have HT := Lib.hid hT
  have HK := Lib.hid hK2
  have HR := Lib.hid hR
  have HERR : Hid (∀ W x, x = opnE t → opnE t ≠ 0 → Below w.heap.size w W → JuPost t w (.returned (.tuple #[.agg #[.int .i64 0, .slice none 0 0], .int .i64 x])) W) := (show ∀ W x, _ from fun W x e h0 h => by subst e; exact ⟨h, .inl ⟨h0, rfl⟩⟩)
  clear hb0 hb1 hK h hT hK2 hR hB
  go_enter Try.func19, Try.ntmps19
  go_upto_region 1 with fail
  generalize (w.alloc (.cells (xts t (.slice Av t.f.sorts.length cv) (.slice Ac t.cs.length cc) (.slice Ai t.ind.length ci) (.slice Aw t.words.length cw)) 51)).alloc (.cells #[.int .i64 0, .slice none 0 0] 55) = W0 at *
  go_wp2_with fail
  refine HC.out.mono ?_
  rintro e W1 ⟨hb1, hans⟩
  have HB1 := Lib.hid (HB.out.trans (hb1.mono HB.out.size))
  have HT1 := Lib.hid (HT.out.below hb1)
  have HK1 := Lib.hid (HK.out.below hb1 HK.out.lt)
  have HR1 := Lib.hid (HR.out.below hb1 HR.out.lt)
  clear hb1 c0 c1 c2 c3 c4 c5 c6 HB HT HK HR HC
  rcases hans with ⟨hne, rfl⟩ | ⟨hoe, vs, vl, lf, hlf, rfl, hvs, hvl⟩
  · have hbn := bne_t hne
    have HQ := Lib.hid hne
    generalize hoe : opnE t = te at *
    have r0 := HR1.out.cell 0
    have r1 := HR1.out.cell 1
    have z0 := Blk.frozen HR1.out 0
    have z1 := Blk.frozen HR1.out 1
    have rl := HR1.out.lt
    clear hne
    go_wp2_with fail
    have hR2 := (HR1.out.two (.int .i64 0) (.slice none 0 0))
    refine bodyPost_ret (ju_res (hR2.below (below_new _ _) hR2.lt) rfl _ rfl) rfl ?_
    exact HERR.out _ _ rfl HQ.out ((below_two HB1.out (by omega) _ _).alloc (by have := HB1.out.size; simp only [World.size_setCell]; exact this) _)
  · obtain ⟨hok, ⟨lf', hlf', hlok⟩, hf0, hf1⟩ := opnE_ok hoe
    rw [hlf] at hlf'
    injection hlf' with e
    subst e
    have HOK := Lib.hid hok
    have HLF := Lib.hid hlf
    have HOE := Lib.hid hoe
    have HLO := Lib.hid hlok
    have hwl : t.words.length ≤ 30 := hok.w30
    obtain ⟨F, hF⟩ := Int.eq_ofNat_of_zero_le hf0
    have HF := Lib.hid hF
    have hFb : F ≤ 20000 := by omega
    obtain ⟨As, _, _, cs', rfl, -⟩ := hvs.open
    obtain ⟨Al, _, _, cz, rfl, -⟩ := hvl.open
    rw [hF]
    have hXP : XP W1 t.f (.slice Av t.f.sorts.length cv) (.slice As (spl t.f.sorts t.f.sorts.length).length cs') (.slice Al lf.length cz) (qsF t.f lf) (spl t.f.sorts t.f.sorts.length) lf := by
      have hin := spl_in t.f.sorts t.f.sorts.length
      refine ⟨HT1.out.s, hvs, hvl, (fnErr_few hok.f).2, hok.k, inF_iff.2 hin, hlok, by simp [qsF], fun j hj => qsF_at hj, fun j hj => ?_, fun i j hij hj => pair_gz (spl_pair _ _) hij hj⟩
      have hj2 := hin _ (gz_mem hj)
      exact wd_ok hok.f hj2
    have HXP := Lib.hid hXP
    have HG : Hid (t.words.length - 1 ≤ 29) := (show _ ≤ 29 by omega)
    generalize hGe : t.words.length - 1 = G at *
    have HGE := Lib.hid hGe
    have hz := Blk.new W1 118 (tks t (.slice Av t.f.sorts.length cv) (.slice As (spl t.f.sorts t.f.sorts.length).length cs') (.slice Ac t.cs.length cc) (.slice Ai t.ind.length ci) (.slice Aw t.words.length cw) (F : Int) (G : Int) (.slice Al lf.length cz))
    have hbz := below_new W1 (.cells (tks t (.slice Av t.f.sorts.length cv) (.slice As (spl t.f.sorts t.f.sorts.length).length cs') (.slice Ac t.cs.length cc) (.slice Ai t.ind.length ci) (.slice Aw t.words.length cw) (F : Int) (G : Int) (.slice Al lf.length cz)) 118)
    have hXP2 : XP (W1.alloc (.cells (tks t (.slice Av t.f.sorts.length cv) (.slice As (spl t.f.sorts t.f.sorts.length).length cs') (.slice Ac t.cs.length cc) (.slice Ai t.ind.length ci) (.slice Aw t.words.length cw) (F : Int) (G : Int) (.slice Al lf.length cz)) 118)) t.f (.slice Av t.f.sorts.length cv) (.slice As (spl t.f.sorts t.f.sorts.length).length cs') (.slice Al lf.length cz) (qsF t.f lf) (spl t.f.sorts t.f.sorts.length) lf :=
      ⟨hXP.s.below hbz, hXP.p.below hbz, hXP.l.below hbz, hXP.few, hXP.sp8, hXP.inF, hXP.lok, hXP.qlen, hXP.qat, hXP.wdp, hXP.asc⟩
    have hT2 := HT1.out.below hbz
    have HCH := Lib.hid (choose_any t hXP2 hT2.c hT2.i hT2.w F G HG.out hFb)
    have HZ := Lib.hid hz
    have HBZ := Lib.hid hbz
    have HT2 := Lib.hid hT2
    have HK2 := Lib.hid (HK1.out.below hbz HK1.out.lt)
    have HR2 := Lib.hid (HR1.out.below hbz HR1.out.lt)
    have HB2 := Lib.hid (HB1.out.trans (hbz.mono HB1.out.size))
    clear hok hlf hoe hlok hf0 hf1 hF hvs hvl hXP hGe hXP2 hT2 hz hbz
    go_upto_region 4 with fail
    have HGL : Hid (w.heap.size + 1 < W1.heap.size) := HR1.out.lt
    have HSZ2 : Hid ((W1.alloc (.cells (tks t (.slice Av t.f.sorts.length cv) (.slice As (spl t.f.sorts t.f.sorts.length).length cs') (.slice Ac t.cs.length cc) (.slice Ai t.ind.length ci) (.slice Aw t.words.length cw) (F : Int) (G : Int) (.slice Al lf.length cz)) 118)).heap.size = W1.heap.size + 1) := (show _ = _ by simp)
    have HVS2 := Lib.hid (HXP.out.p.below HBZ.out)
    generalize W1.alloc (.cells (tks t (.slice Av t.f.sorts.length cv) (.slice As (spl t.f.sorts t.f.sorts.length).length cs') (.slice Ac t.cs.length cc) (.slice Ai t.ind.length ci) (.slice Aw t.words.length cw) (F : Int) (G : Int) (.slice Al lf.length cz)) 118) = W2 at *
    generalize W1.heap.size = g4 at *
    have y0 := HZ.out.cell 0
    have y1 := HZ.out.cell 1
    have y2 := HZ.out.cell 2
    have y3 := HZ.out.cell 3
    have y4 := HZ.out.cell 4
    have y5 := HZ.out.cell 5
    have y6 := HZ.out.cell 6
    have y7 := HZ.out.cell 7
    have y8 := HZ.out.cell 8
    have y9 := HZ.out.cell 9
    have y10 := HZ.out.cell 10
    have y11 := HZ.out.cell 11
    have y12 := HZ.out.cell 12
    have y13 := HZ.out.cell 13
    have yl := HZ.out.lt
    clear HK1 HR1 HB1 HT1
    go_wp2_with fail
    refine HCH.out.mono ?_
    rintro e W3 ⟨hb3, hans⟩
    have HB3 := Lib.hid (HB2.out.trans (hb3.mono HB2.out.size))
    have HT3 := Lib.hid (HT2.out.below hb3)
    have HK3 := Lib.hid (HK2.out.below hb3 HK2.out.lt)
    have HR3 := Lib.hid (HR2.out.below hb3 HR2.out.lt)
    have HZ3 := Lib.hid (HZ.out.below hb3 HZ.out.lt)
    have HVS3 := Lib.hid (HVS2.out.below hb3)
    have HSZ3 : Hid (g4 < W3.heap.size) := (show _ < _ from HZ3.out.lt)
    have HCE : Hid (chzT t lf = fewS (qsF t.f lf) F G (2 * G + 1)) := (show _ = _ from by unfold chzT; rw [HF.out, HGE.out]; rfl)
    clear hb3 HCH HZ HK2 HR2 HT2 HVS2 HBZ y0 y1 y2 y3 y4 y5 y6 y7 y8 y9 y10 y11 y12 y13 yl
    have r0 := HR3.out.cell 0
    have r1 := HR3.out.cell 1
    have z0 := Blk.frozen HR3.out 0
    have z1 := Blk.frozen HR3.out 1
    have rl := HR3.out.lt
    rcases hans with ⟨hno, rfl⟩ | ⟨r, vC, hyes, rfl, hioC⟩
    · have HN := Lib.hid hno
      clear hno
      go_wp2_with fail
      refine bodyPost_ret (ju_res (HR3.out.two (.int .i64 0) (.slice none 0 0)) rfl _ rfl) rfl ?_
      exact ⟨below_two HB3.out (by omega) _ _, .inr ⟨HOE.out, lf, HLF.out, .inl ⟨HCE.out.trans HN.out, rfl⟩⟩⟩
    · have hcz := chz_ok HOK.out.f HLO.out (m := 2 * G) hyes
      have HCZ := Lib.hid hcz
      have HYES := Lib.hid hyes
      have HIC := Lib.hid hioC
      obtain ⟨AC, cC, rfl⟩ := hioC.shape
      have hcn : (putR (List.replicate t.f.sorts.length 0) (spl t.f.sorts t.f.sorts.length) r).length = t.f.sorts.length := hcz.len
      have HCK : Hid (CsOk t.f.sorts.length (putR (List.replicate t.f.sorts.length 0) (spl t.f.sorts t.f.sorts.length) r)) := (show CsOk _ _ from ⟨hcn, fun i hi => by
        have h1 := hcz.lim i hi
        have h2 := HLO.out.2 i hi
        rcases h1.2 with h | h <;> omega⟩)
      have HCT : Hid (cntT t r = putR (List.replicate t.f.sorts.length 0) (spl t.f.sorts t.f.sorts.length) r) := rfl
      clear hyes hioC hcz
      generalize putR (List.replicate t.f.sorts.length 0) (spl t.f.sorts t.f.sorts.length) r = cnt at *
      have HKS : Hid (∀ W, Below W3.heap.size W3 W → (W.cell? ⟨w.heap.size, 6, none⟩ = some (.int .i64 t.me) ∧ W.cell? ⟨w.heap.size, 4, none⟩ = some (.slice Ai t.ind.length ci) ∧ W.cell? ⟨w.heap.size, 5, none⟩ = some (.slice Aw t.words.length cw) ∧ W.cell? ⟨g4, 0, none⟩ = some (.string t.f.name) ∧ W.cell? ⟨g4, 1, none⟩ = some (.int .i64 t.f.body) ∧ W.cell? ⟨g4, 2, none⟩ = some (.slice Av t.f.sorts.length cv) ∧ W.cell? ⟨g4, 3, none⟩ = some (.slice As (spl t.f.sorts t.f.sorts.length).length cs') ∧ W.cell? ⟨g4, 12, none⟩ = some (.int .i64 (G : Int)))) := (show ∀ W, _ from fun W hW => by
        have h := HK3.out.below hW HK3.out.lt
        have h2 := HZ3.out.below hW HZ3.out.lt
        exact ⟨h.cell 6, h.cell 4, h.cell 5, h2.cell 0, h2.cell 1, h2.cell 2, h2.cell 3, h2.cell 12⟩)
      have HC58 : Hid (∀ W, Below W3.heap.size W3 W → Calls Try.prog 58 #[.agg (xfs t.f (.slice Av t.f.sorts.length cv) (.slice As (spl t.f.sorts t.f.sorts.length).length cs')), .slice AC cnt.length cC, .int .i64 (G : Int)] W (LvPost W (sprR t.f cnt G))) := (show ∀ W, _ from fun W hW => spread_any t.f _ _ cnt _ G W (HT3.out.s.below hW) (HVS3.out.below hW) ((HIC.out.iv).below hW) HOK.out.f (by have := HOK.out.k; omega) HCK.out (by have := HCZ.out.num.2; omega) (by have := HG.out; omega))
      have hsl : (sprR t.f cnt G).length = G := (spr_ok t.f (widR t.f cnt) G (by have := HCZ.out.num.2; omega) _ (Nat.le_refl _)).len
      have hperm := (spr_ok t.f (widR t.f cnt) G (by have := HCZ.out.num.2; omega) _ (Nat.le_refl _)).perm
      have hjl : (joinK t.ind t.words (sprR t.f cnt G) t.words.length).length ≤ 1000 := by
        have h1 := (joinK_perm t.ind t.words (sprR t.f cnt G) t.words.length (Nat.le_refl _) (by rw [hsl]; have := HGE.out; omega)).length_eq
        rw [h1, List.length_append, List.length_append, List.take_length]
        have h2 : (sprR t.f cnt G).take (t.words.length - 1) = sprR t.f cnt G := List.take_of_length_le (by rw [hsl, HGE.out]; exact Nat.le_refl _)
        rw [h2]
        have h3 : (sprR t.f cnt G).flatten.length = (widR t.f cnt).length := by
          have := hperm.length_eq
          rw [List.take_length] at this
          exact this
        rw [h3]
        have h4 := HOK.out.all
        unfold sumL at h4
        rw [List.take_length] at h4
        have h5 := HCZ.out.num.2
        have h6 := HG.out
        omega
      have HC57 : Hid (∀ W u, Below W3.heap.size W3 W → LV W (sprR t.f cnt G) u → Calls Try.prog 57 #[.slice Ai t.ind.length ci, .slice Aw t.words.length cw, u] W (CloPost W (joinK t.ind t.words (sprR t.f cnt G) t.words.length))) := (show ∀ W u, _ from fun W u hW hu => join_any t.ind t.words (sprR t.f cnt G) _ _ u W (HT3.out.i.below hW) (HT3.out.w.below hW) hu (by rw [hsl]; have := HGE.out; omega) (by have := HOK.out.w30; omega) (by omega))
      have HJL : Hid (justL t r = joinK t.ind t.words (sprR t.f cnt G) t.words.length) := (show _ = _ from by unfold justL; rw [HCT.out, HGE.out])
      clear hsl hperm hjl hcn
      go_upto_region 7 with fail
      have hbd : Below W3.heap.size W3 W3.drew := (Below.refl _ _).drew
      have hS0 := HKS.out _ hbd
      refine wp_region_split (fun W => (W.cell? ⟨w.heap.size, 6, none⟩ = some (.int .i64 t.me) ∧ W.cell? ⟨w.heap.size, 4, none⟩ = some (.slice Ai t.ind.length ci) ∧ W.cell? ⟨w.heap.size, 5, none⟩ = some (.slice Aw t.words.length cw) ∧ W.cell? ⟨g4, 0, none⟩ = some (.string t.f.name) ∧ W.cell? ⟨g4, 1, none⟩ = some (.int .i64 t.f.body) ∧ W.cell? ⟨g4, 2, none⟩ = some (.slice Av t.f.sorts.length cv) ∧ W.cell? ⟨g4, 3, none⟩ = some (.slice As (spl t.f.sorts t.f.sorts.length).length cs') ∧ W.cell? ⟨g4, 12, none⟩ = some (.int .i64 (G : Int)))) 14 (by kernel_rfl) (by decide) ?_
      refine wpG_take 14 0 (v := ?_) rfl (by kernel_rfl) (fun _ _ _ h => h) (Or.inl ⟨by rfl, ?_⟩) (by assumption) ?_
      rotate_left
      · intro w hSw; (try dsimp only at hSw); go_simp; (try with_reducible rfl)
      (try simp only [Act.put, List.getElem_toArray, List.getElem_cons_zero, List.getElem_cons_succ, List.setIfInBounds_toArray, List.set_cons_zero, List.set_cons_succ])
      refine wpG_take 14 1 (v := ?_) rfl (by kernel_rfl) (fun _ _ _ h => h) (Or.inl ⟨by rfl, ?_⟩) (by assumption) ?_
      rotate_left
      · intro w hSw; (try dsimp only at hSw); go_simp; (try with_reducible rfl)
      (try simp only [Act.put, List.getElem_toArray, List.getElem_cons_zero, List.getElem_cons_succ, List.setIfInBounds_toArray, List.set_cons_zero, List.set_cons_succ])
      refine wpG_take 14 2 (v := ?_) rfl (by kernel_rfl) (fun _ _ _ h => h) (Or.inl ⟨by rfl, ?_⟩) (by assumption) ?_
      rotate_left
      · intro w hSw; (try dsimp only at hSw); go_simp; (try with_reducible rfl)
      (try simp only [Act.put, List.getElem_toArray, List.getElem_cons_zero, List.getElem_cons_succ, List.setIfInBounds_toArray, List.set_cons_zero, List.set_cons_succ])
      refine wpG_take 14 3 (v := ?_) rfl (by kernel_rfl) (fun _ _ _ h => h) (Or.inl ⟨by rfl, ?_⟩) (by assumption) ?_
      rotate_left
      · intro w hSw; (try dsimp only at hSw); go_simp; (try with_reducible rfl)
      (try simp only [Act.put, List.getElem_toArray, List.getElem_cons_zero, List.getElem_cons_succ, List.setIfInBounds_toArray, List.set_cons_zero, List.set_cons_succ])
      refine wpG_take 14 4 (v := ?_) rfl (by kernel_rfl) (fun _ _ _ h => h) (Or.inl ⟨by rfl, ?_⟩) (by assumption) ?_
      rotate_left
      · intro w hSw; (try dsimp only at hSw); go_simp; (try with_reducible rfl)
      (try simp only [Act.put, List.getElem_toArray, List.getElem_cons_zero, List.getElem_cons_succ, List.setIfInBounds_toArray, List.set_cons_zero, List.set_cons_succ])
      refine wpG_take 14 5 (v := ?_) rfl (by kernel_rfl) (fun _ _ _ h => h) (Or.inl ⟨by rfl, ?_⟩) (by assumption) ?_
      rotate_left
      · intro w hSw; (try dsimp only at hSw); go_simp; (try with_reducible rfl)
      (try simp only [Act.put, List.getElem_toArray, List.getElem_cons_zero, List.getElem_cons_succ, List.setIfInBounds_toArray, List.set_cons_zero, List.set_cons_succ])
      refine wpG_take 14 6 (v := ?_) rfl (by kernel_rfl) (fun _ _ _ h => h) (Or.inl ⟨by rfl, ?_⟩) (by assumption) ?_
      rotate_left
      · intro w hSw; (try dsimp only at hSw); go_simp; (try with_reducible rfl)
      (try simp only [Act.put, List.getElem_toArray, List.getElem_cons_zero, List.getElem_cons_succ, List.setIfInBounds_toArray, List.set_cons_zero, List.set_cons_succ])
      refine wpG_take 14 7 (v := ?_) rfl (by kernel_rfl) (fun _ _ _ h => h) (Or.inl ⟨by rfl, ?_⟩) (by assumption) ?_
      rotate_left
      · intro w hSw; (try dsimp only at hSw); go_simp; (try with_reducible rfl)
      (try simp only [Act.put, List.getElem_toArray, List.getElem_cons_zero, List.getElem_cons_succ, List.setIfInBounds_toArray, List.set_cons_zero, List.set_cons_succ])
      refine wpG_take 14 8 (v := ?_) rfl (by kernel_rfl) (fun _ _ _ h => h) (Or.inl ⟨by rfl, ?_⟩) (by assumption) ?_
      rotate_left
      · intro w hSw; (try dsimp only at hSw); go_simp; (try with_reducible rfl)
      (try simp only [Act.put, List.getElem_toArray, List.getElem_cons_zero, List.getElem_cons_succ, List.setIfInBounds_toArray, List.set_cons_zero, List.set_cons_succ])
      refine wpG_take 14 9 (v := ?_) rfl (by kernel_rfl) (fun _ _ _ h => h) (Or.inl ⟨by rfl, ?_⟩) (by assumption) ?_
      rotate_left
      · intro w hSw; (try dsimp only at hSw); go_simp; (try with_reducible rfl)
      (try simp only [Act.put, List.getElem_toArray, List.getElem_cons_zero, List.getElem_cons_succ, List.setIfInBounds_toArray, List.set_cons_zero, List.set_cons_succ])
      refine wpG_take 14 10 (v := ?_) rfl (by kernel_rfl) (fun _ _ _ h => h) (Or.inl ⟨by rfl, ?_⟩) (by assumption) ?_
      rotate_left
      · intro w hSw; (try dsimp only at hSw); go_simp; (try with_reducible rfl)
      (try simp only [Act.put, List.getElem_toArray, List.getElem_cons_zero, List.getElem_cons_succ, List.setIfInBounds_toArray, List.set_cons_zero, List.set_cons_succ])
      refine wpG_one (i := 11) (by kernel_rfl) ?_
      refine wpOp_step rfl (fun K hK => ?_)
      go_simp
      go_at_call 58
      (with_reducible refine (HC58.out _ hbd).mono ?_)
      rintro e w5 ⟨u5, rfl, hlv5, hb5'⟩
      have hb5 : Below W3.heap.size W3 w5 := hbd.trans (hb5'.mono hbd.size)
      have n5 := HKS.out w5 hb5
      obtain ⟨A5, c5, rfl, -, -⟩ := hlv5.shape
      (try dsimp only)
      refine hK _ _ ⟨n5, ?_⟩
      clear hK K
      (try simp only [Act.put, List.getElem_toArray, List.getElem_cons_zero, List.getElem_cons_succ, List.setIfInBounds_toArray, List.set_cons_zero, List.set_cons_succ])
      refine wpG_one (i := 12) (by kernel_rfl) ?_
      refine wpOp_step rfl (fun K hK => ?_)
      go_simp
      go_at_call 57
      (with_reducible refine (HC57.out _ _ hb5 hlv5).mono ?_)
      rintro e w6 ⟨u6, rfl, hio6, hb6'⟩
      have hb6 : Below W3.heap.size W3 w6 := hb5.trans (hb6'.mono hb5.size)
      have n6 := HKS.out w6 hb6
      obtain ⟨A6, c6, rfl⟩ := hio6.shape
      (try dsimp only)
      refine hK _ _ ⟨n6, ?_⟩
      clear hK K
      (try simp only [Act.put, List.getElem_toArray, List.getElem_cons_zero, List.getElem_cons_succ, List.setIfInBounds_toArray, List.set_cons_zero, List.set_cons_succ])
      refine wpG_take 14 13 (v := ?_) rfl (by kernel_rfl) (fun _ _ _ h => h) (Or.inl ⟨by rfl, ?_⟩) (by assumption) ?_
      rotate_left
      · intro w hSw; (try dsimp only at hSw); go_simp; (try with_reducible rfl)
      (try simp only [Act.put, List.getElem_toArray, List.getElem_cons_zero, List.getElem_cons_succ, List.setIfInBounds_toArray, List.set_cons_zero, List.set_cons_succ])
      refine ⟨by kernel_rfl, ?_⟩
      simp only [List.drop_succ_cons, List.drop_zero]
      have HR6 := Lib.hid (HR3.out.below hb6 HR3.out.lt)
      have HB6 := Lib.hid (HB3.out.trans (hb6.mono HB3.out.size))
      have q0 := HR6.out.cell 0
      have q1 := HR6.out.cell 1
      have p0 := Blk.frozen HR6.out 0
      have p1 := Blk.frozen HR6.out 1
      have ql := HR6.out.lt
      have HIO6 : Hid (IO w6 (w.heap.size + 2) (justL t r) (.slice A6 (joinK t.ind t.words (sprR t.f cnt G) t.words.length).length c6)) := (show IO _ _ _ _ from by
        rw [HJL.out]
        exact hio6.base (by have := hb5.size; have := HSZ3.out; have := HGL.out; omega))
      clear r0 r1 z0 z1 rl hb5 hb5' hb6 hb6' n5 n6 hS0 hlv5 hio6
      go_wp2_with fail
      refine bodyPost_ret (ju_res (HR6.out.two _ _) rfl _ rfl) rfl ?_
      refine ⟨below_two HB6.out (by omega) _ _, .inr ⟨HOE.out, lf, HLF.out, .inr ⟨r, _, HCE.out.trans HYES.out, rfl, ?_⟩⟩⟩
      refine World.ownsRow.mono (base := w.heap.size + 2) ?_ (by omega)
      exact ownsRow_setCell_below (ownsRow_setCell_below HIO6.out (by show w.heap.size + 1 < _; omega) _) (by show w.heap.size + 1 < _; omega) _
end Go.Proofs.Ytefjhhgfkdkfaaa
