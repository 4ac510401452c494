/- Pieces just as large as their points: chains, and the driving of quoins that are slackened (plain). -/
import Derived.Test.YtlfeoofchebbkaaDrk
namespace Go.Proofs.Ytlfeoofchebbkaa
set_option linter.unusedSimpArgs false
set_option linter.unusedVariables false
namespace Dir
/-- No piece is larger than its points. -/
def Most (D : Dir) : Prop := ∀ i, i < D.n → D.s i ≤ 60 * (D.e i - D.b i)
def Just (D : Dir) : Prop := ∀ i, i < D.n → D.s i = 60 * (D.e i - D.b i)
theorem T_most {D : Dir} (wf : D.WF) (h : D.Most) : ∀ (m i : Nat), i < D.n → (D.side - D.b i).toNat < m → D.T i ≤ 60 * (D.side - D.e i) + D.s i := by
  intro m
  induction m with
  | zero => intro i _ hm; omega
  | succ m ih =>
    intro i hi hm
    have he := wf.e1 i hi
    have hbe := wf.be1 i hi
    rw [T_eq wf i hi]
    have : maxTo D.n (fun k => if D.leads i k then D.T k else 0) ≤ 60 * (D.side - D.e i) := maxTo_le (by omega) fun k hk => by
      show (if D.leads i k = true then D.T k else 0) ≤ _
      by_cases hl : D.leads i k = true
      · rw [if_pos hl]
        have hb := leads_b hl
        have := wf.be1 k hk
        have := wf.e1 k hk
        have h1 := ih k hk (by omega)
        have h2 := h k hk
        omega
      · rw [if_neg hl]; omega
    omega
theorem T_just {D : Dir} (wf : D.WF) (fu : D.Full) (h : D.Just) : ∀ (m i : Nat), i < D.n → (D.side - D.b i).toNat < m → D.T i = 60 * (D.side - D.b i) := by
  intro m
  induction m with
  | zero => intro i _ hm; omega
  | succ m ih =>
    intro i hi hm
    have he := wf.e1 i hi
    have hbe := wf.be1 i hi
    have h1 := T_most wf (fun i hi => Int.le_of_eq (h i hi)) (m + 1) i hi hm
    have h2 := h i hi
    by_cases hes : D.e i = D.side
    · have := (T_pos wf i hi).1
      omega
    · obtain ⟨k, hk, hl⟩ := fu.right i hi hes
      have hb := leads_b hl
      have := wf.be1 k hk
      have := wf.e1 k hk
      have h3 := ih k hk (by omega)
      have h4 : (fun k => if D.leads i k = true then D.T k else 0) k ≤ maxTo D.n (fun k => if D.leads i k then D.T k else 0) := le_maxTo hk
      have h5 : (fun k => if D.leads i k = true then D.T k else 0) k = D.T k := if_pos hl
      rw [h5] at h4
      have h6 := T_eq wf i hi
      omega
theorem mir_s (D : Dir) (i : Nat) : D.mir.s i = D.s i := rfl
theorem mir_n (D : Dir) : D.mir.n = D.n := rfl
theorem mir_most {D : Dir} (wf : D.WF) (h : D.Most) : D.mir.Most := fun i hi => by
  rw [mir_s, mir_b wf hi, mir_e wf hi]
  have := h i hi
  omega
theorem mir_just {D : Dir} (wf : D.WF) (h : D.Just) : D.mir.Just := fun i hi => by
  rw [mir_s, mir_b wf hi, mir_e wf hi]
  have := h i hi
  omega
theorem mir_full {D : Dir} (wf : D.WF) (fu : D.Full) : D.mir.Full where
  some := fu.some
  left := fun i hi hb => by
    rw [mir_b wf hi] at hb
    obtain ⟨k, hk, hl⟩ := fu.right i hi (by omega)
    exact ⟨k, hk, by rw [mir_leads wf hk hi]; exact hl⟩
  right := fun i hi he => by
    rw [mir_e wf hi] at he
    obtain ⟨k, hk, hl⟩ := fu.left i hi (fun h => he (by show D.side - D.b i = D.side; omega))
    exact ⟨k, hk, by rw [mir_leads wf hi hk]; exact hl⟩
theorem Hd_most {D : Dir} (wf : D.WF) (h : D.Most) {i : Nat} (hi : i < D.n) : D.Hd i ≤ 60 * D.b i + D.s i := by
  have := T_most (mir_wf wf) (mir_most wf h) _ i hi (Nat.lt_succ_self _)
  rw [mir_e wf hi, mir_s] at this
  have e : D.mir.side = D.side := rfl
  rw [e] at this
  unfold Hd
  omega
theorem thr_most {D : Dir} (wf : D.WF) (h : D.Most) {i : Nat} (hi : i < D.n) : D.thr i ≤ 60 * D.side - (60 * (D.e i - D.b i) - D.s i) := by
  have h1 := Hd_most wf h hi
  have h2 := T_most wf h _ i hi (Nat.lt_succ_self _)
  unfold thr
  omega
theorem thr_just {D : Dir} (wf : D.WF) (fu : D.Full) (h : D.Just) {i : Nat} (hi : i < D.n) : D.thr i = 60 * D.side := by
  have h1 := T_just (mir_wf wf) (mir_full wf fu) (mir_just wf h) _ i hi (Nat.lt_succ_self _)
  rw [mir_b wf hi] at h1
  have e : D.mir.side = D.side := rfl
  rw [e] at h1
  have h2 := T_just wf fu h _ i hi (Nat.lt_succ_self _)
  have h3 := h i hi
  unfold thr Hd
  omega
theorem fits_most {D : Dir} (wf : D.WF) (h : D.Most) : D.fits := fun i hi => by
  have h1 := thr_most wf h hi
  have h2 := h i hi
  omega
end Dir
/-- Sizes as large as their points, but for some travel of the quoins. -/
def slack (f : Forme) (n : Nat → Int) : Real where
  ws := (List.range f.ps.length).map fun i => 60 * (gp f.ps i).w - if (gp f.ps i).kind = 3 then n i else 0
  hs := (List.range f.ps.length).map fun i => 60 * (gp f.ps i).h - if (gp f.ps i).kind = 4 then n i else 0
  ts := (List.range f.ps.length).map n
/-- Right travels: of quoins alone, less than their sizes. -/
structure Slk (f : Forme) (n : Nat → Int) : Prop where
  n0 : ∀ i, i < f.ps.length → 0 ≤ n i
  n6 : ∀ i, i < f.ps.length → n i ≤ 6000
  q : ∀ i, i < f.ps.length → (gp f.ps i).kind ≠ 3 → (gp f.ps i).kind ≠ 4 → n i = 0
  w : ∀ i, i < f.ps.length → (gp f.ps i).kind = 3 → n i < 60 * (gp f.ps i).w
  h : ∀ i, i < f.ps.length → (gp f.ps i).kind = 4 → n i < 60 * (gp f.ps i).h
section
variable {f : Forme} {n : Nat → Int} {i : Nat}
theorem gzr (g : Nat → Int) {m i : Nat} (h : i < m) : gz ((List.range m).map g) i = g i := by
  rw [gz, List.getD_eq_getElem?_getD, List.getElem?_map, List.getElem?_range h]; rfl
theorem slack_w (hi : i < f.ps.length) : gz (slack f n).ws i = 60 * (gp f.ps i).w - if (gp f.ps i).kind = 3 then n i else 0 := gzr _ hi
theorem slack_h (hi : i < f.ps.length) : gz (slack f n).hs i = 60 * (gp f.ps i).h - if (gp f.ps i).kind = 4 then n i else 0 := gzr _ hi
theorem slack_t (hi : i < f.ps.length) : gz (slack f n).ts i = n i := gzr _ hi
theorem piece_mem (hi : i < f.ps.length) : gp f.ps i ∈ f.ps := by
  rw [gp, List.getD_eq_getElem?_getD, List.getElem?_eq_getElem hi]; exact List.getElem_mem hi
theorem dir_b (f : Forme) (ws : List Int) (hi : i < f.ps.length) : (across f ws).b i = (gp f.ps i).x ∧ (across f ws).e i = (gp f.ps i).x + (gp f.ps i).w ∧ (across f ws).s i = gz ws i := by
  exact ⟨by simp [Dir.b, across, List.getD_eq_getElem?_getD, hi, gp], by simp [Dir.e, across, List.getD_eq_getElem?_getD, hi, gp], rfl⟩
theorem dir_d (f : Forme) (ws : List Int) (hi : i < f.ps.length) : (down f ws).b i = (gp f.ps i).y ∧ (down f ws).e i = (gp f.ps i).y + (gp f.ps i).h ∧ (down f ws).s i = gz ws i := by
  exact ⟨by simp [Dir.b, down, List.getD_eq_getElem?_getD, hi, gp], by simp [Dir.e, down, List.getD_eq_getElem?_getD, hi, gp], rfl⟩
theorem slack_len (f : Forme) (n : Nat → Int) : (slack f n).ws.length = f.ps.length ∧ (slack f n).hs.length = f.ps.length ∧ (slack f n).ts.length = f.ps.length := by simp [slack]
theorem slack_sized (hf : f.Laid) (h : Slk f n) : Sized f (slack f n).ws ∧ Sized f (slack f n).hs := by
  obtain ⟨l1, l2, l3⟩ := slack_len f n
  refine ⟨⟨l1, fun z hz => ?_⟩, ⟨l2, fun z hz => ?_⟩⟩
  · obtain ⟨i, hi, rfl⟩ := List.mem_iff_getElem.1 hz
    rw [l1] at hi
    rw [← gz_get (by omega), slack_w hi]
    have h1 := h.w i hi
    have h2 := (hf.inn _ (piece_mem hi)).1
    split
    · have := h1 ‹_›; omega
    · omega
  · obtain ⟨i, hi, rfl⟩ := List.mem_iff_getElem.1 hz
    rw [l2] at hi
    rw [← gz_get (by omega), slack_h hi]
    have h1 := h.h i hi
    have h2 := (hf.inn _ (piece_mem hi)).2.1
    split
    · have := h1 ‹_›; omega
    · omega
theorem slack_most (h : Slk f n) : (across f (slack f n).ws).Most ∧ (down f (slack f n).hs).Most := by
  obtain ⟨l1, l2, l3⟩ := slack_len f n
  refine ⟨fun i hi => ?_, fun i hi => ?_⟩
  · have hi' : i < f.ps.length := by rw [← l1]; exact hi
    obtain ⟨e1, e2, e3⟩ := dir_b f (slack f n).ws hi'
    rw [e1, e2, e3, slack_w hi']
    have := h.n0 i hi'
    split <;> omega
  · have hi' : i < f.ps.length := by rw [← l2]; exact hi
    obtain ⟨e1, e2, e3⟩ := dir_d f (slack f n).hs hi'
    rw [e1, e2, e3, slack_h hi']
    have := h.n0 i hi'
    split <;> omega
theorem slack_okay (hr : f.Right) (hf : areas f.ps = f.W * f.H) (h : Slk f n) : Okay f (slack f n) := by
  obtain ⟨l1, l2, l3⟩ := slack_len f n
  obtain ⟨s1, s2⟩ := slack_sized hr.toLaid h
  have w1 := hr.w2
  have w2 := hr.h2
  refine ⟨hr, hf, s1, s2, l3, fun z hz => ?_, fun z hz => ?_, fun i hi => ?_, fun i hi ht => ?_⟩
  · obtain ⟨i, hi, rfl⟩ := List.mem_iff_getElem.1 hz
    rw [l1] at hi
    rw [← gz_get (by omega), slack_w hi]
    have h1 := h.n0 i hi
    obtain ⟨_, _, h3, _, h5, _⟩ := hr.inn _ (piece_mem hi)
    split <;> omega
  · obtain ⟨i, hi, rfl⟩ := List.mem_iff_getElem.1 hz
    rw [l2] at hi
    rw [← gz_get (by omega), slack_h hi]
    have h1 := h.n0 i hi
    obtain ⟨_, _, _, h4, _, h6⟩ := hr.inn _ (piece_mem hi)
    split <;> omega
  · rw [l3] at hi
    rw [slack_t hi]
    exact ⟨h.n0 i hi, h.n6 i hi⟩
  · rw [slack_t hi] at ht
    unfold isQ
    by_cases h3 : (gp f.ps i).kind = 3
    · simp [h3]
    · by_cases h4 : (gp f.ps i).kind = 4
      · simp [h4]
      · exact absurd (h.q i hi h3 h4) ht
theorem slack_check (hc : (checkF f).2 = 0) (hf : areas f.ps = f.W * f.H) (h : Slk f n) : checkR f (slack f n) = (0, 0) := by
  have hr := checkF_zero hc
  have hok := slack_okay hr hf h
  obtain ⟨m1, m2⟩ := slack_most h
  have w1 := hr.w1
  have w2 := hr.h1
  exact checkR_of hc hok ((Dir.fits_maxT (across_wf hr.toLaid hok.ws) (by show 0 ≤ f.W; omega)).1 (Dir.fits_most (across_wf hr.toLaid hok.ws) m1)) ((Dir.fits_maxT (down_wf hr.toLaid hok.hs) (by show 0 ≤ f.H; omega)).1 (Dir.fits_most (down_wf hr.toLaid hok.hs) m2))
theorem set_rng {m k : Nat} (g : Nat → Int) (v : Int) : ((List.range m).map g).set k v = (List.range m).map fun i => if i = k then v else g i := by
  apply List.ext_getElem
  · simp
  · intro i h1 h2
    simp only [List.getElem_set, List.getElem_map, List.getElem_range]
    by_cases e : k = i
    · rw [if_pos e, if_pos e.symm]
    · rw [if_neg e, if_neg (fun h => e h.symm)]
theorem drive_slack (hr : f.Right) (h : Slk f n) {k : Nat} (hk : k < f.ps.length) : (slack f n).drive f k = slack f (fun i => if i = k then 0 else n i) := by
  obtain ⟨l1, l2, l3⟩ := slack_len f n
  obtain ⟨s1, s2⟩ := slack_sized hr.toLaid h
  obtain ⟨m1, m2⟩ := slack_most h
  have hn0 := h.n0 k hk
  have ht : (slack f n).ts.getD k 0 = n k := slack_t hk
  unfold Real.drive
  by_cases h3 : (gp f.ps k).kind = 3
  · rw [if_pos (show (f.ps.getD k default).kind = 3 from h3)]
    have hw : (slack f n).ws.getD k 0 = 60 * (gp f.ps k).w - n k := by
      have := slack_w (n := n) hk
      rw [if_pos h3] at this
      exact this
    have hth := Dir.thr_most (across_wf hr.toLaid s1) m1 (i := k) (by show k < (slack f n).ws.length; omega)
    obtain ⟨e1, e2, e3⟩ := dir_b f (slack f n).ws hk
    rw [e1, e2, e3] at hth
    have hw' : gz (slack f n).ws k = 60 * (gp f.ps k).w - n k := hw
    rw [hw'] at hth
    have es : (across f (slack f n).ws).side = f.W := rfl
    rw [es] at hth
    have hmin : min ((slack f n).ts.getD k 0) (60 * f.W - (across f (slack f n).ws).thr k) = n k := by rw [ht]; omega
    simp only [hmin]
    rw [hw, ht]
    show Real.mk _ _ _ = Real.mk _ _ _
    congr 1
    · show ((List.range _).map _).set k _ = _
      rw [set_rng]
      apply List.map_congr_left
      intro i hi
      try dsimp only
      by_cases e : i = k
      · subst e; rw [if_pos rfl, if_pos rfl]; split <;> omega
      · rw [if_neg e, if_neg e]
    · show (List.range _).map _ = _
      apply List.map_congr_left
      intro i hi
      try dsimp only
      by_cases e : i = k
      · subst e; rw [if_neg (by omega), if_neg (by omega)]
      · rw [if_neg e]
    · show ((List.range _).map _).set k _ = _
      rw [set_rng]
      apply List.map_congr_left
      intro i hi
      try dsimp only
      by_cases e : i = k
      · rw [if_pos e, if_pos e]; omega
      · rw [if_neg e, if_neg e]
  · rw [if_neg (show ¬ (f.ps.getD k default).kind = 3 from h3)]
    by_cases h4 : (gp f.ps k).kind = 4
    · rw [if_pos (show (f.ps.getD k default).kind = 4 from h4)]
      have hw : (slack f n).hs.getD k 0 = 60 * (gp f.ps k).h - n k := by
        have := slack_h (n := n) hk
        rw [if_pos h4] at this
        exact this
      have hth := Dir.thr_most (down_wf hr.toLaid s2) m2 (i := k) (by show k < (slack f n).hs.length; omega)
      obtain ⟨e1, e2, e3⟩ := dir_d f (slack f n).hs hk
      rw [e1, e2, e3] at hth
      have hw' : gz (slack f n).hs k = 60 * (gp f.ps k).h - n k := hw
      rw [hw'] at hth
      have es : (down f (slack f n).hs).side = f.H := rfl
      rw [es] at hth
      have hmin : min ((slack f n).ts.getD k 0) (60 * f.H - (down f (slack f n).hs).thr k) = n k := by rw [ht]; omega
      simp only [hmin]
      rw [hw, ht]
      show Real.mk _ _ _ = Real.mk _ _ _
      congr 1
      · show (List.range _).map _ = _
        apply List.map_congr_left
        intro i hi
        try dsimp only
        by_cases e : i = k
        · subst e; rw [if_neg (by omega), if_neg (by omega)]
        · rw [if_neg e]
      · show ((List.range _).map _).set k _ = _
        rw [set_rng]
        apply List.map_congr_left
        intro i hi
        try dsimp only
        by_cases e : i = k
        · subst e; rw [if_pos rfl, if_pos rfl]; split <;> omega
        · rw [if_neg e, if_neg e]
      · show ((List.range _).map _).set k _ = _
        rw [set_rng]
        apply List.map_congr_left
        intro i hi
        try dsimp only
        by_cases e : i = k
        · rw [if_pos e, if_pos e]; omega
        · rw [if_neg e, if_neg e]
    · rw [if_neg (show ¬ (f.ps.getD k default).kind = 4 from h4)]
      have h0 := h.q k hk h3 h4
      congr 1
      funext i
      by_cases e : i = k
      · rw [if_pos e, e, h0]
      · rw [if_neg e]
theorem Slk.sub (h : Slk f n) (p : Nat → Prop) [DecidablePred p] : Slk f (fun i => if p i then 0 else n i) where
  n0 i hi := by
    show 0 ≤ if p i then 0 else n i
    have := h.n0 i hi
    split <;> omega
  n6 i hi := by
    show (if p i then 0 else n i) ≤ 6000
    have := h.n6 i hi
    split <;> omega
  q i hi h3 h4 := by
    show (if p i then 0 else n i) = 0
    have := h.q i hi h3 h4
    split <;> omega
  w i hi h3 := by
    show (if p i then 0 else n i) < _
    have := h.w i hi h3
    have := h.n0 i hi
    split <;> omega
  h i hi h3 := by
    show (if p i then 0 else n i) < _
    have := h.h i hi h3
    have := h.n0 i hi
    split <;> omega
theorem driven_slack (hr : f.Right) (h : Slk f n) : ∀ k, k ≤ f.ps.length → (slack f n).driven f k = slack f (fun i => if i < k then 0 else n i)
  | 0, _ => by
    show slack f n = _
    congr 1
  | k + 1, hk => by
    show ((slack f n).driven f k).drive f k = _
    rw [driven_slack hr h k (by omega), drive_slack hr (h.sub (fun i => i < k)) (by omega)]
    congr 1
    funext i
    show (if i = k then (0 : Int) else if i < k then 0 else n i) = if i < k + 1 then 0 else n i
    by_cases e : i = k
    · rw [if_pos e, if_pos (by omega)]
    · rw [if_neg e]
      by_cases e2 : i < k
      · rw [if_pos e2, if_pos (by omega)]
      · rw [if_neg e2, if_neg (by omega)]
theorem slack_congr {m : Nat → Int} (h : ∀ i, i < f.ps.length → n i = m i) : slack f n = slack f m := by
  unfold slack
  congr 1 <;> (apply List.map_congr_left; intro i hi; rw [h i (List.mem_range.1 hi)])
theorem driven_all (hr : f.Right) (h : Slk f n) : (slack f n).driven f f.ps.length = slack f fun _ => 0 := by
  rw [driven_slack hr h _ (Nat.le_refl _)]
  exact slack_congr fun i hi => if_pos hi
theorem slk0 (hr : f.Laid) : Slk f fun _ => 0 where
  n0 _ _ := Int.le_refl _
  n6 _ _ := by show (0 : Int) ≤ 6000; omega
  q _ _ _ _ := rfl
  w i hi _ := by have := (hr.inn _ (piece_mem hi)).1; show (0 : Int) < _; omega
  h i hi _ := by have := (hr.inn _ (piece_mem hi)).2.1; show (0 : Int) < _; omega
theorem held3 (hr : f.Right) (hf : areas f.ps = f.W * f.H) (hi : i < f.ps.length) : heldA f (slack f fun _ => 0) i + heldD f (slack f fun _ => 0) i = 3 := by
  obtain ⟨l1, l2, l3⟩ := slack_len f fun _ => 0
  obtain ⟨s1, s2⟩ := slack_sized hr.toLaid (slk0 hr.toLaid)
  have hw : f.Whole := ⟨hr.toLaid, hf⟩
  have j1 : (across f (slack f fun _ => 0).ws).Just := fun k hk => by
    have hk' : k < f.ps.length := by rw [← l1]; exact hk
    obtain ⟨e1, e2, e3⟩ := dir_b f (slack f fun _ => 0).ws hk'
    rw [e1, e2, e3, slack_w hk']
    split <;> omega
  have j2 : (down f (slack f fun _ => 0).hs).Just := fun k hk => by
    have hk' : k < f.ps.length := by rw [← l2]; exact hk
    obtain ⟨e1, e2, e3⟩ := dir_d f (slack f fun _ => 0).hs hk'
    rw [e1, e2, e3, slack_h hk']
    split <;> omega
  have t1 := Dir.thr_just (across_wf hr.toLaid s1) (across_full hw s1) j1 (i := i) (by show i < (slack f fun _ => 0).ws.length; omega)
  have t2 := Dir.thr_just (down_wf hr.toLaid s2) (down_full hw s2) j2 (i := i) (by show i < (slack f fun _ => 0).hs.length; omega)
  unfold heldA heldD
  rw [if_pos (show _ = 60 * f.W from t1), if_pos (show _ = 60 * f.H from t2)]
  rfl
theorem loose0 (hr : f.Right) (hf : areas f.ps = f.W * f.H) : ∀ k, k ≤ f.ps.length → colTo (looseG fun j => heldA f (slack f fun _ => 0) j + heldD f (slack f fun _ => 0) j) k = []
  | 0, _ => rfl
  | k + 1, hk => by
    show colTo _ k ++ looseG _ k = []
    rw [loose0 hr hf k (by omega)]
    have h3 := held3 hr hf (i := k) (by omega)
    unfold looseG
    rw [if_neg (show ¬ (heldA f (slack f fun _ => 0) k + heldD f (slack f fun _ => 0) k = 0) by omega)]
    rfl
end
end Go.Proofs.Ytlfeoofchebbkaa
