/- Plain: a line that is found is right; what it leaves, and its need, are the case. -/
import Derived.Test.YtefjhhgfkdkfaaaJst
import Derived.Test.YtefjhhgfkdkfaaaCkl
import Derived.Test.YtefjhhgfkdkfaaaFwo
import Derived.Test.YtefjhhgfkdkfaaaFme
namespace Go.Proofs.Ytefjhhgfkdkfaaa
set_option linter.unusedSimpArgs false
set_option linter.unusedVariables false
open Go.RowKit
/-! Counts of a list. -/
def cn (zs : List Int) (i : Nat) : Nat := zs.count (i : Int)
theorem cn_app (a b : List Int) (i : Nat) : cn (a ++ b) i = cn a i + cn b i := List.count_append
theorem cn_one (x : Int) (i : Nat) (h : 0 ≤ x) : cn [x] i = if x.toNat = i then 1 else 0 := by
  unfold cn
  rw [List.count_singleton]
  by_cases e : x.toNat = i
  · have : x = (i : Int) := by omega
    subst this
    simp
  · have : ¬ x = (i : Int) := by omega
    simp [e, this]
theorem cn_succ {zs : List Int} {k : Nat} (h : k < zs.length) (h0 : 0 ≤ gz zs k) (i : Nat) : cn (zs.take (k + 1)) i = cn (zs.take k) i + if (gz zs k).toNat = i then 1 else 0 := by
  rw [take_snoc h, cn_app, cn_one _ _ h0]
theorem cn_mono {zs : List Int} {k : Nat} (i : Nat) : cn (zs.take k) i ≤ cn (zs.take (k + 1)) i := by
  unfold cn
  exact List.Sublist.count_le _ (List.take_sublist_take_left (Nat.le_succ k))
theorem ned_cn {n : Nat} {zs : List Int} (hin : ∀ j, j < zs.length → 0 ≤ gz zs j ∧ gz zs j < (n : Int)) : ∀ k, k ≤ zs.length → ∀ i, i < n → gz (nedK n zs k) i = (cn (zs.take k) i : Int)
  | 0, _, i, hi => by
    unfold nedK
    rw [gz_rep]
    simp [cn]
  | k + 1, hk, i, hi => by
    have ih := ned_cn hin k (by omega)
    have h1 := hin k (by omega)
    unfold nedK
    rw [gz_set (by rw [nedK_len]; omega), cn_succ (by omega) h1.1]
    by_cases e : i = (gz zs k).toNat
    · rw [if_pos e, if_pos e.symm, ← e, ih i hi]
      push_cast; rfl
    · rw [if_neg e, if_neg (fun h => e h.symm), ih i hi]
      simp
theorem nedR_cn {n : Nat} {zs : List Int} (hin : ∀ j, j < zs.length → 0 ≤ gz zs j ∧ gz zs j < (n : Int)) {i : Nat} (hi : i < n) : gz (nedR n zs) i = (cn zs i : Int) := by
  unfold nedR
  rw [ned_cn hin _ (Nat.le_refl _) i hi, List.take_length]
theorem tak_cn {n : Nat} {cs zs : List Int} (hl : cs.length = n) (hin : ∀ j, j < zs.length → 0 ≤ gz zs j ∧ gz zs j < (n : Int)) : ∀ k, k ≤ zs.length → ∀ out, takK cs zs k = some out → out.length = n ∧ ∀ i, i < n → gz out i = gz cs i - (cn (zs.take k) i : Int)
  | 0, _, out, e => by
    unfold takK at e
    injection e with e
    subst e
    exact ⟨hl, fun i _ => by simp [cn]⟩
  | k + 1, hk, out, e => by
    unfold takK at e
    cases hq : takK cs zs k with
    | none => rw [hq] at e; cases e
    | some o =>
      rw [hq] at e
      obtain ⟨i1, i2⟩ := tak_cn hl hin k (by omega) o hq
      simp only at e
      split at e
      · cases e
      · injection e with e
        subst e
        have h1 := hin k (by omega)
        refine ⟨by rw [List.length_set]; exact i1, fun i hi => ?_⟩
        rw [gz_set (by omega), cn_succ (by omega) h1.1]
        by_cases e : i = (gz zs k).toNat
        · rw [if_pos e, if_pos e.symm, ← e, i2 i hi]
          push_cast; omega
        · rw [if_neg e, if_neg (fun h => e h.symm), i2 i hi]
          simp
theorem tak_get {n : Nat} {cs zs : List Int} (hl : cs.length = n) (hin : ∀ j, j < zs.length → 0 ≤ gz zs j ∧ gz zs j < (n : Int)) : ∀ k, k ≤ zs.length → (∀ i, i < n → (cn (zs.take k) i : Int) ≤ gz cs i) → ∃ out, takK cs zs k = some out
  | 0, _, _ => ⟨cs, rfl⟩
  | k + 1, hk, h => by
    obtain ⟨o, ho⟩ := tak_get hl hin k (by omega) (fun i hi => by have := h i hi; have := cn_mono (zs := zs) (k := k) i; omega)
    have h1 := hin k (by omega)
    have h2 := (tak_cn hl hin k (by omega) o ho).2 (gz zs k).toNat (by omega)
    have h3 := h (gz zs k).toNat (by omega)
    rw [cn_succ (by omega) h1.1, if_pos rfl] at h3
    unfold takK
    rw [ho]
    refine ⟨_, if_neg ?_⟩
    push_cast at h3
    omega
theorem takR_cn {n : Nat} {cs zs out : List Int} (hl : cs.length = n) (hin : ∀ j, j < zs.length → 0 ≤ gz zs j ∧ gz zs j < (n : Int)) (e : takR cs zs = some out) : out.length = n ∧ ∀ i, i < n → gz out i = gz cs i - (cn zs i : Int) := by
  have := tak_cn hl hin _ (Nat.le_refl _) out e
  rwa [List.take_length] at this
/-- A list can be taken from a case just if the case has so many of each sort. -/
theorem takR_iff {n : Nat} {cs zs : List Int} (hc : CsOk n cs) (hin : ∀ j, j < zs.length → 0 ≤ gz zs j ∧ gz zs j < (n : Int)) : takR cs zs ≠ none ↔ ∀ i, i < n → (cn zs i : Int) ≤ gz cs i := by
  constructor
  · intro h i hi
    obtain ⟨out, ho⟩ := Option.ne_none_iff_exists'.1 h
    have h1 := (takR_cn hc.1 hin ho).2 i hi
    have h2 := ((takR_ok hc hin ho).2 i hi).1
    omega
  · intro h
    obtain ⟨out, ho⟩ := tak_get hc.1 hin _ (Nat.le_refl _) (by rw [List.take_length]; exact h)
    exact Option.ne_none_iff_exists'.2 ⟨out, ho⟩
theorem cnt_of {n : Nat} {cs : List Int} (h : CsOk n cs) : cntErr n cs = 0 := by
  unfold cntErr
  rw [if_neg (by have := h.1; omega), if_neg]
  intro h0
  obtain ⟨j, hj, hx⟩ := (idx_iff _ _).1 h0
  have := h.2 j (by rw [← h.1]; exact hj)
  simp [win] at hx
  omega
/-! Spaces one by one. -/
theorem cn_rep (os cs : List Int) (hos : ∀ x, x ∈ os → 0 ≤ x) (i : Nat) : ∀ k, k ≤ os.length → cn (repK os cs k) i = cn (os.take k) i * (gz cs i).toNat
  | 0, _ => by simp [repK, cn]
  | k + 1, h => by
    have h0 : 0 ≤ gz os k := hos _ (by rw [gz_get (show k < os.length by omega)]; exact List.getElem_mem _)
    unfold repK
    rw [cn_app, cn_rep os cs hos i k (by omega), cn_succ (by omega) h0, Nat.add_mul]
    congr 1
    unfold cn
    rw [List.count_replicate]
    by_cases e : (gz os k).toNat = i
    · have : gz os k = (i : Int) := by omega
      rw [this]
      simp
    · have : ¬ gz os k = (i : Int) := by omega
      simp [e, this]
theorem spl_nodup (l : List TSort) (k : Nat) : (spl l k).Nodup := (spl_pair l k).imp (fun h => Int.ne_of_lt h)
theorem cn_wid (f : Fnt) (cs : List Int) (i : Nat) : cn (widR f cs) i ≤ (gz cs i).toNat := by
  unfold widR
  rw [cn_rep _ _ (fun x hx => ((inF_iff.1 (ordW_in f)) x hx).1) i _ (Nat.le_refl _), List.take_length]
  have h1 : cn (ordW f) i ≤ 1 := by
    unfold cn
    rw [(ordW_perm f).count_eq]
    exact List.nodup_iff_count.1 (spl_nodup _ _) _
  calc cn (ordW f) i * (gz cs i).toNat ≤ 1 * (gz cs i).toNat := Nat.mul_le_mul_right _ h1
    _ = _ := Nat.one_mul _
/-! A joined line is cut up again. -/
def tlJ (ws gs : List (List Int)) (k : Nat) : Nat → List Int
  | 0 => []
  | m + 1 => (if 0 < k then gl gs (k - 1) else []) ++ (gl ws k ++ tlJ ws gs (k + 1) m)
theorem joinK_tl (ind : List Int) (ws gs : List (List Int)) : ∀ m k, joinK ind ws gs (k + m) = joinK ind ws gs k ++ tlJ ws gs k m
  | 0, k => by unfold tlJ; simp
  | m + 1, k => by
    rw [show k + (m + 1) = (k + 1) + m by omega, joinK_tl ind ws gs m (k + 1)]
    conv => lhs; unfold joinK
    conv => rhs; unfold tlJ
    split <;> simp
theorem cutR_app (h l : List Int) : cutR (h ++ l) h = (l, true) := by
  unfold cutR
  rw [List.take_left, if_pos rfl, List.drop_left]
theorem lead_app (f : Fnt) : ∀ (g l : List Int), (∀ x, x ∈ g → spB f x = true) → (∀ x, l.head? = some x → spB f x = false) → lead f (g ++ l) = g.length
  | [], [], _, _ => rfl
  | [], a :: l, _, h => by
    have : spB f a = false := h a rfl
    unfold lead
    rw [List.nil_append, List.takeWhile_cons, this]
    rfl
  | a :: g, l, h1, h2 => by
    have h0 : spB f a = true := h1 a (by simp)
    have ih := lead_app f g l (fun x hx => h1 x (by simp [hx])) h2
    unfold lead at ih ⊢
    rw [List.cons_append, List.takeWhile_cons, h0]
    simp [ih]
theorem fitK_tl (f : Fnt) (ind : List Int) (ws gs : List (List Int)) (N : Nat)
    (hw : ∀ k, k < N → 1 ≤ (gl ws k).length ∧ spB f (gz (gl ws k) 0) = false)
    (hg : ∀ j, j + 1 < N → 1 ≤ (gl gs j).length ∧ (gl gs j).length ≤ 3 ∧ ∀ x, x ∈ gl gs j → spB f x = true) :
    ∀ k, k ≤ N → fitK f ind ws (joinK ind ws gs N) k = (tlJ ws gs k (N - k), true)
  | 0, _ => by
    unfold fitK
    have := joinK_tl ind ws gs N 0
    rw [Nat.zero_add] at this
    rw [this, show joinK ind ws gs 0 = ind from rfl, cutR_app, Nat.sub_zero]
  | k + 1, hk => by
    have ih := fitK_tl f ind ws gs N hw hg k (by omega)
    unfold fitK
    rw [ih]
    obtain ⟨m, hm⟩ : ∃ m, N - k = m + 1 := ⟨N - k - 1, by omega⟩
    have hm2 : N - (k + 1) = m := by omega
    rw [hm, hm2]
    unfold tlJ
    rcases Nat.eq_zero_or_pos k with e | e
    · subst e
      simp only [Nat.lt_irrefl, if_false, List.nil_append, cutR_app, Bool.and_true]
      cases m <;> rfl
    · simp only [if_pos e]
      have hgg := hg (k - 1) (by omega)
      have hww := hw k (by omega)
      have hle : lead f (gl gs (k - 1) ++ (gl ws k ++ tlJ ws gs (k + 1) m)) = (gl gs (k - 1)).length := by
        refine lead_app f _ _ hgg.2.2 (fun x hx => ?_)
        have h2 := hww.2
        cases hc : gl ws k with
        | nil => rw [hc] at hww; simp at hww
        | cons a l =>
          rw [hc] at hx h2
          have : a = x := by simpa using hx
          subst this
          exact h2
      rw [hle, List.drop_left, cutR_app]
      have : win ((gl gs (k - 1)).length : Int) 1 3 = true := by simp [win]; omega
      rw [this]
      cases m <;> rfl
/-! A line that is found. -/
structure FndOk (t : Tsk) (zs : List Int) : Prop where
  inF : InF t.f zs
  len : zs.length ≤ 300
  wid : widL t.f zs = t.me
  fit : fitB t zs = true
  enough : ∀ i, i < t.f.sorts.length → (cn zs i : Int) ≤ gz t.cs i
theorem just_ok {t : Tsk} {lf : List Int} {r : List Nat} (h : opnE t = 0) (hlf : takR t.cs (ownL t) = some lf) (hr : chzT t lf = some r) : FndOk t (justL t r) := by
  obtain ⟨ok, ⟨lf', e', hlfok⟩, hf0, hf1⟩ := opnE_ok h
  rw [hlf] at e'
  injection e' with e'
  subst e'
  have hch : ChzOk t.f lf (fillT t).toNat (t.words.length - 1) (t.words.length - 1 + 2 * (t.words.length - 1)) (cntT t r) := chz_ok ok.f hlfok hr
  obtain ⟨own1, own2⟩ := own_in ok
  have hG : t.words.length - 1 ≤ 29 := by have := ok.w30; omega
  generalize hcn : cntT t r = cnt at *
  have hn := hch.num
  have hwi : ∀ x, x ∈ widR t.f cnt → 1 ≤ wd t.f x := fun x hx => by
    have := inF_iff.1 (widR_in t.f cnt) x hx
    exact (wd_ok ok.f ⟨this.1, this.2⟩).1
  have hso := spr_ok t.f (widR t.f cnt) (t.words.length - 1) (by omega) _ (Nat.le_refl _)
  have hem := spr_emp t.f (widR t.f cnt) (t.words.length - 1) (by omega) hwi _ (Nat.le_refl _)
  rw [show t.words.length - 1 - (widR t.f cnt).length = 0 by omega] at hem
  have hem2 := empN_zero hem
  have hj : justL t r = joinK t.ind t.words (sprR t.f cnt (t.words.length - 1)) t.words.length := by unfold justL; rw [hcn]
  have hsr : sprR t.f cnt (t.words.length - 1) = sprK t.f (widR t.f cnt) (t.words.length - 1) (widR t.f cnt).length := rfl
  rw [← hsr] at hso hem2
  generalize sprR t.f cnt (t.words.length - 1) = gs at *
  rw [hj]
  have hp : (joinK t.ind t.words gs t.words.length).Perm (ownL t ++ widR t.f cnt) := by
    refine (joinK_perm t.ind t.words gs t.words.length (Nat.le_refl _) (by rw [hso.len]; omega)).trans ?_
    rw [List.take_length, List.take_of_length_le (by rw [hso.len]; omega)]
    unfold ownL
    rw [List.flatten_cons]
    have := hso.perm
    rw [List.take_length] at this
    exact List.Perm.append_left _ this
  refine ⟨?_, ?_, ?_, ?_, ?_⟩
  · rw [inF_iff]
    intro x hx
    rcases List.mem_append.1 (hp.mem_iff.1 hx) with hx | hx
    · exact inF_iff.1 own1 x hx
    · exact inF_iff.1 (widR_in t.f cnt) x hx
  · rw [hp.length_eq, List.length_append]
    omega
  · have h1 : widL t.f (joinK t.ind t.words gs t.words.length) = widL t.f (ownL t ++ widR t.f cnt) := perm_sum hp _
    rw [h1, widL_app, hch.wid]
    unfold fillT at hf0 ⊢
    omega
  · have hfk := fitK_tl t.f t.ind t.words gs t.words.length (fun k hk => by
      have := ok.wd k hk
      exact ⟨this.1, this.2.2.2 0 (by omega)⟩) (fun j hjn => by
      refine ⟨hem2 j (by rw [hso.len]; omega), hso.most j (by omega), fun x hx => ?_⟩
      have hjl : j < gs.length := by rw [hso.len]; omega
      have h1 : x ∈ gs.flatten := by
        rw [List.mem_flatten]
        refine ⟨gs[j], List.getElem_mem hjl, ?_⟩
        have : gl gs j = gs[j] := by unfold gl; rw [List.getD_eq_getElem?_getD, List.getElem?_eq_getElem hjl]; rfl
        rw [← this]; exact hx
      have h2 := hso.perm.mem_iff.1 h1
      rw [List.take_length] at h2
      have h3 := repK_mem _ _ _ (Nat.le_refl _) x h2
      have h4 := (ordW_perm t.f).mem_iff.1 h3
      exact spl_kind _ _ x h4) t.words.length (Nat.le_refl _)
    unfold fitB
    rw [hfk, Nat.sub_self]
    rfl
  · intro i hi
    have h1 : cn (joinK t.ind t.words gs t.words.length) i = cn (ownL t) i + cn (widR t.f cnt) i := by
      rw [← cn_app]
      exact hp.count_eq _
    have h2 := cn_wid t.f cnt i
    have h3 := (takR_cn ok.c.1 own1 hlf).2 i hi
    have h4 := hch.lim i hi
    have h5 := (hlfok.2 i hi).1
    rw [h1]
    push_cast
    omega
theorem lns_ok {t : Tsk} {zs : List Int} (ok : TkOk t) (h : FndOk t zs) : lnsE t.f t.me zs = 0 := by
  unfold lnsE
  rw [if_neg (by have := ok.me; simp [win]; omega), if_neg (by have := h.len; omega), if_neg]
  intro h0
  obtain ⟨j, hj, h3⟩ := (idx_iff _ _).1 h0
  have h2 := h.inF j hj
  simp [win] at h3
  omega
theorem li_ok {t : Tsk} {zs : List Int} (ok : TkOk t) (h : FndOk t zs) : liErr t.f zs = 0 := by
  unfold liErr
  rw [if_neg (by have := ok.f; omega), if_neg (by have := h.len; omega), if_neg]
  intro h0
  obtain ⟨j, hj, h3⟩ := (idx_iff _ _).1 h0
  have h2 := h.inF j hj
  simp [win] at h3
  omega
/-- A right task with another right case is right. -/
theorem tk_cs {t : Tsk} {c : List Int} (h : tkErr t = 0) (hc : CsOk t.f.sorts.length c) : tkErr { t with cs := c } = 0 := by
  have h0 := h
  have e0 := cnt_of (tk_ok h).c
  have e1 := cnt_of hc
  unfold tkErr at h ⊢
  rw [e0] at h
  rw [show ({ t with cs := c } : Tsk).f = t.f from rfl, show ({ t with cs := c } : Tsk).cs = c from rfl, e1]
  exact h
/-- Whether a found line can be set from a case. -/
theorem cl_iff {t : Tsk} {zs : List Int} {c : List Int} (h : tkErr t = 0) (hF : FndOk t zs) (hc : CsOk t.f.sorts.length c) : clE { t with cs := c } t.me zs = 0 ↔ ∀ i, i < t.f.sorts.length → (cn zs i : Int) ≤ gz c i := by
  have h1 := tk_cs h hc
  have h2 := lns_ok (tk_ok h) hF
  have h3 : fitB { t with cs := c } zs = true := hF.fit
  unfold clE
  rw [if_neg (by rw [h1]; simp), show ({ t with cs := c } : Tsk).f = t.f from rfl, show ({ t with cs := c } : Tsk).cs = c from rfl, show ({ t with cs := c } : Tsk).me = t.me from rfl, if_neg (by rw [h2]; simp), if_neg (by simp), if_neg (by rw [h3]; simp)]
  rw [← takR_iff hc hF.inF]
  constructor
  · intro h
    split at h
    · omega
    · assumption
  · intro h
    rw [if_neg h, if_neg (by have := hF.wid; omega)]
theorem cl_zero {t : Tsk} {zs : List Int} (h : tkErr t = 0) (hF : FndOk t zs) : clE t t.me zs = 0 := (cl_iff h hF (tk_ok h).c).2 hF.enough
/-- What is left, and the need. -/
structure LftOk (t : Tsk) (zs l2 : List Int) : Prop where
  c2 : CsOk t.f.sorts.length l2
  cn : CsOk t.f.sorts.length (nedR t.f.sorts.length zs)
  ge : ∀ j, j < t.cs.length → gz (nedR t.f.sorts.length zs) j ≤ gz t.cs j
  tak : cmbK (fun a b => a - b) t.cs (nedR t.f.sorts.length zs) t.cs.length = l2
  le : ∀ j, j < l2.length → gz l2 j + gz (nedR t.f.sorts.length zs) j ≤ 1000000
  joi : cmbK (fun a b => a + b) l2 (nedR t.f.sorts.length zs) l2.length = t.cs
  met : 0 ≤ metR t.f l2 ∧ metR t.f l2 ≤ metR t.f t.cs ∧ metR t.f l2 + metR t.f (nedR t.f.sorts.length zs) = metR t.f t.cs
theorem metK_add (f : Fnt) (a b c : List Int) : ∀ k, (∀ i, i < k → gz a i + gz b i = gz c i) → metK f a k + metK f b k = metK f c k
  | 0, _ => rfl
  | k + 1, h => by
    have ih := metK_add f a b c k (fun i hi => h i (by omega))
    have h1 := h k (by omega)
    unfold metK
    rw [← h1, ← ih, Int.add_mul, Int.add_mul]
    omega
theorem lft_ok {t : Tsk} {zs l2 : List Int} (h : tkErr t = 0) (hF : FndOk t zs) (hl : takR t.cs zs = some l2) : LftOk t zs l2 := by
  have ok := tk_ok h
  have c2 := takR_ok ok.c hF.inF hl
  obtain ⟨e1, e2⟩ := takR_cn ok.c.1 hF.inF hl
  have hnl : (nedR t.f.sorts.length zs).length = t.f.sorts.length := nedK_len _ _ _
  have hnd : ∀ i, i < t.f.sorts.length → gz (nedR t.f.sorts.length zs) i = (cn zs i : Int) := fun i hi => nedR_cn hF.inF hi
  have hcl := ok.c.1
  have hN : CsOk t.f.sorts.length (nedR t.f.sorts.length zs) := ⟨hnl, fun i hi => by
    rw [hnd i hi]
    have := hF.enough i hi
    have := (ok.c.2 i hi).2
    omega⟩
  have hs : ∀ i, i < t.f.sorts.length → gz l2 i + gz (nedR t.f.sorts.length zs) i = gz t.cs i := fun i hi => by
    rw [e2 i hi, hnd i hi]; omega
  have m1 := metK_add t.f l2 (nedR t.f.sorts.length zs) t.cs t.f.sorts.length hs
  have m2 := (metK_bound ok.f c2 _ (Nat.le_refl _)).1
  have m3 := (metK_bound ok.f hN _ (Nat.le_refl _)).1
  refine ⟨c2, hN, fun j hj => ?_, ?_, fun j hj => ?_, ?_, m2, ?_, m1⟩
  · rw [hnd j (by omega)]; exact hF.enough j (by omega)
  · refine gz_ext (by rw [cmbK_len]; omega) (fun j hj => ?_)
    rw [cmbK_len] at hj
    rw [cmbK_get _ _ _ _ j hj, e2 j (by omega), hnd j (by omega)]
  · rw [hs j (by omega)]
    exact (ok.c.2 j (by omega)).2
  · refine gz_ext (by rw [cmbK_len]; omega) (fun j hj => ?_)
    rw [cmbK_len] at hj
    rw [cmbK_get _ _ _ _ j hj, hs j (by omega)]
  · show metK _ _ _ ≤ metK _ _ _
    omega
/-- The words can be set once more just if the case suffices twice. -/
theorem twice_ok {t : Tsk} {zs l2 : List Int} (h : tkErr t = 0) (hF : FndOk t zs) (hl : takR t.cs zs = some l2) {T : Int}
    (hT : (∀ j, j < (nedR t.f.sorts.length zs).length → 0 < gz (nedR t.f.sorts.length zs) j → T ≤ gz t.cs j / gz (nedR t.f.sorts.length zs) j) ∧ ∃ j, j < (nedR t.f.sorts.length zs).length ∧ 0 < gz (nedR t.f.sorts.length zs) j ∧ T = gz t.cs j / gz (nedR t.f.sorts.length zs) j) :
    decide (clE { t with cs := l2 } t.me zs = 0) = decide (2 ≤ T) := by
  have ok := tk_ok h
  have L := lft_ok h hF hl
  have hnl : (nedR t.f.sorts.length zs).length = t.f.sorts.length := nedK_len _ _ _
  have hnd : ∀ i, i < t.f.sorts.length → gz (nedR t.f.sorts.length zs) i = (cn zs i : Int) := fun i hi => nedR_cn hF.inF hi
  obtain ⟨e1, e2⟩ := takR_cn ok.c.1 hF.inF hl
  rw [hnl] at hT
  refine decide_eq_decide.2 ((cl_iff h hF L.c2).trans ?_)
  constructor
  · intro hq
    obtain ⟨j, hj, h0, rfl⟩ := hT.2
    have h1 := hq j hj
    rw [e2 j hj] at h1
    rw [hnd j hj] at h0 ⊢
    rw [Int.le_ediv_iff_mul_le h0]
    omega
  · intro hq i hi
    rw [e2 i hi]
    rcases Nat.eq_zero_or_pos (cn zs i) with h0 | h0
    · have := (ok.c.2 i hi).1
      omega
    · have h1 := hT.1 i hi (by rw [hnd i hi]; omega)
      rw [hnd i hi] at h1
      have h2 := (Int.le_ediv_iff_mul_le (by omega)).1 (Int.le_trans hq h1)
      omega
end Go.Proofs.Ytefjhhgfkdkfaaa
