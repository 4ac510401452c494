/- What the driving of all quoins leaves: plain facts. -/
import Derived.Test.YtlfeoofchebbkaaDrp
namespace Go.Proofs.Ytlfeoofchebbkaa
set_option linter.unusedSimpArgs false
set_option linter.unusedVariables false
theorem set_gz_zero {l : List Int} {i : Nat} (hi : i < l.length) : l.set i (gz l i + 0) = l := by
  rw [Int.add_zero, gz_get hi]
  exact List.set_getElem_self hi
theorem drive_ws {f : Forme} {r : Real} (ho : Okf f r) {i j : Nat} (hi : i < f.ps.length) (hij : (gp f.ps i).kind ≠ 3 ∨ j ≠ i) : gz (r.drive f i).ws j = gz r.ws j := by
  by_cases h3 : (gp f.ps i).kind = 3
  · rw [drive_a h3]
    show gz (r.ws.set i _) j = _
    rw [gz_set _ _ _ _ (by have := ho.fit.ws.len; omega), if_neg (by rcases hij with h | h; exact absurd h3 h; exact h)]
  · by_cases h4 : (gp f.ps i).kind = 4
    · rw [drive_d h4]
    · rw [drive_n h3 h4]
theorem drive_hs {f : Forme} {r : Real} (ho : Okf f r) {i j : Nat} (hi : i < f.ps.length) (hij : (gp f.ps i).kind ≠ 4 ∨ j ≠ i) : gz (r.drive f i).hs j = gz r.hs j := by
  by_cases h3 : (gp f.ps i).kind = 3
  · rw [drive_a h3]
  · by_cases h4 : (gp f.ps i).kind = 4
    · rw [drive_d h4]
      show gz (r.hs.set i _) j = _
      rw [gz_set _ _ _ _ (by have := ho.fit.hs.len; omega), if_neg (by rcases hij with h | h; exact absurd h4 h; exact h)]
    · rw [drive_n h3 h4]
theorem drive_ts {f : Forme} {r : Real} (ho : Okf f r) {i j : Nat} (hi : i < f.ps.length) (hij : j ≠ i) : gz (r.drive f i).ts j = gz r.ts j := by
  by_cases h3 : (gp f.ps i).kind = 3
  · rw [drive_a h3]
    show gz (r.ts.set i _) j = _
    rw [gz_set _ _ _ _ (by have := ho.fit.ts; omega), if_neg hij]
  · by_cases h4 : (gp f.ps i).kind = 4
    · rw [drive_d h4]
      show gz (r.ts.set i _) j = _
      rw [gz_set _ _ _ _ (by have := ho.fit.ts; omega), if_neg hij]
    · rw [drive_n h3 h4]
theorem drive_ts_le {f : Forme} (hf : f.Laid) {r : Real} (ho : Okf f r) {i : Nat} (hi : i < f.ps.length) : gz (r.drive f i).ts i ≤ gz r.ts i := by
  obtain ⟨t0, t1, _, _, _, _, a1, _, d1, _⟩ := ho.nums hf hi
  by_cases h3 : (gp f.ps i).kind = 3
  · rw [drive_a h3]
    show gz (r.ts.set i _) i ≤ _
    rw [gz_set _ _ _ _ (by have := ho.fit.ts; omega), if_pos rfl]
    unfold byA; omega
  · by_cases h4 : (gp f.ps i).kind = 4
    · rw [drive_d h4]
      show gz (r.ts.set i _) i ≤ _
      rw [gz_set _ _ _ _ (by have := ho.fit.ts; omega), if_pos rfl]
      unfold byD; omega
    · rw [drive_n h3 h4]; exact Int.le_refl _
theorem drive_thrA {f : Forme} (hf : f.Laid) {r : Real} (ho : Okf f r) {i k : Nat} (hi : i < f.ps.length) (hk : k < f.ps.length) : (across f r.ws).thr k ≤ (across f (r.drive f i).ws).thr k := by
  obtain ⟨t0, t1, _, _, _, _, a1, _, d1, _⟩ := ho.nums hf hi
  by_cases h3 : (gp f.ps i).kind = 3
  · rw [drive_a h3]
    show _ ≤ (across f (r.ws.set i (r.ws.getD i 0 + byA f r i))).thr k
    rw [across_up]
    exact Dir.up_thr_ge (across_wf hf ho.fit.ws) i _ (by unfold byA; omega) k (by show k < r.ws.length; rw [ho.fit.ws.len]; exact hk)
  · by_cases h4 : (gp f.ps i).kind = 4
    · rw [drive_d h4]; exact Int.le_refl _
    · rw [drive_n h3 h4]; exact Int.le_refl _
theorem drive_thrD {f : Forme} (hf : f.Laid) {r : Real} (ho : Okf f r) {i k : Nat} (hi : i < f.ps.length) (hk : k < f.ps.length) : (down f r.hs).thr k ≤ (down f (r.drive f i).hs).thr k := by
  obtain ⟨t0, t1, _, _, _, _, a1, _, d1, _⟩ := ho.nums hf hi
  by_cases h3 : (gp f.ps i).kind = 3
  · rw [drive_a h3]; exact Int.le_refl _
  · by_cases h4 : (gp f.ps i).kind = 4
    · rw [drive_d h4]
      show _ ≤ (down f (r.hs.set i (r.hs.getD i 0 + byD f r i))).thr k
      rw [down_up]
      exact Dir.up_thr_ge (down_wf hf ho.fit.hs) i _ (by unfold byD; omega) k (by show k < r.hs.length; rw [ho.fit.hs.len]; exact hk)
    · rw [drive_n h3 h4]; exact Int.le_refl _
theorem drive_quoinA {f : Forme} (hf : f.Laid) {r : Real} (ho : Okf f r) {i : Nat} (hi : i < f.ps.length) (h3 : (gp f.ps i).kind = 3) : gz (r.drive f i).ts i = 0 ∨ (across f (r.drive f i).ws).thr i = 60 * f.W := by
  obtain ⟨t0, t1, _, _, _, _, a1, _, d1, _⟩ := ho.nums hf hi
  by_cases hle : gz r.ts i ≤ 60 * f.W - (across f r.ws).thr i
  · left
    rw [drive_a h3]
    show gz (r.ts.set i _) i = 0
    rw [gz_set _ _ _ _ (by have := ho.fit.ts; omega), if_pos rfl]
    unfold byA; omega
  · right
    rw [drive_a h3]
    show (across f (r.ws.set i (r.ws.getD i 0 + byA f r i))).thr i = _
    rw [across_up, Dir.up_thr_self (across_wf hf ho.fit.ws) i _ (by unfold byA; omega) (by show i < r.ws.length; rw [ho.fit.ws.len]; exact hi)]
    unfold byA; omega
theorem drive_quoinD {f : Forme} (hf : f.Laid) {r : Real} (ho : Okf f r) {i : Nat} (hi : i < f.ps.length) (h4 : (gp f.ps i).kind = 4) : gz (r.drive f i).ts i = 0 ∨ (down f (r.drive f i).hs).thr i = 60 * f.H := by
  obtain ⟨t0, t1, _, _, _, _, a1, _, d1, _⟩ := ho.nums hf hi
  by_cases hle : gz r.ts i ≤ 60 * f.H - (down f r.hs).thr i
  · left
    rw [drive_d h4]
    show gz (r.ts.set i _) i = 0
    rw [gz_set _ _ _ _ (by have := ho.fit.ts; omega), if_pos rfl]
    unfold byD; omega
  · right
    rw [drive_d h4]
    show (down f (r.hs.set i (r.hs.getD i 0 + byD f r i))).thr i = _
    rw [down_up, Dir.up_thr_self (down_wf hf ho.fit.hs) i _ (by unfold byD; omega) (by show i < r.hs.length; rw [ho.fit.hs.len]; exact hi)]
    unfold byD; omega
/-- Behind the first k pieces. -/
structure Behind (f : Forme) (r x : Real) (k : Nat) : Prop where
  ok : Okf f x
  ta : ∀ j, j < f.ps.length → (across f r.ws).thr j ≤ (across f x.ws).thr j
  td : ∀ j, j < f.ps.length → (down f r.hs).thr j ≤ (down f x.hs).thr j
  qa : ∀ j, j < k → (gp f.ps j).kind = 3 → gz x.ts j = 0 ∨ (across f x.ws).thr j = 60 * f.W
  qd : ∀ j, j < k → (gp f.ps j).kind = 4 → gz x.ts j = 0 ∨ (down f x.hs).thr j = 60 * f.H
  sw : ∀ j, j < f.ps.length → (gp f.ps j).kind ≠ 3 → gz x.ws j = gz r.ws j
  sh : ∀ j, j < f.ps.length → (gp f.ps j).kind ≠ 4 → gz x.hs j = gz r.hs j
  tl : ∀ j, j < f.ps.length → gz x.ts j ≤ gz r.ts j
theorem behind {f : Forme} (hf : f.Laid) {r : Real} (ho : Okf f r) : ∀ k, k ≤ f.ps.length → Behind f r (r.driven f k) k := by
  intro k
  induction k with
  | zero => intro _; exact ⟨ho, fun _ _ => Int.le_refl _, fun _ _ => Int.le_refl _, fun j hj => by omega, fun j hj => by omega, fun _ _ _ => rfl, fun _ _ _ => rfl, fun _ _ => Int.le_refl _⟩
  | succ k ih =>
    intro hk
    have h := ih (by omega)
    have hx := h.ok.drive hf k (by omega)
    show Behind f r ((r.driven f k).drive f k) (k + 1)
    generalize r.driven f k = x at *
    refine ⟨hx, fun j hj => Int.le_trans (h.ta j hj) (drive_thrA hf h.ok (by omega) hj), fun j hj => Int.le_trans (h.td j hj) (drive_thrD hf h.ok (by omega) hj), fun j hj h3 => ?_, fun j hj h4 => ?_, fun j hj h3 => ?_, fun j hj h4 => ?_, fun j hj => ?_⟩
    · by_cases e : j = k
      · subst e; exact drive_quoinA hf h.ok (by omega) h3
      · rcases h.qa j (by omega) h3 with h1 | h1
        · exact .inl ((drive_ts h.ok (by omega) e).trans h1)
        · right
          have h2 := drive_thrA hf h.ok (i := k) (by omega) (k := j) (by omega)
          have h3 := (hx.nums hf (i := j) (by omega)).2.2.2.2.2.2.1
          omega
    · by_cases e : j = k
      · subst e; exact drive_quoinD hf h.ok (by omega) h4
      · rcases h.qd j (by omega) h4 with h1 | h1
        · exact .inl ((drive_ts h.ok (by omega) e).trans h1)
        · right
          have h2 := drive_thrD hf h.ok (i := k) (by omega) (k := j) (by omega)
          have h3 := (hx.nums hf (i := j) (by omega)).2.2.2.2.2.2.2.2.1
          omega
    · rw [drive_ws h.ok (by omega) (by by_cases e : j = k; exact .inl (by rw [← e]; exact h3); exact .inr e)]
      exact h.sw j hj h3
    · rw [drive_hs h.ok (by omega) (by by_cases e : j = k; exact .inl (by rw [← e]; exact h4); exact .inr e)]
      exact h.sh j hj h4
    · by_cases e : j = k
      · subst e; exact Int.le_trans (drive_ts_le hf h.ok (by omega)) (h.tl j hj)
      · rw [drive_ts h.ok (by omega) e]; exact h.tl j hj
/-- Where each quoin has no travel left, or is held, nothing is driven. -/
theorem drive_stay {f : Forme} (hf : f.Laid) {r x : Real} (h : Behind f r x f.ps.length) {i : Nat} (hi : i < f.ps.length) : x.drive f i = x := by
  obtain ⟨t0, t1, _, _, _, _, a1, _, d1, _⟩ := h.ok.nums hf hi
  have l1 := h.ok.fit.ws.len
  have l2 := h.ok.fit.hs.len
  have l3 := h.ok.fit.ts
  by_cases h3 : (gp f.ps i).kind = 3
  · have hb : byA f x i = 0 := by unfold byA; rcases h.qa i hi h3 with h1 | h1 <;> omega
    rw [drive_a h3, hb, set_gz_zero (by omega), show gz x.ts i - 0 = gz x.ts i + 0 by omega, set_gz_zero (by omega)]
  · by_cases h4 : (gp f.ps i).kind = 4
    · have hb : byD f x i = 0 := by unfold byD; rcases h.qd i hi h4 with h1 | h1 <;> omega
      rw [drive_d h4, hb, set_gz_zero (by omega), show gz x.ts i - 0 = gz x.ts i + 0 by omega, set_gz_zero (by omega)]
    · exact drive_n h3 h4
theorem driven_stay {f : Forme} (hf : f.Laid) {r x : Real} (h : Behind f r x f.ps.length) : ∀ k, k ≤ f.ps.length → x.driven f k = x := by
  intro k
  induction k with
  | zero => intro _; rfl
  | succ k ih =>
    intro hk
    show (x.driven f k).drive f k = x
    rw [ih (by omega)]
    exact drive_stay hf h (by omega)
end Go.Proofs.Ytlfeoofchebbkaa
