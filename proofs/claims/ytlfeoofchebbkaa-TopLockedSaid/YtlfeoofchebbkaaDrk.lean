/- Driving and the checks: plain facts. -/
import Derived.Test.YtlfeoofchebbkaaDrl
import Derived.Test.YtlfeoofchebbkaaHlr
namespace Go.Proofs.Ytlfeoofchebbkaa
set_option linter.unusedSimpArgs false
set_option linter.unusedVariables false
theorem checkF_ofR {f : Forme} {r : Real} (h : (checkR f r).2 = 0) : (checkF f).2 = 0 := by
  unfold checkR at h
  by_cases h1 : (shapedF f r).2 ≠ 0
  · rw [if_pos h1] at h; exact absurd h h1
  · simp only [Classical.not_not] at h1
    unfold shapedF at h1
    by_cases h2 : (checkF f).2 ≠ 0
    · rw [if_pos h2] at h1; exact absurd h1 h2
    · simpa using h2
theorem shaped_of {f : Forme} {r : Real} (hc : (checkF f).2 = 0) (h : Okay f r) : shapedF f r = (0, 0) := by
  unfold shapedF
  have l1 := h.ws.len
  have l2 := h.hs.len
  have l3 := h.ts
  rw [if_neg (by simpa using hc), if_neg (by have := h.full; omega), if_neg (by omega)]
  refine fstE_none fun j hj => ?_
  unfold sErr
  have m1 := gz_mem (l := r.ws) (i := j) (by omega)
  have m2 := gz_mem (l := r.hs) (i := j) (by omega)
  have a1 := h.ws.lo _ m1
  have a2 := h.wb _ m1
  have b1 := h.hs.lo _ m2
  have b2 := h.hb _ m2
  have t := h.tb j (by omega)
  have w1 : win (gz r.ws j) 1 480000 = true := win_t.2 ⟨a1, a2⟩
  have w2 : win (gz r.hs j) 1 480000 = true := win_t.2 ⟨b1, b2⟩
  have w3 : win (gz r.ts j) 0 6000 = true := win_t.2 t
  rw [if_neg (by simp [w1, w2, w3]), if_neg (by rintro ⟨h1, h2⟩; have := h.form j hj h1; rw [this] at h2; cases h2)]
theorem checkR_of {f : Forme} {r : Real} (hc : (checkF f).2 = 0) (h : Okay f r) (ha : (across f r.ws).maxT ≤ 60 * f.W) (hd : (down f r.hs).maxT ≤ 60 * f.H) : checkR f r = (0, 0) := by
  unfold checkR
  rw [shaped_of hc h, if_neg (by simp), if_pos ⟨ha, hd⟩]
theorem okay_behind {f : Forme} {r x : Real} (h : Okay f r) (hb : Behind f r x f.ps.length) : Okay f x := by
  have l1 := hb.ok.fit.ws.len
  have l2 := hb.ok.fit.hs.len
  have l3 := hb.ok.fit.ts
  refine ⟨h.right, h.full, hb.ok.fit.ws, hb.ok.fit.hs, l3, fun z hz => ?_, fun z hz => ?_, fun i hi => ?_, fun i hi ht => ?_⟩
  · have := hb.ok.uw h.right.toLaid
    obtain ⟨i, hi, rfl⟩ := List.mem_iff_getElem.1 hz
    have := (hb.ok.nums h.right.toLaid (i := i) (by omega)).2.2.2.1
    rw [gz_get hi] at this; omega
  · obtain ⟨i, hi, rfl⟩ := List.mem_iff_getElem.1 hz
    have := (hb.ok.nums h.right.toLaid (i := i) (by omega)).2.2.2.2.2.1
    rw [gz_get hi] at this; omega
  · have := hb.ok.nums h.right.toLaid (i := i) (by omega)
    exact ⟨this.1, this.2.1⟩
  · refine h.form i hi fun e => ?_
    have h1 := hb.tl i hi
    have h2 := (hb.ok.nums h.right.toLaid hi).1
    omega
theorem checkR_behind {f : Forme} {r x : Real} (hs : (checkR f r).2 = 0) (hb : Behind f r x f.ps.length) : checkR f x = (0, 0) := by
  obtain ⟨hok, -, -⟩ := checkR_zero hs
  have hox := okay_behind hok hb
  have w1 := hok.right.w1
  have w2 := hok.right.h1
  exact checkR_of (checkF_ofR hs) hox ((Dir.fits_maxT (across_wf hok.right.toLaid hb.ok.fit.ws) (by show 0 ≤ f.W; omega)).1 hb.ok.fit.fa) ((Dir.fits_maxT (down_wf hok.right.toLaid hb.ok.fit.hs) (by show 0 ≤ f.H; omega)).1 hb.ok.fit.fd)
/-- The numbers of the law: what was held stays held; a quoin has no travel, or is held; sizes of all others are as they were. -/
structure Kept (f : Forme) (r x : Real) (j : Nat) : Prop where
  a : heldA f r j ≤ heldA f x j
  d : heldD f r j ≤ heldD f x j
  qa : (gp f.ps j).kind = 3 → gz x.ts j = 0 ∨ heldA f x j = 1
  qd : (gp f.ps j).kind = 4 → gz x.ts j = 0 ∨ heldD f x j = 2
  s : (gp f.ps j).kind < 3 → gz x.ws j = gz r.ws j ∧ gz x.hs j = gz r.hs j
theorem heldD_02 (f : Forme) (r : Real) (j : Nat) : heldD f r j = 0 ∨ heldD f r j = 2 := by unfold heldD; split <;> simp
theorem kept {f : Forme} (hf : f.Laid) {r x : Real} (hb : Behind f r x f.ps.length) {j : Nat} (hj : j < f.ps.length) : Kept f r x j := by
  have h1 := hb.ta j hj
  have h2 := hb.td j hj
  have hn := hb.ok.nums hf hj
  refine ⟨?_, ?_, fun h => ?_, fun h => ?_, fun h => ⟨hb.sw j hj (by omega), hb.sh j hj (by omega)⟩⟩
  · unfold heldA
    by_cases e : (across f r.ws).thr j = 60 * f.W
    · rw [if_pos e, if_pos (by omega)]; omega
    · rw [if_neg e]; split <;> omega
  · unfold heldD
    by_cases e : (down f r.hs).thr j = 60 * f.H
    · rw [if_pos e, if_pos (by omega)]; omega
    · rw [if_neg e]; split <;> omega
  · rcases hb.qa j hj h with h1 | h1
    · exact .inl h1
    · right; unfold heldA; rw [if_pos h1]
  · rcases hb.qd j hj h with h1 | h1
    · exact .inl h1
    · right; unfold heldD; rw [if_pos h1]
end Go.Proofs.Ytlfeoofchebbkaa
