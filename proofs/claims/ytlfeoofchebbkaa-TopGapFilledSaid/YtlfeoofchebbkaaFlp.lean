/- The fewest pieces of a filling: labels, and the search from the first size on (plain). -/
import Derived.Test.YtlfeoofchebbkaaRlp
namespace Go.Proofs.Ytlfeoofchebbkaa
set_option linter.unusedSimpArgs false
set_option linter.unusedVariables false
open Go.RowKit
theorem gz_range (f : Nat → Int) {n r : Nat} (h : r < n) : gz ((List.range n).map f) r = f r := by
  rw [gz, List.getD_eq_getElem?_getD, List.getElem?_map, List.getElem?_range h]; rfl
def labF (l : List (Int × Int)) (L : Nat) : Nat → List Int
  | 0 => (List.range (L + 1)).map fun r => if r = 0 then 0 else 1000000
  | k + 1 => (List.range (L + 1)).map fun r => bd (labF l L k) l k r
def labs (l : List (Int × Int)) (L : Nat) : List (List Int) := (List.range (l.length + 1)).map (labF l L)
section
variable {l : List (Int × Int)} {L k r : Nat} {len : Int}
theorem labF_len : ∀ k, (labF l L k).length = L + 1
  | 0 => by simp [labF]
  | _ + 1 => by simp [labF]
theorem labF_zero (h : r ≤ L) : gz (labF l L 0) r = if r = 0 then 0 else 1000000 := gz_range _ (by omega)
theorem labF_succ (h : r ≤ L) : gz (labF l L (k + 1)) r = bd (labF l L k) l k r := gz_range _ (by omega)
theorem labs_len : (labs l L).length = l.length + 1 := by simp [labs]
theorem gl_labs (h : k ≤ l.length) : gl (labs l L) k = labF l L k := by
  rw [gl, List.getD_eq_getElem?_getD, labs, List.getElem?_map, List.getElem?_range (by omega)]; rfl
theorem bnd_le (bs : List Int) (s r : Nat) : ∀ n, bnd bs s r n ≤ 1000000
  | 0 => Int.le_refl _
  | n + 1 => by
    have := bnd_le bs s r n
    show min (bnd bs s r n) _ ≤ _
    omega
theorem bnd_nonneg {bs : List Int} {s r : Nat} : ∀ n, (∀ j, j < n → 0 ≤ gz bs (r - j * s)) → 0 ≤ bnd bs s r n
  | 0, _ => by show (0 : Int) ≤ 1000000; omega
  | n + 1, h => by
    have h1 := bnd_nonneg n (fun j hj => h j (by omega))
    have h2 := h n (by omega)
    show 0 ≤ min (bnd bs s r n) (gz bs (r - n * s) + n)
    omega
theorem bnd_att {bs : List Int} {s r : Nat} : ∀ n, bnd bs s r n < 1000000 → ∃ j, j < n ∧ gz bs (r - j * s) + (j : Int) = bnd bs s r n
  | 0, h => absurd h (Int.lt_irrefl _)
  | n + 1, h => by
    have e : bnd bs s r (n + 1) = min (bnd bs s r n) (gz bs (r - n * s) + n) := rfl
    by_cases h1 : gz bs (r - n * s) + (n : Int) = bnd bs s r (n + 1)
    · exact ⟨n, by omega, h1⟩
    · have h2 : bnd bs s r (n + 1) = bnd bs s r n := by
        rw [e] at h1 ⊢
        generalize gz bs (r - n * s) + (n : Int) = y at *
        omega
      obtain ⟨j, hj, hv⟩ := bnd_att n (by rw [← h2]; exact h)
      exact ⟨j, by omega, by rw [hv, h2]⟩
theorem labF_win : ∀ k r, r ≤ L → 0 ≤ gz (labF l L k) r ∧ gz (labF l L k) r ≤ 1000000 := by
  intro k
  induction k with
  | zero => intro r h; rw [labF_zero h]; split <;> omega
  | succ k ih =>
    intro r h
    rw [labF_succ h]
    exact ⟨bnd_nonneg _ fun j _ => (ih (r - j * stS l k) (by omega)).1, bnd_le _ _ _ _⟩
theorem shL_labs : shL l L (labs l L) := ⟨labs_len, fun i hi => by rw [gl_labs (by rw [labs_len] at hi; omega), labF_len]⟩
theorem eL_labs (hk : k ≤ l.length) (hr : r ≤ L) : eL l (labs l L) k r = 0 := by
  have hw : win (gz (gl (labs l L) k) r) 0 1000000 = true := by rw [gl_labs hk]; exact win_t.2 (labF_win k r hr)
  by_cases h0 : k = 0
  · subst h0
    rw [eL_zero hw, if_neg]
    rintro ⟨_, h⟩
    rw [gl_labs (Nat.zero_le _), labF_zero (Nat.zero_le _)] at h
    exact h rfl
  · rw [eL_pos (by omega) hw, if_neg]
    obtain ⟨k, rfl⟩ : ∃ j, k = j + 1 := ⟨k - 1, by omega⟩
    rw [gl_labs hk, Nat.add_sub_cancel, gl_labs (by omega), labF_succ hr]
    exact Int.lt_irrefl _
theorem ckl_labs : ckl l L (labs l L) = (gz (labF l L l.length) L, 0) := by
  rw [ckl_ok shL_labs fun k' hk' r' hr' => eL_labs hk' hr', gl_labs (Nat.le_refl _)]
end
/-- How much a filling fills, and how many pieces it has, up to size k. -/
def fS (l : List (Int × Int)) (c : Nat → Nat) : Nat → Nat
  | 0 => 0
  | k + 1 => fS l c k + c k * stS l k
def fN (c : Nat → Nat) : Nat → Nat
  | 0 => 0
  | k + 1 => fN c k + c k
section
variable {l : List (Int × Int)} {L k r : Nat} {c : Nat → Nat}
theorem lab_le : ∀ k, (∀ i, i < k → c i ≤ stC l i ∧ 1 ≤ stS l i) → fS l c k ≤ L → gz (labF l L k) (fS l c k) ≤ (fN c k : Int) := by
  intro k
  induction k with
  | zero => intro _ _; show gz (labF l L 0) 0 ≤ (0 : Int); rw [labF_zero (Nat.zero_le _), if_pos rfl]; exact Int.le_refl _
  | succ k ih =>
    intro h hL
    obtain ⟨h1, h2⟩ := h k (by omega)
    have e : fS l c (k + 1) = fS l c k + c k * stS l k := rfl
    have h3 := ih (fun i hi => h i (by omega)) (by omega)
    rw [labF_succ hL]
    refine Classical.byContradiction fun hn => ?_
    refine absurd ((bnd_lt (labF l L k) (stS l k) (fS l c (k + 1)) ((fN c k : Int) + c k + 1) (stM l k (fS l c (k + 1)) + 1)).2 (.inr ⟨c k, Nat.lt_succ_of_le ((stM_iff h2 _).2 ⟨h1, by omega⟩), ?_⟩)) ?_
    · rw [show fS l c (k + 1) - c k * stS l k = fS l c k by omega]
      omega
    · have e2 : fN c (k + 1) = fN c k + c k := rfl
      unfold bd at hn
      omega
theorem lab_step (hr : r ≤ L) (hs : 1 ≤ stS l k) (h : gz (labF l L (k + 1)) r < 1000000) : ∃ j, j ≤ stC l k ∧ j * stS l k ≤ r ∧ gz (labF l L k) (r - j * stS l k) + (j : Int) = gz (labF l L (k + 1)) r := by
  rw [labF_succ hr] at h ⊢
  obtain ⟨j, hj, hv⟩ := bnd_att _ h
  obtain ⟨h1, h2⟩ := (stM_iff hs j).1 (Nat.le_of_lt_succ hj)
  exact ⟨j, h1, h2, hv⟩
theorem fS_congr {c d : Nat → Nat} : ∀ k, (∀ i, i < k → c i = d i) → fS l c k = fS l d k
  | 0, _ => rfl
  | k + 1, h => by show _ + _ = _ + _; rw [fS_congr k (fun i hi => h i (by omega)), h k (by omega)]
theorem fN_congr {c d : Nat → Nat} : ∀ k, (∀ i, i < k → c i = d i) → fN c k = fN d k
  | 0, _ => rfl
  | k + 1, h => by show _ + _ = _ + _; rw [fN_congr k (fun i hi => h i (by omega)), h k (by omega)]
theorem lab_got : ∀ k r, (∀ i, i < k → 1 ≤ stS l i) → r ≤ L → gz (labF l L k) r < 1000000 → ∃ c : Nat → Nat, (∀ i, i < k → c i ≤ stC l i) ∧ fS l c k = r ∧ (fN c k : Int) = gz (labF l L k) r := by
  intro k
  induction k with
  | zero =>
    intro r _ hr h
    rw [labF_zero hr] at h ⊢
    by_cases h0 : r = 0
    · subst h0; exact ⟨fun _ => 0, fun i hi => absurd hi (Nat.not_lt_zero _), rfl, rfl⟩
    · rw [if_neg h0] at h; exact absurd h (Int.lt_irrefl _)
  | succ k ih =>
    intro r hs hr h
    obtain ⟨j, h1, h2, h3⟩ := lab_step hr (hs k (by omega)) h
    obtain ⟨c, c1, c2, c3⟩ := ih (r - j * stS l k) (fun i hi => hs i (by omega)) (by omega) (by omega)
    refine ⟨fun i => if i = k then j else c i, fun i hi => ?_, ?_, ?_⟩
    · show (if i = k then j else c i) ≤ _
      by_cases e : i = k
      · rw [if_pos e, e]; exact h1
      · rw [if_neg e]; exact c1 i (by omega)
    · show fS l _ k + (if k = k then j else c k) * stS l k = r
      rw [if_pos rfl, fS_congr (d := c) k (fun i hi => if_neg (by omega)), c2]
      omega
    · show ((fN _ k + (if k = k then j else c k) : Nat) : Int) = _
      rw [if_pos rfl, fN_congr (d := c) k (fun i hi => if_neg (by omega)), ← h3, ← c3]
      omega
end
/-- The least of some numbers, at most NoFill. -/
def leastF (f : Nat → Int) : Nat → Int
  | 0 => 1000000
  | n + 1 => min (leastF f n) (f n)
theorem leastF_le {f : Nat → Int} : ∀ n, leastF f n ≤ 1000000 ∧ ∀ j, j < n → leastF f n ≤ f j := by
  intro n
  induction n with
  | zero => exact ⟨Int.le_refl _, fun j hj => absurd hj (Nat.not_lt_zero _)⟩
  | succ n ih =>
    have e : leastF f (n + 1) = min (leastF f n) (f n) := rfl
    refine ⟨by omega, fun j hj => ?_⟩
    by_cases h : j = n
    · subst h; omega
    · have := ih.2 j (by omega); omega
theorem leastF_att {f : Nat → Int} : ∀ n, leastF f n < 1000000 → ∃ j, j < n ∧ f j = leastF f n := by
  intro n
  induction n with
  | zero => intro h; exact absurd h (Int.lt_irrefl _)
  | succ n ih =>
    intro h
    have e : leastF f (n + 1) = min (leastF f n) (f n) := rfl
    by_cases h1 : f n = leastF f (n + 1)
    · exact ⟨n, by omega, h1⟩
    · obtain ⟨j, hj, hv⟩ := ih (by omega)
      exact ⟨j, by omega, by omega⟩
theorem leastF_nonneg {f : Nat → Int} : ∀ n, (∀ j, j < n → 0 ≤ f j) → 0 ≤ leastF f n := by
  intro n
  induction n with
  | zero => intro _; show (0 : Int) ≤ 1000000; omega
  | succ n ih =>
    intro h
    have e : leastF f (n + 1) = min (leastF f n) (f n) := rfl
    have h1 := ih (fun j hj => h j (by omega))
    have h2 := h n (by omega)
    omega
/-- The fewest pieces of the sizes from k on, d of them. -/
def fwd (l : List (Int × Int)) : Nat → Nat → Nat → Int
  | 0, _, r => if r = 0 then 0 else 1000000
  | d + 1, k, r => leastF (fun j => (j : Int) + fwd l d (k + 1) (r - j * stS l k)) (stM l k r + 1)
def gS (l : List (Int × Int)) (c : Nat → Nat) : Nat → Nat → Nat
  | 0, _ => 0
  | d + 1, k => c k * stS l k + gS l c d (k + 1)
def gN (c : Nat → Nat) : Nat → Nat → Nat
  | 0, _ => 0
  | d + 1, k => c k + gN c d (k + 1)
section
variable {l : List (Int × Int)} {L k r : Nat} {c : Nat → Nat}
theorem gS_end : ∀ d k, gS l c (d + 1) k = gS l c d k + c (k + d) * stS l (k + d) := by
  intro d
  induction d with
  | zero => intro k; show c k * stS l k + 0 = 0 + c (k + 0) * stS l (k + 0); rw [Nat.add_zero, Nat.add_zero, Nat.zero_add]
  | succ d ih =>
    intro k
    have h := ih (k + 1)
    rw [show k + 1 + d = k + (d + 1) by omega] at h
    show c k * stS l k + gS l c (d + 1) (k + 1) = c k * stS l k + gS l c d (k + 1) + _
    rw [h, Nat.add_assoc]
theorem gN_end : ∀ d k, gN c (d + 1) k = gN c d k + c (k + d) := by
  intro d
  induction d with
  | zero => intro k; show c k + 0 = 0 + c (k + 0); rw [Nat.add_zero, Nat.add_zero, Nat.zero_add]
  | succ d ih =>
    intro k
    have h := ih (k + 1)
    rw [show k + 1 + d = k + (d + 1) by omega] at h
    show c k + gN c (d + 1) (k + 1) = c k + gN c d (k + 1) + _
    rw [h, Nat.add_assoc]
theorem gS_eq : ∀ d, gS l c d 0 = fS l c d
  | 0 => rfl
  | d + 1 => by rw [gS_end, gS_eq d, Nat.zero_add]; rfl
theorem gN_eq : ∀ d, gN c d 0 = fN c d
  | 0 => rfl
  | d + 1 => by rw [gN_end, gN_eq d, Nat.zero_add]; rfl
theorem gS_congr {c e : Nat → Nat} : ∀ d k, (∀ i, k ≤ i → c i = e i) → gS l c d k = gS l e d k
  | 0, _, _ => rfl
  | d + 1, k, h => by show _ + _ = _ + _; rw [h k (Nat.le_refl _), gS_congr d (k + 1) (fun i hi => h i (by omega))]
theorem gN_congr {c e : Nat → Nat} : ∀ d k, (∀ i, k ≤ i → c i = e i) → gN c d k = gN e d k
  | 0, _, _ => rfl
  | d + 1, k, h => by show _ + _ = _ + _; rw [h k (Nat.le_refl _), gN_congr d (k + 1) (fun i hi => h i (by omega))]
theorem fwd_win : ∀ d k r, 0 ≤ fwd l d k r ∧ fwd l d k r ≤ 1000000 := by
  intro d
  induction d with
  | zero => intro k r; show 0 ≤ (if r = 0 then (0 : Int) else 1000000) ∧ _; unfold fwd; split <;> omega
  | succ d ih =>
    intro k r
    refine ⟨leastF_nonneg _ fun j _ => ?_, (leastF_le _).1⟩
    have := (ih (k + 1) (r - j * stS l k)).1
    omega
theorem fwd_le : ∀ d k, (∀ i, k ≤ i → i < k + d → c i ≤ stC l i ∧ 1 ≤ stS l i) → fwd l d k (gS l c d k) ≤ (gN c d k : Int) := by
  intro d
  induction d with
  | zero => intro k _; exact Int.le_refl _
  | succ d ih =>
    intro k h
    obtain ⟨h1, h2⟩ := h k (Nat.le_refl _) (by omega)
    have e : gS l c (d + 1) k = c k * stS l k + gS l c d (k + 1) := rfl
    have h3 := ih (k + 1) (fun i hi hi' => h i (by omega) (by omega))
    have h4 := (leastF_le (f := fun j => (j : Int) + fwd l d (k + 1) (gS l c (d + 1) k - j * stS l k)) (stM l k (gS l c (d + 1) k) + 1)).2 (c k) (Nat.lt_succ_of_le ((stM_iff h2 _).2 ⟨h1, by omega⟩))
    rw [show gS l c (d + 1) k - c k * stS l k = gS l c d (k + 1) by omega] at h4
    have e2 : gN c (d + 1) k = c k + gN c d (k + 1) := rfl
    rw [e2]
    refine Int.le_trans h4 ?_
    omega
theorem fwd_got : ∀ d k r, (∀ i, k ≤ i → i < k + d → 1 ≤ stS l i) → fwd l d k r < 1000000 → ∃ c : Nat → Nat, (∀ i, k ≤ i → i < k + d → c i ≤ stC l i) ∧ gS l c d k = r ∧ (gN c d k : Int) = fwd l d k r := by
  intro d
  induction d with
  | zero =>
    intro k r _ h
    have h' : (if r = 0 then (0 : Int) else 1000000) < 1000000 := h
    by_cases h0 : r = 0
    · subst h0; exact ⟨fun _ => 0, fun i hi hi' => by omega, rfl, rfl⟩
    · rw [if_neg h0] at h'; exact absurd h' (Int.lt_irrefl _)
  | succ d ih =>
    intro k r hs h
    obtain ⟨j, hj, hv⟩ := leastF_att _ (show leastF (fun j => (j : Int) + fwd l d (k + 1) (r - j * stS l k)) (stM l k r + 1) < 1000000 from h)
    obtain ⟨h1, h2⟩ := (stM_iff (hs k (Nat.le_refl _) (by omega)) j).1 (Nat.le_of_lt_succ hj)
    have h' : fwd l (d + 1) k r = leastF (fun j => (j : Int) + fwd l d (k + 1) (r - j * stS l k)) (stM l k r + 1) := rfl
    have hv' : (j : Int) + fwd l d (k + 1) (r - j * stS l k) = fwd l (d + 1) k r := hv
    obtain ⟨c, c1, c2, c3⟩ := ih (k + 1) (r - j * stS l k) (fun i hi hi' => hs i (by omega) (by omega)) (by omega)
    refine ⟨fun i => if i = k then j else c i, fun i hi hi' => ?_, ?_, ?_⟩
    · show (if i = k then j else c i) ≤ _
      by_cases e : i = k
      · rw [if_pos e, e]; exact h1
      · rw [if_neg e]; exact c1 i (by omega) (by omega)
    · show (if k = k then j else c k) * stS l k + gS l _ d (k + 1) = r
      rw [if_pos rfl, gS_congr (e := c) d (k + 1) (fun i hi => if_neg (by omega)), c2]
      omega
    · show (((if k = k then j else c k) + gN _ d (k + 1) : Nat) : Int) = _
      rw [if_pos rfl, gN_congr (e := c) d (k + 1) (fun i hi => if_neg (by omega)), ← hv', ← c3]
      omega
/-- The last label is the fewest pieces. -/
theorem lab_fwd {n : Nat} (hs : ∀ i, i < n → 1 ≤ stS l i) : gz (labF l L n) L = fwd l n 0 L := by
  have h1 := (labF_win (l := l) (L := L) n L (Nat.le_refl _)).2
  have h2 := (fwd_win (l := l) n 0 L).2
  have h3 : gz (labF l L n) L < 1000000 → fwd l n 0 L ≤ gz (labF l L n) L := fun h => by
    obtain ⟨c, c1, c2, c3⟩ := lab_got n L hs (Nat.le_refl _) h
    rw [← c3, ← gN_eq]
    have := fwd_le (l := l) (c := c) n 0 (fun i _ hi => ⟨c1 i (by omega), hs i (by omega)⟩)
    rw [gS_eq, c2] at this
    exact this
  have h4 : fwd l n 0 L < 1000000 → gz (labF l L n) L ≤ fwd l n 0 L := fun h => by
    obtain ⟨c, c1, c2, c3⟩ := fwd_got n 0 L (fun i _ hi => hs i (by omega)) h
    rw [← c3, gN_eq]
    rw [gS_eq] at c2
    have := lab_le (l := l) (L := L) (c := c) n (fun i hi => ⟨c1 i (Nat.zero_le _) (by omega), hs i hi⟩) (by omega)
    rw [c2] at this
    exact this
  omega
theorem fN_le {n : Nat} (h : ∀ i, i < n → c i ≤ 100) : fN c n ≤ 100 * n := by
  induction n with
  | zero => exact Nat.le_refl _
  | succ n ih =>
    have := ih (fun i hi => h i (by omega))
    have := h n (by omega)
    show fN c n + c n ≤ _
    omega
end
end Go.Proofs.Ytlfeoofchebbkaa
