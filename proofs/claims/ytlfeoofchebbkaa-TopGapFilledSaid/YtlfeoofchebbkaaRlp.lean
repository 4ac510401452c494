/- Labels, as the reference asks them (plain). -/
import Derived.Test.YtlfeoofchebbkaaLbp
namespace Go.Proofs.Ytlfeoofchebbkaa
set_option linter.unusedSimpArgs false
set_option linter.unusedVariables false
open Go.RowKit
theorem bnd_lt (bs : List Int) (s r : Nat) (z : Int) : ∀ n, bnd bs s r n < z ↔ 1000000 < z ∨ ∃ j, j < n ∧ gz bs (r - j * s) + (j : Int) < z := by
  intro n
  induction n with
  | zero =>
    constructor
    · intro h; exact .inl h
    · rintro (h | ⟨j, hj, _⟩)
      · exact h
      · exact absurd hj (Nat.not_lt_zero _)
  | succ n ih =>
    show min (bnd bs s r n) (gz bs (r - n * s) + n) < z ↔ _
    have h1 : min (bnd bs s r n) (gz bs (r - n * s) + n) < z ↔ bnd bs s r n < z ∨ gz bs (r - n * s) + (n : Int) < z := by
      generalize gz bs (r - n * s) + (n : Int) = y
      omega
    rw [h1, ih]
    constructor
    · rintro ((h | ⟨j, hj, h⟩) | h)
      · exact .inl h
      · exact .inr ⟨j, by omega, h⟩
      · exact .inr ⟨n, by omega, h⟩
    · rintro (h | ⟨j, hj, h⟩)
      · exact .inl (.inl h)
      · by_cases e : j = n
        · subst e; exact .inr h
        · exact .inl (.inr ⟨j, by omega, h⟩)
section
variable {l : List (Int × Int)} {ls : List (List Int)} {k r j : Nat}
theorem eL_pos (hk : 0 < k) (hw : win (gz (gl ls k) r) 0 1000000 = true) : eL l ls k r = if bd (gl ls (k - 1)) l (k - 1) r < gz (gl ls k) r then 22 else 0 := by
  unfold eL; rw [if_neg (by rw [hw]; decide), if_neg (by omega)]
theorem eL_hit (hk : 0 < k) (hw : win (gz (gl ls k) r) 0 1000000 = true) (hs : 1 ≤ stS l (k - 1)) (hj : j ≤ stC l (k - 1)) (hr : j * stS l (k - 1) ≤ r) (h : gz (gl ls (k - 1)) (r - j * stS l (k - 1)) + (j : Int) < gz (gl ls k) r) : eL l ls k r = 22 := by
  rw [eL_pos hk hw, if_pos]
  exact (bnd_lt _ _ _ _ _).2 (.inr ⟨j, Nat.lt_succ_of_le ((stM_iff hs j).2 ⟨hj, hr⟩), h⟩)
theorem eL_miss (hk : 0 < k) (hw : win (gz (gl ls k) r) 0 1000000 = true) (hs : 1 ≤ stS l (k - 1)) (h : ∀ j, j ≤ stC l (k - 1) → j * stS l (k - 1) ≤ r → ¬ gz (gl ls (k - 1)) (r - j * stS l (k - 1)) + (j : Int) < gz (gl ls k) r) : eL l ls k r = 0 := by
  rw [eL_pos hk hw, if_neg]
  intro h1
  rcases (bnd_lt _ _ _ _ _).1 h1 with h2 | ⟨j, hj, h2⟩
  · have := win_t.1 hw; omega
  · obtain ⟨h3, h4⟩ := (stM_iff hs j).1 (Nat.le_of_lt_succ hj)
    exact h j h3 h4 h2
theorem eL_out (hw : win (gz (gl ls k) r) 0 1000000 = false) : eL l ls k r = 2 := by unfold eL; rw [if_pos hw]
theorem eL_zero (hw : win (gz (gl ls 0) r) 0 1000000 = true) : eL l ls 0 r = if r = 0 ∧ gz (gl ls 0) 0 ≠ 0 then 22 else 0 := by
  unfold eL; rw [if_neg (by rw [hw]; decide), if_pos rfl]
end
end Go.Proofs.Ytlfeoofchebbkaa
