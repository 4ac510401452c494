/- A right forme passes the check. -/
import Derived.Test.YtlfeoofchebbkaaDoorRgt
namespace Go.Proofs.YtlfeoofchebbkaaDoor
set_option linter.unusedSimpArgs false
set_option linter.unusedVariables false
open Go.RowKit
theorem idxN {pr : Nat → Bool} {n : Nat} (h : ∀ j, j < n → pr j = false) : ¬ 0 ≤ idx pr n := by rw [idx_none h]; omega
theorem right_pErr {f : Forme} (h : f.Right) {i : Nat} (hi : i < f.ps.length) : pErr f i = 0 := by
  have hmem : ∀ j, j < f.ps.length → gp f.ps j ∈ f.ps := fun j hj => by rw [gp_get hj]; exact List.getElem_mem _
  have hin := h.inn _ (hmem i hi)
  have hin' := hin
  unfold Piece.inn at hin'
  have hW := h.w2
  have hH := h.h2
  unfold pErr
  rw [h.nm _ (hmem i hi), if_neg (by decide), if_neg (idxN fun j hj => h.diff i j hj hi), win_t.2 (h.kind _ (hmem i hi)), if_neg (by decide),
    show insB (gp f.ps i).x (gp f.ps i).w f.W = true by unfold insB; rw [decide_eq_true_eq]; omega, show insB (gp f.ps i).y (gp f.ps i).h f.H = true by unfold insB; rw [decide_eq_true_eq]; omega, if_neg (by decide), if_neg]
  refine idxN fun j hj => ?_
  have hj' : j < f.ps.length := by omega
  have hpw := List.pairwise_iff_getElem.1 h.apart j i hj' hi hj
  rw [← gp_get hj', ← gp_get hi] at hpw
  have hjn := h.inn _ (hmem j hj')
  unfold Piece.inn at hjn
  unfold Piece.meet at hpw
  unfold meetB
  rw [decide_eq_false_iff_not, IntWalk.wrap64_in _ (by omega), IntWalk.wrap64_in _ (by omega), IntWalk.wrap64_in _ (by omega), IntWalk.wrap64_in _ (by omega)]
  omega
theorem right_check {f : Forme} (h : f.Right) : (checkF f).2 = 0 := by
  unfold checkF
  rw [if_neg (show ¬ (win f.W 1 4000 = false ∨ win f.H 1 4000 = false) by rw [win_t.2 ⟨h.w1, h.w2⟩, win_t.2 ⟨h.h1, h.h2⟩]; decide), if_neg (by have := h.few; omega), fstE_none fun j hj => right_pErr h hj]
end Go.Proofs.YtlfeoofchebbkaaDoor
