/- Right labels, and the first error of others (plain). -/
import Derived.Test.YtlfeoofchebbkaaLbl
import Derived.Test.YtlfeoofchebbkaaBnd
import Derived.Test.YtlfeoofchebbkaaStk
import Derived.Test.YtlfeoofchebbkaaRgt
namespace Go.Proofs.Ytlfeoofchebbkaa
set_option linter.unusedSimpArgs false
set_option linter.unusedVariables false
open Go.RowKit
def stS (l : List (Int × Int)) (k : Nat) : Nat := (gf l k).1.toNat
def stC (l : List (Int × Int)) (k : Nat) : Nat := (gf l k).2.toNat
/-- How many of a size may be taken at most. -/
def stM (l : List (Int × Int)) (k r : Nat) : Nat := min (stC l k) (r / stS l k)
def bd (bs : List Int) (l : List (Int × Int)) (k r : Nat) : Int := bnd bs (stS l k) r (stM l k r + 1)
def eL (l : List (Int × Int)) (ls : List (List Int)) (k r : Nat) : Int :=
  if win (gz (gl ls k) r) 0 1000000 = false then 2
  else if k = 0 then (if r = 0 ∧ gz (gl ls 0) 0 ≠ 0 then 22 else 0)
  else if bd (gl ls (k - 1)) l (k - 1) r < gz (gl ls k) r then 22 else 0
def shL (l : List (Int × Int)) (L : Nat) (ls : List (List Int)) : Prop := ls.length = l.length + 1 ∧ ∀ i, i < ls.length → (gl ls i).length = L + 1
instance (l : List (Int × Int)) (L : Nat) (ls : List (List Int)) : Decidable (shL l L ls) := by unfold shL; exact inferInstance
def ckl (l : List (Int × Int)) (L : Nat) (ls : List (List Int)) : Int × Int :=
  if shL l L ls then
    (if (fstE (fun q => eL l ls (q / (L + 1)) (q % (L + 1))) ((l.length + 1) * (L + 1))).2 ≠ 0 then (0, (fstE (fun q => eL l ls (q / (L + 1)) (q % (L + 1))) ((l.length + 1) * (L + 1))).2) else (gz (gl ls l.length) L, 0))
  else (0, 10)
section
variable {l : List (Int × Int)} {L : Nat} {ls : List (List Int)} {k r : Nat} {e : Int}
theorem ckl_shape (h : ¬ shL l L ls) : ckl l L ls = (0, 10) := by unfold ckl; rw [if_neg h]
theorem ckl_hit (h : shL l L ls) (hk : k ≤ l.length) (hr : r ≤ L) (hE : ∀ k', k' < k → ∀ r', r' ≤ L → eL l ls k' r' = 0) (hR : ∀ r', r' < r → eL l ls k r' = 0) (he : eL l ls k r = e) (h0 : e ≠ 0) : ckl l L ls = (0, e) := by
  have hq : (k * (L + 1) + r) / (L + 1) = k := by
    rw [Nat.mul_comm, Nat.mul_add_div (by omega), Nat.div_eq_of_lt (by omega)]; rfl
  have hm : (k * (L + 1) + r) % (L + 1) = r := by
    rw [Nat.mul_comm, Nat.mul_add_mod, Nat.mod_eq_of_lt (by omega)]
  have hlt : k * (L + 1) + r < (l.length + 1) * (L + 1) := by
    have : (k + 1) * (L + 1) ≤ (l.length + 1) * (L + 1) := Nat.mul_le_mul_right _ (by omega)
    rw [Nat.succ_mul] at this
    omega
  have hf := fstE_hit (g := fun q => eL l ls (q / (L + 1)) (q % (L + 1))) (k := k * (L + 1) + r) (by show eL l ls _ _ ≠ 0; rw [hq, hm, he]; exact h0) (fun j hj => by
    show eL l ls (j / (L + 1)) (j % (L + 1)) = 0
    have h1 : j % (L + 1) < L + 1 := Nat.mod_lt _ (by omega)
    have h2 := Nat.div_add_mod j (L + 1)
    by_cases hk' : j / (L + 1) < k
    · exact hE _ hk' _ (by omega)
    · have h3 : j / (L + 1) = k := by
        rcases Nat.lt_or_ge k (j / (L + 1)) with h4 | h4
        · have : (L + 1) * (k + 1) ≤ (L + 1) * (j / (L + 1)) := Nat.mul_le_mul_left _ h4
          rw [Nat.mul_succ, Nat.mul_comm (L + 1) k] at this
          omega
        · omega
      rw [h3]
      refine hR _ ?_
      rw [h3, Nat.mul_comm (L + 1) k] at h2
      omega) hlt
  unfold ckl
  rw [if_pos h, hf]
  show (if eL l ls ((k * (L + 1) + r) / (L + 1)) ((k * (L + 1) + r) % (L + 1)) ≠ 0 then _ else _) = _
  rw [hq, hm, he, if_pos h0]
theorem ckl_ok (h : shL l L ls) (hE : ∀ k', k' ≤ l.length → ∀ r', r' ≤ L → eL l ls k' r' = 0) : ckl l L ls = (gz (gl ls l.length) L, 0) := by
  unfold ckl
  rw [if_pos h, fstE_none (g := fun q => eL l ls (q / (L + 1)) (q % (L + 1))) (n := (l.length + 1) * (L + 1)) fun j hj => ?_]
  · rw [if_neg (by simp)]
  · show eL l ls (j / (L + 1)) (j % (L + 1)) = 0
    refine hE _ ?_ _ (Nat.le_of_lt_succ (Nat.mod_lt _ (by omega)))
    exact Nat.le_of_lt_succ (Nat.div_lt_of_lt_mul (by rw [Nat.mul_comm]; exact hj))
theorem stM_iff (hs : 1 ≤ stS l k) (j : Nat) : j ≤ stM l k r ↔ (j ≤ stC l k ∧ j * stS l k ≤ r) := by
  unfold stM
  rw [Nat.le_min, Nat.le_div_iff_mul_le (by omega)]
end
/-- A right stock. -/
structure StRt (l : List (Int × Int)) (len : Int) (L : Nat) : Prop where
  n12 : l.length ≤ 12
  L0 : len = (L : Int)
  L1 : L ≤ 300
  s : ∀ k, k < l.length → (gf l k).1 = (stS l k : Int) ∧ 1 ≤ stS l k ∧ stS l k ≤ 300
  c : ∀ k, k < l.length → (gf l k).2 = (stC l k : Int) ∧ stC l k ≤ 100
theorem st_ok {l : List (Int × Int)} {len : Int} (h : checkSt l len = 0) : StRt l len len.toNat := by
  unfold checkSt at h
  by_cases h12 : 12 < l.length
  · rw [if_pos h12] at h; exact absurd h (by decide)
  · rw [if_neg h12] at h
    by_cases hf : (fstE (stErr l) l.length).2 ≠ 0
    · rw [if_pos hf] at h; exact absurd h hf
    · rw [if_neg hf] at h
      by_cases hw : win len 0 300 = false
      · rw [if_pos hw] at h; exact absurd h (by decide)
      · have hw' := win_t.1 (by simpa using hw)
        have hz : ∀ k, k < l.length → stErr l k = 0 := fstE_zero (Classical.byContradiction hf)
        have hk : ∀ k, k < l.length → win (gf l k).1 1 300 = true ∧ win (gf l k).2 0 100 = true := fun k hk => by
          have := hz k hk
          unfold stErr at this
          by_cases h1 : win (gf l k).1 1 300 = false ∨ win (gf l k).2 0 100 = false
          · rw [if_pos h1] at this; exact absurd this (by decide)
          · exact ⟨by cases hh : win (gf l k).1 1 300 <;> simp_all, by cases hh : win (gf l k).2 0 100 <;> simp_all⟩
        refine ⟨by omega, by omega, by omega, fun k hk' => ?_, fun k hk' => ?_⟩
        · have := win_t.1 (hk k hk').1
          unfold stS
          omega
        · have := win_t.1 (hk k hk').2
          unfold stC
          omega
end Go.Proofs.Ytlfeoofchebbkaa
