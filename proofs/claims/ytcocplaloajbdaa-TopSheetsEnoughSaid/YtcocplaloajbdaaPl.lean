/- Chances of enough good sheets: the sum of a binomial row's end, sheet by sheet (plain). -/
namespace Go.Proofs.Ytcocplaloajbdaa
namespace Chance
def bin : Nat → Nat → Nat
  | _, 0 => 1
  | 0, _ + 1 => 0
  | n + 1, g + 1 => bin n g + bin n (g + 1)
theorem bin_zero (n : Nat) : bin n 0 = 1 := by cases n <;> rfl
theorem bin_big : ∀ {n g : Nat}, n < g → bin n g = 0 := by
  intro n
  induction n with
  | zero => intro g h; cases g with
    | zero => omega
    | succ g => rfl
  | succ n ih => intro g h; cases g with
    | zero => omega
    | succ g => show bin n g + bin n (g + 1) = 0; rw [ih (by omega), ih (by omega)]
theorem bin_step : ∀ (n g : Nat), bin n (g + 1) * (g + 1) = bin n g * (n - g) := by
  intro n
  induction n with
  | zero => intro g; rw [Nat.zero_sub]; cases g <;> simp [bin]
  | succ n ih =>
    intro g
    cases g with
    | zero =>
      show (bin n 0 + bin n 1) * 1 = bin (n + 1) 0 * (n + 1)
      have := ih 0
      rw [bin_zero, Nat.sub_zero, Nat.zero_add, Nat.one_mul, Nat.mul_one] at this
      rw [bin_zero, bin_zero]
      omega
    | succ g =>
      show (bin n (g + 1) + bin n (g + 1 + 1)) * (g + 1 + 1) = (bin n g + bin n (g + 1)) * (n + 1 - (g + 1))
      have h1 := ih g
      have h2 := ih (g + 1)
      by_cases hg : g < n
      · obtain ⟨d, rfl⟩ : ∃ d, n = g + 1 + d := ⟨n - (g + 1), by omega⟩
        have e1 : g + 1 + d - g = d + 1 := by omega
        have e2 : g + 1 + d - (g + 1) = d := by omega
        have e3 : g + 1 + d + 1 - (g + 1) = d + 1 := by omega
        rw [e1] at h1
        rw [e2] at h2
        rw [e3, Nat.add_mul, Nat.add_mul, h2, ← h1]
        generalize bin (g + 1 + d) (g + 1) = y
        simp only [Nat.mul_add, Nat.mul_one]
        omega
      · rw [bin_big (show n < g + 1 by omega), bin_big (show n < g + 1 + 1 by omega), show n + 1 - (g + 1) = 0 by omega]
        simp
theorem bin_next (n g : Nat) : bin n g * (n - g) / (g + 1) = bin n (g + 1) := by
  rw [← bin_step]; exact Nat.mul_div_cancel _ (Nat.succ_pos _)
/-- One number of good sheets, if it is enough. -/
def term (p q n k g : Nat) : Nat := if k ≤ g then bin n g * p ^ g * q ^ (n - g) else 0
def acc (p q n k : Nat) : Nat → Nat
  | 0 => 0
  | m + 1 => acc p q n k m + term p q n k m
def S (p q n k : Nat) : Nat := acc p q n k (n + 1)
theorem acc_step (p q n k : Nat) : ∀ m, m ≤ n + 1 → acc p q (n + 1) k (m + 1) = q * acc p q n k (m + 1) + p * acc p q n (k - 1) m := by
  intro m
  induction m with
  | zero =>
    intro _
    simp only [acc, term, bin_zero, Nat.sub_zero, Nat.pow_zero]
    split
    · simp [Nat.pow_succ, Nat.mul_comm]
    · simp
  | succ m ih =>
    intro h
    show acc p q (n + 1) k (m + 1) + term p q (n + 1) k (m + 1) = q * (acc p q n k (m + 1) + term p q n k (m + 1)) + p * (acc p q n (k - 1) m + term p q n (k - 1) m)
    rw [ih (by omega), Nat.mul_add, Nat.mul_add]
    have : term p q (n + 1) k (m + 1) = q * term p q n k (m + 1) + p * term p q n (k - 1) m := by
      unfold term
      by_cases hk : k ≤ m + 1
      · rw [if_pos hk, if_pos hk, if_pos (by omega)]
        show (bin n m + bin n (m + 1)) * p ^ (m + 1) * q ^ (n + 1 - (m + 1)) = _
        rw [show n + 1 - (m + 1) = n - m by omega]
        by_cases hm : m < n
        · obtain ⟨d, hd⟩ : ∃ d, n - m = d + 1 := ⟨n - m - 1, by omega⟩
          rw [show n - (m + 1) = d by omega, hd, Nat.pow_succ, Nat.pow_succ]
          generalize bin n m = x
          generalize bin n (m + 1) = y
          generalize p ^ m = u
          generalize q ^ d = v
          have e1 : x * (u * p) * (v * q) = p * (x * u * (v * q)) := by ac_rfl
          have e2 : y * (u * p) * (v * q) = q * (y * (u * p) * v) := by ac_rfl
          rw [Nat.add_mul, Nat.add_mul, e1, e2]; omega
        · rw [bin_big (show n < m + 1 by omega), show n - m = 0 by omega]
          simp [Nat.pow_succ]
          ac_rfl
      · rw [if_neg hk, if_neg hk, if_neg (by omega)]; simp
    rw [this]; omega
theorem S_step (p q n k : Nat) : S p q (n + 1) k = p * S p q n (k - 1) + q * S p q n k := by
  unfold S
  rw [acc_step p q n k (n + 1) (Nat.le_refl _)]
  have : acc p q n k (n + 1 + 1) = acc p q n k (n + 1) := by
    show acc p q n k (n + 1) + term p q n k (n + 1) = _
    unfold term
    rw [bin_big (Nat.lt_succ_self n)]
    simp
  rw [this, Nat.add_comm]
theorem acc_none (p q n k : Nat) : ∀ m, m ≤ k → acc p q n k m = 0 := by
  intro m
  induction m with
  | zero => intro _; rfl
  | succ m ih => intro h; show acc p q n k m + term p q n k m = 0; rw [ih (by omega), term, if_neg (by omega)]
theorem S_none {p q n k : Nat} (h : n < k) : S p q n k = 0 := acc_none _ _ _ _ _ h
theorem S_all (p q n : Nat) : S p q n 0 = (p + q) ^ n := by
  induction n with
  | zero => simp [S, acc, term, bin]
  | succ n ih => rw [S_step, ih, Nat.pow_succ, ← Nat.add_mul, Nat.mul_comm]
theorem S_le (p q n k : Nat) : S p q n k ≤ (p + q) ^ n := by
  induction n generalizing k with
  | zero =>
    cases k with
    | zero => rw [S_all]; exact Nat.le_refl _
    | succ k => rw [S_none (by omega)]; exact Nat.zero_le _
  | succ n ih =>
    rw [S_step, Nat.pow_succ, Nat.mul_add]
    exact Nat.add_le_add (by rw [Nat.mul_comm]; exact Nat.mul_le_mul_right _ (ih _)) (by rw [Nat.mul_comm]; exact Nat.mul_le_mul_right _ (ih _))
end Chance
end Go.Proofs.Ytcocplaloajbdaa
