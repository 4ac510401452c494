/- Plain: a round of the best ways, place by place. -/
import Derived.Test.YtefjhhgfkdkfaaaWyr
namespace Go.Proofs.Ytefjhhgfkdkfaaa
set_option linter.unusedSimpArgs false
set_option linter.unusedVariables false
theorem stp_mem {t : Tb} {i : Nat} : ∀ {m j : Nat}, j ∈ stp t i m ↔ (i < j ∧ j ≤ i + m ∧ (t i j).isSome = true)
  | 0, j => by simp [stp]; omega
  | m + 1, j => by
    unfold stp
    have ih := stp_mem (t := t) (i := i) (m := m) (j := j)
    by_cases h : (t i (i + 1 + m)).isSome = true
    · rw [if_pos h, List.mem_append, List.mem_singleton, ih]
      constructor
      · rintro (⟨h1, h2, h3⟩ | h1)
        · exact ⟨h1, by omega, h3⟩
        · subst h1; exact ⟨by omega, by omega, h⟩
      · rintro ⟨h1, h2, h3⟩
        by_cases e : j = i + 1 + m
        · exact .inr e
        · exact .inl ⟨h1, by omega, h3⟩
    · rw [if_neg h, ih]
      constructor
      · rintro ⟨h1, h2, h3⟩; exact ⟨h1, by omega, h3⟩
      · rintro ⟨h1, h2, h3⟩
        by_cases e : j = i + 1 + m
        · subst e; exact absurd h3 h
        · exact ⟨h1, by omega, h3⟩
/-- The ways while the lines from k are gone through: pre have been. -/
def prt (t : Tb) (k : Nat) (pre : List Nat) (j : Nat) : Nat × Int := if j ∈ pre then fwd t (k + 1) j else fwd t k j
theorem fwd_some {t : Tb} {k j d : Nat} (h : t k j = some d) (hk : (fwd t k k).1 < ML) : fwd t (k + 1) j = if (fwd t k k).1 + d < (fwd t k j).1 then ((fwd t k k).1 + d, (k : Int)) else fwd t k j := by
  show (match t k j with | none => fwd t k j | some d => if (fwd t k k).1 < ML ∧ (fwd t k k).1 + d < (fwd t k j).1 then ((fwd t k k).1 + d, (k : Int)) else fwd t k j) = _
  rw [h]
  by_cases h2 : (fwd t k k).1 + d < (fwd t k j).1
  · show (if _ then _ else _) = _
    rw [if_pos ⟨hk, h2⟩, if_pos h2]
  · show (if _ then _ else _) = _
    rw [if_neg (fun h => h2 h.2), if_neg h2]
theorem fwd_none {t : Tb} {k j : Nat} (h : t k j = none) : fwd t (k + 1) j = fwd t k j := by
  show (match t k j with | none => fwd t k j | some d => _) = _
  rw [h]
theorem fwd_ml {t : Tb} {k : Nat} (h : (fwd t k k).1 = ML) (j : Nat) : fwd t (k + 1) j = fwd t k j := by
  cases hd : t k j with
  | none => exact fwd_none hd
  | some d =>
    show (match t k j with | none => fwd t k j | some d => if (fwd t k k).1 < ML ∧ (fwd t k k).1 + d < (fwd t k j).1 then ((fwd t k k).1 + d, (k : Int)) else fwd t k j) = _
    rw [hd]
    show (if _ then _ else _) = _
    rw [if_neg (fun h2 => by omega)]
/-- One line more. -/
theorem prt_step {t : Tb} {k j d : Nat} {pre : List Nat} (h : t k j = some d) (hk : (fwd t k k).1 < ML) :
    (if (fwd t k k).1 + d < (prt t k pre j).1 then ((fwd t k k).1 + d, (k : Int)) else prt t k pre j) = fwd t (k + 1) j := by
  unfold prt
  by_cases hp : j ∈ pre
  · rw [if_pos hp]
    have h1 := fwd_some h hk
    by_cases h2 : (fwd t k k).1 + d < (fwd t k j).1
    · rw [if_pos h2] at h1
      rw [h1, if_neg (by simp)]
    · rw [if_neg h2] at h1
      rw [h1, if_neg h2]
  · rw [if_neg hp, fwd_some h hk]
theorem prt_snoc {t : Tb} {k j : Nat} {pre : List Nat} : prt t k (pre ++ [j]) = fun i => if i = j then fwd t (k + 1) j else prt t k pre i := by
  funext i
  unfold prt
  by_cases e : i = j
  · subst e; simp
  · simp [e]
theorem prt_stay {t : Tb} {k j d : Nat} {pre : List Nat} (h : t k j = some d) (hk : (fwd t k k).1 < ML) (hn : ¬ (fwd t k k).1 + d < (prt t k pre j).1) : prt t k (pre ++ [j]) = prt t k pre := by
  rw [prt_snoc]
  funext i
  by_cases e : i = j
  · subst e
    rw [if_pos rfl, ← prt_step (pre := pre) h hk, if_neg hn]
  · rw [if_neg e]
theorem prt_end {t : Tb} {n D k : Nat} (ht : TbOk t n D) (hk : k < n) : ∀ j, j < n → prt t k (stp t k (n - 1 - k)) j = fwd t (k + 1) j := fun j hj => by
  unfold prt
  by_cases hp : j ∈ stp t k (n - 1 - k)
  · rw [if_pos hp]
  · rw [if_neg hp]
    symm
    apply fwd_none
    cases hd : t k j with
    | none => rfl
    | some d =>
      exfalso
      apply hp
      have := ht.up hd
      rw [stp_mem, hd]
      exact ⟨this.1, by omega, rfl⟩
theorem prt_nil (t : Tb) (k : Nat) : prt t k [] = fwd t k := by funext i; simp [prt]
theorem prt_k {t : Tb} {n D k : Nat} (ht : TbOk t n D) {pre : List Nat} : (prt t k pre k) = fwd t k k := by
  unfold prt
  by_cases hp : k ∈ pre
  · rw [if_pos hp]
    apply fwd_none
    cases hd : t k k with
    | none => rfl
    | some d => have := ht.up hd; omega
  · rw [if_neg hp]
theorem fwd_start (t : Tb) (j : Nat) : fwd t 0 j = if j = 0 then (0, -1) else (ML, -1) := rfl
end Go.Proofs.Ytefjhhgfkdkfaaa
