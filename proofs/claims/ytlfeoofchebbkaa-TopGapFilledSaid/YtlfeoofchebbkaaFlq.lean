/- Fillings and their numbers (plain): what is found, what any counts are, one piece of furniture more. -/
import Derived.Test.YtlfeoofchebbkaaFlp
namespace Go.Proofs.Ytlfeoofchebbkaa
set_option linter.unusedSimpArgs false
set_option linter.unusedVariables false
open Go.RowKit
section
variable {l : List (Int × Int)} {len : Int} {cs : List Int} {c : Nat → Nat}
theorem fillSum_fS {L : Nat} (hok : StRt l len L) : ∀ k, k ≤ l.length → (∀ i, i < k → gz cs i = (c i : Int)) → fillSum l cs k = (fS l c k : Int) := by
  intro k
  induction k with
  | zero => intro _ _; rfl
  | succ k ih =>
    intro hk h
    show fillSum l cs k + gz cs k * (gf l k).1 = ((fS l c k + c k * stS l k : Nat) : Int)
    rw [ih (by omega) (fun i hi => h i (by omega)), h k (by omega), (hok.s k (by omega)).1, Int.natCast_add, Int.natCast_mul]
theorem sumTo_fN : ∀ k, (∀ i, i < k → gz cs i = (c i : Int)) → sumTo k (gz cs) = (fN c k : Int) := by
  intro k
  induction k with
  | zero => intro _; rfl
  | succ k ih =>
    intro h
    show sumTo k (gz cs) + gz cs k = ((fN c k + c k : Nat) : Int)
    rw [ih (fun i hi => h i (by omega)), h k (by omega), Int.natCast_add]
theorem checkFl_good (hs : checkSt l len = 0) (hl : cs.length = l.length) (h : ∀ i, i < l.length → gz cs i = (c i : Int) ∧ c i ≤ stC l i) (hf : fS l c l.length = len.toNat) : checkFl l len cs = ((fN c l.length : Int), 0) := by
  have hok := st_ok hs
  unfold checkFl
  rw [if_neg (by omega), if_neg (by omega), fstE_none (fun j hj => ?_), if_neg (by decide), fillSum_fS hok _ (Nat.le_refl _) (fun i hi => (h i hi).1), if_neg (by have := hok.L0; omega), hl, sumTo_fN _ (fun i hi => (h i hi).1)]
  unfold clErr
  rw [if_neg]
  obtain ⟨h1, h2⟩ := h j hj
  obtain ⟨h3, h4⟩ := hok.c j hj
  rw [win_t.2 ⟨by omega, by omega⟩]
  decide
theorem checkFl_inv (hs : checkSt l len = 0) (h : (checkFl l len cs).2 = 0) : cs.length = l.length ∧ ∃ c : Nat → Nat, (∀ i, i < l.length → gz cs i = (c i : Int) ∧ c i ≤ stC l i) ∧ fS l c l.length = len.toNat ∧ (checkFl l len cs).1 = (fN c l.length : Int) := by
  have hok := st_ok hs
  unfold checkFl at h ⊢
  rw [if_neg (by omega)] at h ⊢
  by_cases h1 : cs.length ≠ l.length
  · rw [if_pos h1] at h; exact absurd h (by decide)
  · rw [if_neg h1] at h ⊢
    by_cases h2 : (fstE (clErr l cs) l.length).2 ≠ 0
    · rw [if_pos h2] at h; exact absurd h (by decide)
    · rw [if_neg h2] at h ⊢
      by_cases h3 : fillSum l cs l.length ≠ len
      · rw [if_pos h3] at h; exact absurd h (by decide)
      · rw [if_neg h3] at h ⊢
        have hz := fstE_zero (show (fstE (clErr l cs) l.length).2 = 0 by omega)
        have hg : ∀ i, i < l.length → gz cs i = ((gz cs i).toNat : Int) ∧ (gz cs i).toNat ≤ stC l i := fun i hi => by
          have := hz i hi
          unfold clErr at this
          obtain ⟨h4, h5⟩ := hok.c i hi
          cases hw : win (gz cs i) 0 (gf l i).2 with
          | false => rw [if_pos hw] at this; exact absurd this (by decide)
          | true =>
            have := win_t.1 hw
            omega
        have hl : cs.length = l.length := by omega
        refine ⟨hl, fun i => (gz cs i).toNat, hg, ?_, ?_⟩
        · have := fillSum_fS hok (c := fun i => (gz cs i).toNat) _ (Nat.le_refl _) (fun i hi => (hg i hi).1)
          have := hok.L0
          omega
        · show sumTo cs.length (gz cs) = _
          rw [hl]
          exact sumTo_fN _ (fun i hi => (hg i hi).1)
/-- No filling has fewer pieces than the last label. -/
theorem lab_least (hs : checkSt l len = 0) (h : (checkFl l len cs).2 = 0) : gz (labF l len.toNat l.length) len.toNat ≤ (checkFl l len cs).1 ∧ (checkFl l len cs).1 ≤ 1200 := by
  have hok := st_ok hs
  obtain ⟨-, c, c1, c2, c3⟩ := checkFl_inv hs h
  have h1 := lab_le (l := l) (L := len.toNat) (c := c) l.length (fun i hi => ⟨(c1 i hi).2, (hok.s i hi).2.1⟩) (by omega)
  rw [c2] at h1
  have h2 := fN_le (c := c) (n := l.length) (fun i hi => by have := (c1 i hi).2; have := (hok.c i hi).2; omega)
  have := hok.n12
  rw [c3]
  exact ⟨h1, by omega⟩
end
/-- One piece of a size more. -/
def bump (l : List (Int × Int)) (i : Nat) : List (Int × Int) := l.set i ((gf l i).1, (gf l i).2 + 1)
section
variable {l : List (Int × Int)} {len : Int} {i : Nat}
theorem bump_len : (bump l i).length = l.length := by simp [bump]
theorem gf_bump (hi : i < l.length) (j : Nat) : gf (bump l i) j = if j = i then ((gf l i).1, (gf l i).2 + 1) else gf l j := by
  unfold bump
  simp only [gf, List.getD_eq_getElem?_getD, List.getElem?_set]
  by_cases e : j = i
  · subst e; simp [hi]
  · rw [if_neg (fun h => e h.symm), if_neg e]
theorem checkSt_of_ok (h : StOk l len) : checkSt l len = 0 := by
  unfold checkSt
  have := h.few
  rw [if_neg (by omega), fstE_none (fun j hj => ?_), if_neg (by decide), if_neg]
  · rw [win_t.2 ⟨h.len0, h.len1⟩]; decide
  · unfold stErr
    rw [if_neg, if_neg]
    · rintro ⟨h0, h1⟩
      have := h.up j h0 hj
      omega
    · rw [win_t.2 (h.s j hj), win_t.2 (h.c j hj)]
      decide
theorem bump_ok (hs : checkSt l len = 0) (hi : i < l.length) (hc : (gf l i).2 < 100) : checkSt (bump l i) len = 0 := by
  have h := checkSt_zero hs
  have h1 : ∀ j, (gf (bump l i) j).1 = (gf l j).1 := fun j => by
    rw [gf_bump hi]
    by_cases e : j = i
    · rw [if_pos e, e]
    · rw [if_neg e]
  refine checkSt_of_ok ⟨by rw [bump_len]; exact h.few, fun j hj => by rw [h1]; exact h.s j (by rw [bump_len] at hj; exact hj), fun j hj => ?_, fun j h0 hj => by rw [h1, h1]; exact h.up j h0 (by rw [bump_len] at hj; exact hj), h.len0, h.len1⟩
  rw [bump_len] at hj
  have := h.c j hj
  rw [gf_bump hi]
  by_cases e : j = i
  · subst e; rw [if_pos rfl]; show 0 ≤ (gf l j).2 + 1 ∧ (gf l j).2 + 1 ≤ 100; omega
  · rw [if_neg e]; exact this
theorem stS_bump (hi : i < l.length) (j : Nat) : stS (bump l i) j = stS l j := by
  unfold stS
  rw [gf_bump hi]
  by_cases e : j = i
  · rw [if_pos e, e]
  · rw [if_neg e]
theorem stC_bump (hi : i < l.length) (j : Nat) : stC l j ≤ stC (bump l i) j := by
  unfold stC
  rw [gf_bump hi]
  by_cases e : j = i
  · subst e; rw [if_pos rfl]; show _ ≤ ((gf l j).2 + 1).toNat; omega
  · rw [if_neg e]; exact Nat.le_refl _
theorem fS_bump (hi : i < l.length) (c : Nat → Nat) : ∀ k, fS (bump l i) c k = fS l c k
  | 0 => rfl
  | k + 1 => by show _ + _ * _ = _ + _ * _; rw [fS_bump hi c k, stS_bump hi]
/-- With one piece more not more are needed. -/
theorem bump_lab (hs : checkSt l len = 0) (hi : i < l.length) (h : gz (labF l len.toNat l.length) len.toNat < 1000000) : gz (labF (bump l i) len.toNat (bump l i).length) len.toNat ≤ gz (labF l len.toNat l.length) len.toNat := by
  have hok := st_ok hs
  obtain ⟨c, c1, c2, c3⟩ := lab_got (l := l) (L := len.toNat) l.length len.toNat (fun j hj => (hok.s j hj).2.1) (Nat.le_refl _) h
  have h1 := lab_le (l := bump l i) (L := len.toNat) (c := c) l.length (fun j hj => ⟨Nat.le_trans (c1 j hj) (stC_bump hi j), by rw [stS_bump hi]; exact (hok.s j hj).2.1⟩) (by rw [fS_bump hi]; omega)
  rw [fS_bump hi, c2] at h1
  rw [bump_len, ← c3]
  exact h1
end
end Go.Proofs.Ytlfeoofchebbkaa
