/- RowAt, ColumnAt: plain: the pieces that are so, in the order of a number of each. -/
import Derived.Test.YtlfeoofchebbkaaGap
import Derived.Test.YtlfeoofchebbkaaRgt
namespace Go.Proofs.Ytlfeoofchebbkaa
set_option linter.unusedSimpArgs false
set_option linter.unusedVariables false
/-- The numbers of the pieces that are so. -/
def aloI (ps : List Piece) (is : Piece → Bool) : List Nat := (List.range ps.length).filter fun i => is (gp ps i)
/-- .. in the order of a number of each. -/
def aloS (ps : List Piece) (is : Piece → Bool) (ord : Piece → Int) : List Nat := (aloI ps is).mergeSort fun i k => decide (ord (gp ps i) ≤ ord (gp ps k))
def isRow (y : Int) (p : Piece) : Bool := covB p p.x y
def isCol (x : Int) (p : Piece) : Bool := covB p x p.y
theorem mem_aloI {ps : List Piece} {is : Piece → Bool} {i : Nat} : i ∈ aloI ps is ↔ i < ps.length ∧ is (gp ps i) = true := by simp [aloI]
theorem aloI_nodup (ps : List Piece) (is : Piece → Bool) : (aloI ps is).Nodup := List.Pairwise.filter _ List.nodup_range
theorem aloS_perm (ps : List Piece) (is : Piece → Bool) (ord : Piece → Int) : (aloS ps is ord).Perm (aloI ps is) := List.mergeSort_perm _ _
theorem aloS_sorted (ps : List Piece) (is : Piece → Bool) (ord : Piece → Int) : (aloS ps is ord).Pairwise fun i k => ord (gp ps i) ≤ ord (gp ps k) := by
  have h := List.pairwise_mergeSort (le := fun i k => decide (ord (gp ps i) ≤ ord (gp ps k))) (fun a b c h1 h2 => by simp at *; omega) (fun a b => by simp; omega) (aloI ps is)
  exact h.imp fun h => by simpa using h
theorem mem_aloS {ps : List Piece} {is : Piece → Bool} {ord : Piece → Int} {i : Nat} : i ∈ aloS ps is ord ↔ i < ps.length ∧ is (gp ps i) = true := (aloS_perm ps is ord).mem_iff.trans mem_aloI
/-- Any list of them that is in order is this one, where the numbers differ. -/
theorem aloS_uniq {ps : List Piece} {is : Piece → Bool} {ord : Piece → Int} {l : List Nat} (hi : ∀ i k, i ∈ aloI ps is → k ∈ aloI ps is → ord (gp ps i) = ord (gp ps k) → i = k) (hp : l.Perm (aloI ps is)) (hs : l.Pairwise fun i k => ord (gp ps i) ≤ ord (gp ps k)) : l = aloS ps is ord := by
  refine List.Perm.eq_of_pairwise (le := fun i k => ord (gp ps i) ≤ ord (gp ps k)) (fun a b ha hb h1 h2 => hi a b (hp.mem_iff.1 ha) ((aloS_perm ps is ord).mem_iff.1 hb) (by omega)) hs (aloS_sorted ps is ord) (hp.trans (aloS_perm ps is ord).symm)
theorem pmem {ps : List Piece} {i : Nat} (h : i < ps.length) : gp ps i ∈ ps := by rw [gp_get h]; exact List.getElem_mem h
theorem row_iff {p : Piece} {y : Int} (hw : 1 ≤ p.w) : isRow y p = true ↔ p.y ≤ y ∧ y < p.y + p.h := by
  unfold isRow; rw [covB_iff]; unfold Piece.cov; omega
theorem col_iff {p : Piece} {x : Int} (hh : 1 ≤ p.h) : isCol x p = true ↔ p.x ≤ x ∧ x < p.x + p.w := by
  unfold isCol; rw [covB_iff]; unfold Piece.cov; omega
theorem Forme.Laid.row_inj {f : Forme} (h : f.Laid) (y : Int) : ∀ i k, i ∈ aloI f.ps (isRow y) → k ∈ aloI f.ps (isRow y) → (gp f.ps i).x = (gp f.ps k).x → i = k := by
  intro i k hi hk e
  obtain ⟨i1, i2⟩ := mem_aloI.1 hi
  obtain ⟨k1, k2⟩ := mem_aloI.1 hk
  have pi := h.inn _ (pmem i1)
  have pk := h.inn _ (pmem k1)
  rw [row_iff pi.1] at i2
  rw [row_iff pk.1] at k2
  have ap := List.pairwise_iff_getElem.1 h.apart
  rcases Nat.lt_trichotomy i k with hlt | heq | hgt
  · have := ap i k i1 k1 hlt
    rw [← gp_get i1, ← gp_get k1] at this
    exact absurd (show (gp f.ps i).meet (gp f.ps k) from ⟨by have := pk.1; omega, by have := pi.1; omega, by omega, by omega⟩) this
  · exact heq
  · have := ap k i k1 i1 hgt
    rw [← gp_get i1, ← gp_get k1] at this
    exact absurd (show (gp f.ps k).meet (gp f.ps i) from ⟨by have := pi.1; omega, by have := pk.1; omega, by omega, by omega⟩) this
theorem Forme.Laid.col_inj {f : Forme} (h : f.Laid) (x : Int) : ∀ i k, i ∈ aloI f.ps (isCol x) → k ∈ aloI f.ps (isCol x) → (gp f.ps i).y = (gp f.ps k).y → i = k := by
  intro i k hi hk e
  obtain ⟨i1, i2⟩ := mem_aloI.1 hi
  obtain ⟨k1, k2⟩ := mem_aloI.1 hk
  have pi := h.inn _ (pmem i1)
  have pk := h.inn _ (pmem k1)
  rw [col_iff pi.2.1] at i2
  rw [col_iff pk.2.1] at k2
  have ap := List.pairwise_iff_getElem.1 h.apart
  rcases Nat.lt_trichotomy i k with hlt | heq | hgt
  · have := ap i k i1 k1 hlt
    rw [← gp_get i1, ← gp_get k1] at this
    exact absurd (show (gp f.ps i).meet (gp f.ps k) from ⟨by omega, by omega, by have := pk.2.1; omega, by have := pi.2.1; omega⟩) this
  · exact heq
  · have := ap k i k1 i1 hgt
    rw [← gp_get i1, ← gp_get k1] at this
    exact absurd (show (gp f.ps k).meet (gp f.ps i) from ⟨by omega, by omega, by have := pi.2.1; omega, by have := pk.2.1; omega⟩) this
theorem aloI_cons (p : Piece) (ps : List Piece) (is : Piece → Bool) : aloI (p :: ps) is = (if is p = true then [0] else []) ++ (aloI ps is).map (· + 1) := by
  unfold aloI
  rw [List.length_cons, List.range_succ_eq_map, List.filter_cons, List.filter_map]
  have h0 : gp (p :: ps) 0 = p := rfl
  have h1 : ((fun i => is (gp (p :: ps) i)) ∘ Nat.succ) = fun i => is (gp ps i) := by funext i; rfl
  rw [h0, h1]
  by_cases h : is p = true
  · rw [if_pos h, if_pos h]; rfl
  · rw [if_neg h, if_neg h]; rfl
/-- A sum over the pieces that are so. -/
def sumB (is : Piece → Bool) (v : Piece → Int) : List Piece → Int
  | [] => 0
  | p :: ps => (if is p = true then v p else 0) + sumB is v ps
theorem sum_aloI (is : Piece → Bool) (v : Piece → Int) : ∀ ps : List Piece, ((aloI ps is).map fun i => v (gp ps i)).sum = sumB is v ps
  | [] => rfl
  | p :: ps => by
    rw [aloI_cons, List.map_append, List.sum_append, List.map_map]
    have h1 : ((fun i => v (gp (p :: ps) i)) ∘ (· + 1)) = fun i => v (gp ps i) := by funext i; rfl
    rw [h1, sum_aloI is v ps]
    by_cases h : is p = true
    · simp only [sumB, if_pos h]; simp [gp]
    · simp only [sumB, if_neg h]; simp
theorem perm_sum {l l' : List Int} (h : l.Perm l') : l.sum = l'.sum := by
  induction h with
  | nil => rfl
  | cons x _ ih => simp [ih]
  | swap x y l => simp; omega
  | trans _ _ h1 h2 => exact h1.trans h2
theorem sum_aloS (is : Piece → Bool) (v ord : Piece → Int) (ps : List Piece) : ((aloS ps is ord).map fun i => v (gp ps i)).sum = sumB is v ps := by
  rw [← sum_aloI]; exact perm_sum ((aloS_perm ps is ord).map _)
theorem sumB_row (y : Int) : ∀ ps : List Piece, (∀ p ∈ ps, 1 ≤ p.w) → sumB (isRow y) (fun p => p.w) ps = rowSum ps y
  | [], _ => rfl
  | p :: ps, h => by
    have h1 := row_iff (y := y) (h p (by simp))
    simp only [sumB, rowSum, sumB_row y ps fun q hq => h q (by simp [hq]), h1]
theorem sumB_col (x : Int) : ∀ ps : List Piece, (∀ p ∈ ps, 1 ≤ p.h) → sumB (isCol x) (fun p => p.h) ps = colSum ps x
  | [], _ => rfl
  | p :: ps, h => by
    have h1 := col_iff (x := x) (h p (by simp))
    simp only [sumB, colSum, sumB_col x ps fun q hq => h q (by simp [hq]), h1]
/-- FULL IN BOTH DIRECTIONS. -/
theorem Forme.Laid.rows_full {f : Forme} (h : f.Laid) : (∀ y : Int, 0 ≤ y → y < f.H → rowSum f.ps y = f.W) ↔ areas f.ps = f.W * f.H := by
  rw [h.full_iff]
  constructor
  · intro hr x y h1 h2 h3 h4
    exact (h.row_full y).1 (hr y h3 h4) x h1 h2
  · intro hf y h3 h4
    exact (h.row_full y).2 fun x h1 h2 => hf x y h1 h2 h3 h4
theorem Forme.Laid.cols_full {f : Forme} (h : f.Laid) : (∀ x : Int, 0 ≤ x → x < f.W → colSum f.ps x = f.H) ↔ areas f.ps = f.W * f.H := by
  rw [h.full_iff]
  constructor
  · intro hc x y h1 h2 h3 h4
    exact (h.col_full x).1 (hc x h1 h2) y h3 h4
  · intro hf x h1 h2
    exact (h.col_full x).2 fun y h3 h4 => hf x y h1 h2 h3 h4
/-- FirstGap finds none just if the forme is full. -/
theorem Forme.Laid.gap_none {f : Forme} (h : f.Laid) : (gapF f).2.2 = 12 ↔ areas f.ps = f.W * f.H := by
  rw [h.full_gap]
  constructor
  · intro hg x y hxy
    obtain ⟨x', y', h1⟩ := gap_first hxy
    rw [gapF_hit h1] at hg
    exact absurd hg (show ¬ (0 : Int) = 12 by decide)
  · intro hn
    rw [gapF_none hn]
/-- FULL IN BOTH DIRECTIONS: what the law compares. -/
theorem Forme.Laid.full_law {f : Forme} (h : f.Laid) : ((∀ y : Int, 0 ≤ y → y < f.H → rowSum f.ps y = f.W) ↔ (gapF f).2.2 = 12) ∧ ((∀ x : Int, 0 ≤ x → x < f.W → colSum f.ps x = f.H) ↔ (∀ y : Int, 0 ≤ y → y < f.H → rowSum f.ps y = f.W)) :=
  ⟨h.rows_full.trans h.gap_none.symm, h.cols_full.trans h.rows_full.symm⟩
end Go.Proofs.Ytlfeoofchebbkaa
