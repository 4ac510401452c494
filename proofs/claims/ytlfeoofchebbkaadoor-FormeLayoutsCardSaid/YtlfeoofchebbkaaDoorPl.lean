/- The plain mathematics of formes: full formes by counting points, first gaps, longest chains, the driving of quoins. No program in sight. -/
namespace Go.Proofs.YtlfeoofchebbkaaDoor
set_option linter.unusedSimpArgs false
set_option linter.unusedVariables false

/-- A piece of a forme. -/
structure Piece where
  name : ByteArray
  kind : Int
  x : Int
  y : Int
  w : Int
  h : Int
  deriving Inhabited

structure Forme where
  W : Int
  H : Int
  ps : List Piece
  deriving Inhabited

def Piece.cov (p : Piece) (x y : Int) : Prop := p.x ≤ x ∧ x < p.x + p.w ∧ p.y ≤ y ∧ y < p.y + p.h
instance (p : Piece) (x y : Int) : Decidable (p.cov x y) := by unfold Piece.cov; exact inferInstance
def Piece.meet (p q : Piece) : Prop := p.x < q.x + q.w ∧ q.x < p.x + p.w ∧ p.y < q.y + q.h ∧ q.y < p.y + p.h
instance (p q : Piece) : Decidable (p.meet q) := by unfold Piece.meet; exact inferInstance

/-- The piece lies in the chase, with sides of at least 1. -/
def Piece.inn (W H : Int) (p : Piece) : Prop := 1 ≤ p.w ∧ 1 ≤ p.h ∧ 0 ≤ p.x ∧ 0 ≤ p.y ∧ p.x + p.w ≤ W ∧ p.y + p.h ≤ H

/-- A right forme, as far as its places go. -/
structure Forme.Laid (f : Forme) : Prop where
  w1 : 1 ≤ f.W
  w2 : f.W ≤ 4000
  h1 : 1 ≤ f.H
  h2 : f.H ≤ 4000
  inn : ∀ p ∈ f.ps, p.inn f.W f.H
  apart : f.ps.Pairwise fun p q => ¬ p.meet q

def sumTo : Nat → (Nat → Int) → Int
  | 0, _ => 0
  | n + 1, f => sumTo n f + f n

theorem sumTo_congr {n : Nat} {f g : Nat → Int} (h : ∀ i, i < n → f i = g i) : sumTo n f = sumTo n g := by
  induction n with
  | zero => rfl
  | succ n ih => simp only [sumTo]; rw [ih (fun i hi => h i (by omega)), h n (by omega)]

theorem sumTo_add (n : Nat) (f g : Nat → Int) : sumTo n (fun i => f i + g i) = sumTo n f + sumTo n g := by
  induction n with
  | zero => rfl
  | succ n ih => simp only [sumTo]; rw [ih]; omega

theorem sumTo_zero (n : Nat) : sumTo n (fun _ => 0) = 0 := by
  induction n with
  | zero => rfl
  | succ n ih => simp only [sumTo]; rw [ih]; rfl

theorem sumTo_const (n : Nat) (c : Int) : sumTo n (fun _ => c) = n * c := by
  induction n with
  | zero => simp [sumTo]
  | succ n ih => simp only [sumTo]; rw [ih]; simp [Int.add_mul]

theorem sumTo_le {n : Nat} {f g : Nat → Int} (h : ∀ i, i < n → f i ≤ g i) : sumTo n f ≤ sumTo n g := by
  induction n with
  | zero => exact Int.le_refl _
  | succ n ih => simp only [sumTo]; have := ih (fun i hi => h i (by omega)); have := h n (by omega); omega

theorem sumTo_eq_all {n : Nat} {f g : Nat → Int} (h : ∀ i, i < n → f i ≤ g i) (he : sumTo n f = sumTo n g) : ∀ i, i < n → f i = g i := by
  induction n with
  | zero => intro i hi; omega
  | succ n ih =>
    simp only [sumTo] at he
    have h1 := sumTo_le (n := n) (fun i hi => h i (by omega))
    have h2 := h n (by omega)
    intro i hi
    by_cases e : i = n
    · subst e; omega
    · exact ih (fun i hi => h i (by omega)) (by omega) i (by omega)

theorem sumTo_ind (n : Nat) (a b : Int) (ha : 0 ≤ a) (hb : a ≤ b) (hn : b ≤ n) : sumTo n (fun i => if a ≤ (i : Int) ∧ (i : Int) < b then 1 else 0) = b - a := by
  induction n generalizing b with
  | zero => simp [sumTo]; omega
  | succ n ih =>
    simp only [sumTo]
    by_cases h : b ≤ n
    · rw [ih b hb h, if_neg (by omega)]; omega
    · by_cases h2 : a = b
      · rw [if_neg (by omega), show sumTo n (fun i => if a ≤ (i : Int) ∧ (i : Int) < b then 1 else 0) = sumTo n (fun _ => 0) from sumTo_congr (fun i hi => if_neg (by omega)), sumTo_zero]; omega
      · have hb' : b = (n : Int) + 1 := by omega
        have : sumTo n (fun i => if a ≤ (i : Int) ∧ (i : Int) < b then 1 else 0) = sumTo n (fun i => if a ≤ (i : Int) ∧ (i : Int) < (n : Int) then (1 : Int) else 0) :=
          sumTo_congr (fun i hi => by by_cases h3 : a ≤ (i : Int) ∧ (i : Int) < b
                                      · rw [if_pos h3, if_pos (by omega)]
                                      · rw [if_neg h3, if_neg (by omega)])
        rw [this, ih n (by omega) (by omega), if_pos (by omega)]; omega

/-- How many pieces cover a point. -/
def cnt : List Piece → Int → Int → Int
  | [], _, _ => 0
  | p :: ps, x, y => (if p.cov x y then 1 else 0) + cnt ps x y

def areas : List Piece → Int
  | [] => 0
  | p :: ps => p.w * p.h + areas ps

/-- The widths of the pieces of a row, the heights of those of a column. -/
def rowSum : List Piece → Int → Int
  | [], _ => 0
  | p :: ps, y => (if p.y ≤ y ∧ y < p.y + p.h then p.w else 0) + rowSum ps y
def colSum : List Piece → Int → Int
  | [], _ => 0
  | p :: ps, x => (if p.x ≤ x ∧ x < p.x + p.w then p.h else 0) + colSum ps x

theorem cnt_nonneg (ps : List Piece) (x y : Int) : 0 ≤ cnt ps x y := by
  induction ps with
  | nil => exact Int.le_refl _
  | cons p ps ih => simp only [cnt]; split <;> omega

theorem cnt_zero {ps : List Piece} {x y : Int} : cnt ps x y = 0 ↔ ∀ p ∈ ps, ¬ p.cov x y := by
  induction ps with
  | nil => simp [cnt]
  | cons p ps ih =>
    have := cnt_nonneg ps x y
    simp only [cnt, List.mem_cons, forall_eq_or_imp]
    by_cases h : p.cov x y
    · simp only [h, if_true]; constructor
      · intro h0; omega
      · intro h0; exact absurd trivial h0.1
    · simp only [h, if_false, Int.zero_add, ih, not_false_eq_true, true_and]

theorem cov_meet {p q : Piece} {x y : Int} (hp : p.cov x y) (hq : q.cov x y) : p.meet q := by
  unfold Piece.cov at *; unfold Piece.meet; omega

theorem cnt_le_one {ps : List Piece} (h : ps.Pairwise fun p q => ¬ p.meet q) (x y : Int) : cnt ps x y ≤ 1 := by
  induction ps with
  | nil => simp [cnt]
  | cons p ps ih =>
    rw [List.pairwise_cons] at h
    simp only [cnt]
    by_cases hc : p.cov x y
    · have : cnt ps x y = 0 := cnt_zero.2 fun q hq hqc => h.1 q hq (cov_meet hc hqc)
      rw [if_pos hc, this]; omega
    · rw [if_neg hc]; have := ih h.2; omega

theorem cnt_row (W H : Int) (hW : 0 ≤ W) (y : Int) : ∀ ps : List Piece, (∀ p ∈ ps, p.inn W H) → sumTo W.toNat (fun i => cnt ps i y) = rowSum ps y := by
  intro ps
  induction ps with
  | nil => intro _; exact sumTo_zero _
  | cons p ps ih =>
    intro h
    simp only [cnt, rowSum]
    rw [sumTo_add, ih (fun q hq => h q (by simp [hq]))]
    congr 1
    obtain ⟨h1, h2, h3, h4, h5, h6⟩ := h p (by simp)
    by_cases hy : p.y ≤ y ∧ y < p.y + p.h
    · rw [if_pos hy, sumTo_congr (g := fun i => if p.x ≤ (i : Int) ∧ (i : Int) < p.x + p.w then (1 : Int) else 0) (fun i _ => by
        by_cases h7 : p.x ≤ (i : Int) ∧ (i : Int) < p.x + p.w
        · rw [if_pos h7, if_pos (by unfold Piece.cov; omega)]
        · rw [if_neg h7, if_neg (by unfold Piece.cov; omega)])]
      rw [sumTo_ind _ _ _ (by omega) (by omega) (by omega)]; omega
    · rw [if_neg hy, sumTo_congr (g := fun _ => (0 : Int)) (fun i _ => if_neg (by unfold Piece.cov; omega)), sumTo_zero]

theorem cnt_col (W H : Int) (hH : 0 ≤ H) (x : Int) : ∀ ps : List Piece, (∀ p ∈ ps, p.inn W H) → sumTo H.toNat (fun i => cnt ps x i) = colSum ps x := by
  intro ps
  induction ps with
  | nil => intro _; exact sumTo_zero _
  | cons p ps ih =>
    intro h
    simp only [cnt, colSum]
    rw [sumTo_add, ih (fun q hq => h q (by simp [hq]))]
    congr 1
    obtain ⟨h1, h2, h3, h4, h5, h6⟩ := h p (by simp)
    by_cases hy : p.x ≤ x ∧ x < p.x + p.w
    · rw [if_pos hy, sumTo_congr (g := fun i => if p.y ≤ (i : Int) ∧ (i : Int) < p.y + p.h then (1 : Int) else 0) (fun i _ => by
        by_cases h7 : p.y ≤ (i : Int) ∧ (i : Int) < p.y + p.h
        · rw [if_pos h7, if_pos (by unfold Piece.cov; omega)]
        · rw [if_neg h7, if_neg (by unfold Piece.cov; omega)])]
      rw [sumTo_ind _ _ _ (by omega) (by omega) (by omega)]; omega
    · rw [if_neg hy, sumTo_congr (g := fun _ => (0 : Int)) (fun i _ => if_neg (by unfold Piece.cov; omega)), sumTo_zero]

theorem rowSum_all (W H : Int) (hH : 0 ≤ H) : ∀ ps : List Piece, (∀ p ∈ ps, p.inn W H) → sumTo H.toNat (fun j => rowSum ps j) = areas ps := by
  intro ps
  induction ps with
  | nil => intro _; exact sumTo_zero _
  | cons p ps ih =>
    intro h
    simp only [rowSum, areas]
    rw [sumTo_add, ih (fun q hq => h q (by simp [hq]))]
    congr 1
    obtain ⟨h1, h2, h3, h4, h5, h6⟩ := h p (by simp)
    have : ∀ n : Nat, sumTo n (fun j => if p.y ≤ (j : Int) ∧ (j : Int) < p.y + p.h then p.w else 0) = p.w * sumTo n (fun j => if p.y ≤ (j : Int) ∧ (j : Int) < p.y + p.h then 1 else 0) := by
      intro n
      induction n with
      | zero => simp [sumTo]
      | succ n ih => simp only [sumTo]; rw [ih, Int.mul_add]; congr 1; split <;> simp
    rw [this, sumTo_ind _ _ _ (by omega) (by omega) (by omega)]; congr 1; omega

theorem Forme.Laid.rowSum_le {f : Forme} (h : f.Laid) (y : Int) : rowSum f.ps y ≤ f.W := by
  rw [← cnt_row f.W f.H (by have := h.w1; omega) y f.ps h.inn]
  have h1 := sumTo_le (n := f.W.toNat) (f := fun i => cnt f.ps i y) (g := fun _ => 1) (fun i _ => cnt_le_one h.apart _ _)
  rw [sumTo_const] at h1
  have := h.w1; omega

/-- A row is covered just if its widths add up. -/
theorem Forme.Laid.row_full {f : Forme} (h : f.Laid) (y : Int) : rowSum f.ps y = f.W ↔ ∀ x : Int, 0 ≤ x → x < f.W → cnt f.ps x y = 1 := by
  have hw := h.w1
  rw [← cnt_row f.W f.H (by omega) y f.ps h.inn]
  have hc : sumTo f.W.toNat (fun _ => 1) = f.W := by rw [sumTo_const]; omega
  constructor
  · intro he x h0 h1
    have := sumTo_eq_all (n := f.W.toNat) (f := fun i => cnt f.ps i y) (g := fun _ => 1) (fun i _ => cnt_le_one h.apart _ _) (by rw [he, hc]) x.toNat (by omega)
    simpa [show ((x.toNat : Nat) : Int) = x by omega] using this
  · intro hall
    rw [sumTo_congr (g := fun _ => 1) (fun i hi => hall i (by omega) (by omega)), hc]

theorem Forme.Laid.col_full {f : Forme} (h : f.Laid) (x : Int) : colSum f.ps x = f.H ↔ ∀ y : Int, 0 ≤ y → y < f.H → cnt f.ps x y = 1 := by
  have hw := h.h1
  rw [← cnt_col f.W f.H (by omega) x f.ps h.inn]
  have hc : sumTo f.H.toNat (fun _ => 1) = f.H := by rw [sumTo_const]; omega
  constructor
  · intro he y h0 h1
    have := sumTo_eq_all (n := f.H.toNat) (f := fun i => cnt f.ps x i) (g := fun _ => 1) (fun i _ => cnt_le_one h.apart _ _) (by rw [he, hc]) y.toNat (by omega)
    simpa [show ((y.toNat : Nat) : Int) = y by omega] using this
  · intro hall
    rw [sumTo_congr (g := fun _ => 1) (fun i hi => hall i (by omega) (by omega)), hc]

theorem Forme.Laid.areas_le {f : Forme} (h : f.Laid) : areas f.ps ≤ f.W * f.H := by
  have hw := h.h1
  rw [← rowSum_all f.W f.H (by omega) f.ps h.inn]
  have h1 := sumTo_le (n := f.H.toNat) (f := fun j => rowSum f.ps j) (g := fun _ => f.W) (fun j _ => h.rowSum_le j)
  rw [sumTo_const] at h1
  have : ((f.H.toNat : Nat) : Int) = f.H := by omega
  rw [this, Int.mul_comm] at h1; exact h1

/-- Full: no point is uncovered, just if the areas add up. -/
theorem Forme.Laid.full_iff {f : Forme} (h : f.Laid) : areas f.ps = f.W * f.H ↔ ∀ x y : Int, 0 ≤ x → x < f.W → 0 ≤ y → y < f.H → cnt f.ps x y = 1 := by
  have hw := h.h1
  have e := rowSum_all f.W f.H (by omega) f.ps h.inn
  have hc : sumTo f.H.toNat (fun _ => f.W) = f.W * f.H := by rw [sumTo_const, Int.mul_comm]; congr 1; omega
  rw [← e]
  constructor
  · intro he x y hx0 hx1 hy0 hy1
    have := sumTo_eq_all (n := f.H.toNat) (f := fun j => rowSum f.ps j) (g := fun _ => f.W) (fun j _ => h.rowSum_le j) (by rw [he, hc]) y.toNat (by omega)
    rw [show ((y.toNat : Nat) : Int) = y by omega] at this
    exact (h.row_full y).1 this x hx0 hx1
  · intro hall
    rw [← hc]
    exact sumTo_congr (fun j hj => (h.row_full j).2 fun x h0 h1 => hall x j h0 h1 (by omega) (by omega))

theorem cnt_one_mem {ps : List Piece} {x y : Int} (h : cnt ps x y = 1) : ∃ p ∈ ps, p.cov x y := by
  by_cases hn : ∃ p ∈ ps, p.cov x y
  · exact hn
  · have : cnt ps x y = 0 := cnt_zero.2 fun p hp hc => hn ⟨p, hp, hc⟩
    omega

/-- In a full forme each piece that does not begin at the left side has a left neighbour. -/
theorem Forme.Laid.left_of {f : Forme} (h : f.Laid) (hf : areas f.ps = f.W * f.H) {p : Piece} (hp : p ∈ f.ps) (hx : p.x ≠ 0) :
    ∃ q ∈ f.ps, q.x + q.w = p.x ∧ q.y < p.y + p.h ∧ p.y < q.y + q.h := by
  obtain ⟨h1, h2, h3, h4, h5, h6⟩ := h.inn p hp
  obtain ⟨q, hq, hc⟩ := cnt_one_mem (h.full_iff.1 hf (p.x - 1) p.y (by omega) (by omega) (by omega) (by omega))
  refine ⟨q, hq, ?_⟩
  unfold Piece.cov at hc
  have hne : p ≠ q := by rintro rfl; omega
  have hm : ¬ p.meet q ∨ ¬ q.meet p := by
    have := List.pairwise_iff_getElem.1 h.apart
    obtain ⟨i, hi, rfl⟩ := List.getElem_of_mem hp
    obtain ⟨j, hj, rfl⟩ := List.getElem_of_mem hq
    rcases Nat.lt_trichotomy i j with h | h | h
    · exact .inl (this i j hi hj h)
    · subst h; exact absurd rfl hne
    · exact .inr (this j i hj hi h)
  unfold Piece.meet at hm
  rcases hm with hm | hm <;> omega

/-- A point of the chase that no piece covers. -/
def Forme.gap (f : Forme) (x y : Int) : Prop := 0 ≤ x ∧ x < f.W ∧ 0 ≤ y ∧ y < f.H ∧ ∀ p ∈ f.ps, ¬ p.cov x y
/-- The first one: by rows from the top, in each one from the left. -/
def Forme.gap1 (f : Forme) (x y : Int) : Prop := f.gap x y ∧ ∀ x' y', f.gap x' y' → y < y' ∨ y = y' ∧ x ≤ x'

theorem Forme.gap1.uniq {f : Forme} {x y x' y' : Int} (h : f.gap1 x y) (h' : f.gap1 x' y') : x = x' ∧ y = y' := by
  have h1 := h.2 x' y' h'.1
  have h2 := h'.2 x y h.1
  omega

theorem Forme.Laid.full_gap {f : Forme} (h : f.Laid) : areas f.ps = f.W * f.H ↔ ∀ x y, ¬ f.gap x y := by
  rw [h.full_iff]
  constructor
  · rintro hall x y ⟨h1, h2, h3, h4, h5⟩
    have := hall x y h1 h2 h3 h4
    rw [cnt_zero.2 h5] at this; omega
  · intro hno x y h1 h2 h3 h4
    have h5 := cnt_le_one h.apart x y
    have h6 := cnt_nonneg f.ps x y
    by_cases h0 : cnt f.ps x y = 0
    · exact absurd ⟨h1, h2, h3, h4, cnt_zero.1 h0⟩ (hno x y)
    · omega

theorem Forme.gap1.place {f : Forme} {x y : Int} (h : f.gap1 x y) : (x = 0 ∨ ∃ p ∈ f.ps, x = p.x + p.w) ∧ (y = 0 ∨ ∃ p ∈ f.ps, y = p.y + p.h) := by
  obtain ⟨⟨h1, h2, h3, h4, h5⟩, h6⟩ := h
  constructor
  · by_cases h0 : x = 0
    · exact .inl h0
    · right
      by_cases hc : ∃ p ∈ f.ps, p.cov (x - 1) y
      · obtain ⟨p, hp, hc⟩ := hc
        refine ⟨p, hp, ?_⟩
        have := h5 p hp
        unfold Piece.cov at *; omega
      · have := h6 (x - 1) y ⟨by omega, by omega, h3, h4, fun p hp hpc => hc ⟨p, hp, hpc⟩⟩
        omega
  · by_cases h0 : y = 0
    · exact .inl h0
    · right
      by_cases hc : ∃ p ∈ f.ps, p.cov x (y - 1)
      · obtain ⟨p, hp, hc⟩ := hc
        refine ⟨p, hp, ?_⟩
        have := h5 p hp
        unfold Piece.cov at *; omega
      · have := h6 x (y - 1) ⟨h1, h2, by omega, by omega, fun p hp hpc => hc ⟨p, hp, hpc⟩⟩
        omega

/-- Where a gap is, there is a first one. -/
theorem gap_first {f : Forme} {x y : Int} (h : f.gap x y) : ∃ x' y', f.gap1 x' y' := by
  have key : ∀ (m : Nat) (x y : Int), f.gap x y → y.toNat * (f.W.toNat + 1) + x.toNat < m → ∃ x' y', f.gap1 x' y' := by
    intro m
    induction m with
    | zero => intro x y _ h; omega
    | succ m ih =>
      intro x y h hm
      by_cases hs : ∃ x' y', f.gap x' y' ∧ (y' < y ∨ y' = y ∧ x' < x)
      · obtain ⟨x', y', hg, hl⟩ := hs
        refine ih x' y' hg ?_
        obtain ⟨a1, a2, a3, a4, _⟩ := h
        obtain ⟨b1, b2, b3, b4, _⟩ := hg
        rcases hl with hl | ⟨rfl, hl⟩
        · have h1 : y'.toNat + 1 ≤ y.toNat := by omega
          have h2 := Nat.mul_le_mul_right (f.W.toNat + 1) h1
          rw [Nat.add_mul] at h2
          omega
        · omega
      · refine ⟨x, y, h, fun x' y' hg => ?_⟩
        by_cases h1 : y < y' ∨ y = y' ∧ x ≤ x'
        · exact h1
        · exact absurd ⟨x', y', hg, by omega⟩ hs
  exact key _ x y h (Nat.lt_succ_self _)

/-- A full forme seen in one direction. -/
structure Dir where
  al : List (Int × Int)
  be : List (Int × Int)
  sz : List Int
  side : Int
  deriving Inhabited

namespace Dir
def n (D : Dir) : Nat := D.sz.length
def b (D : Dir) (i : Nat) : Int := (D.al.getD i (0, 0)).1
def e (D : Dir) (i : Nat) : Int := (D.al.getD i (0, 0)).2
def lo (D : Dir) (i : Nat) : Int := (D.be.getD i (0, 0)).1
def hi (D : Dir) (i : Nat) : Int := (D.be.getD i (0, 0)).2
def s (D : Dir) (i : Nat) : Int := D.sz.getD i 0

def leads (D : Dir) (i k : Nat) : Bool := D.e i == D.b k && (decide (D.lo i < D.hi k) && decide (D.lo k < D.hi i))

/-- The pieces lie on the side, one behind the other, with sizes of at least 1. -/
structure WF (D : Dir) : Prop where
  al : D.al.length = D.sz.length
  be : D.be.length = D.sz.length
  b0 : ∀ i, i < D.n → 0 ≤ D.b i
  be1 : ∀ i, i < D.n → D.b i < D.e i
  e1 : ∀ i, i < D.n → D.e i ≤ D.side
  s1 : ∀ i, i < D.n → 1 ≤ D.s i
end Dir

def maxTo : Nat → (Nat → Int) → Int
  | 0, _ => 0
  | k + 1, g => max (maxTo k g) (g k)

theorem maxTo_nonneg (k : Nat) (g : Nat → Int) : 0 ≤ maxTo k g := by
  induction k with
  | zero => exact Int.le_refl _
  | succ k ih => simp only [maxTo]; omega
theorem le_maxTo {k : Nat} {g : Nat → Int} {i : Nat} (h : i < k) : g i ≤ maxTo k g := by
  induction k with
  | zero => omega
  | succ k ih =>
    simp only [maxTo]
    by_cases e : i = k
    · subst e; omega
    · have := ih (by omega); omega
theorem maxTo_congr {k : Nat} {g g' : Nat → Int} (h : ∀ i, i < k → g i = g' i) : maxTo k g = maxTo k g' := by
  induction k with
  | zero => rfl
  | succ k ih => simp only [maxTo]; rw [ih (fun i hi => h i (by omega)), h k (by omega)]
theorem maxTo_le {k : Nat} {g : Nat → Int} {m : Int} (h0 : 0 ≤ m) (h : ∀ i, i < k → g i ≤ m) : maxTo k g ≤ m := by
  induction k with
  | zero => exact h0
  | succ k ih => simp only [maxTo]; have := ih (fun i hi => h i (by omega)); have := h k (by omega); omega
theorem maxTo_get {k : Nat} {g : Nat → Int} (h : 0 < maxTo k g) : ∃ i, i < k ∧ g i = maxTo k g := by
  induction k with
  | zero => simp [maxTo] at h
  | succ k ih =>
    simp only [maxTo] at h ⊢
    by_cases hc : maxTo k g < g k
    · exact ⟨k, by omega, by omega⟩
    · obtain ⟨i, hi, he⟩ := ih (by omega)
      exact ⟨i, by omega, by omega⟩

namespace Dir
def tl (D : Dir) : Nat → Nat → Int
  | 0, _ => 0
  | f + 1, i => maxTo D.n (fun k => if D.leads i k then tl D f k else 0) + D.s i

/-- The length of the longest chain from piece i to the far side. -/
def T (D : Dir) (i : Nat) : Int := D.tl (D.side.toNat + 1) i

theorem leads_b {D : Dir} {i k : Nat} (h : D.leads i k = true) : D.b k = D.e i := by
  simp only [leads, Bool.and_eq_true, beq_iff_eq] at h; exact h.1.symm

theorem tl_stable {D : Dir} (wf : D.WF) : ∀ (f : Nat) (i : Nat), i < D.n → (D.side - D.b i).toNat < f → D.tl f i = D.tl (f + 1) i := by
  intro f
  induction f with
  | zero => intro i _ h; omega
  | succ f ih =>
    intro i hi h
    show maxTo D.n _ + _ = maxTo D.n _ + _
    congr 1
    apply maxTo_congr
    intro k hk
    by_cases hl : D.leads i k = true
    · rw [if_pos hl, if_pos hl]
      have h1 := leads_b hl
      have h2 := wf.be1 i hi
      have h3 := wf.be1 k hk
      have h4 := wf.e1 k hk
      exact ih k hk (by omega)
    · rw [if_neg hl, if_neg hl]

theorem tl_T {D : Dir} (wf : D.WF) (i : Nat) (hi : i < D.n) : ∀ (d : Nat), D.tl (D.side.toNat + 1 + d) i = D.T i := by
  intro d
  induction d with
  | zero => rfl
  | succ d ih =>
    rw [← ih]
    have := wf.b0 i hi
    have h2 := wf.be1 i hi
    have h4 := wf.e1 i hi
    have h5 : (D.side - D.b i).toNat < D.side.toNat + 1 + d := by omega
    exact (tl_stable wf _ i hi h5).symm

theorem T_eq {D : Dir} (wf : D.WF) (i : Nat) (hi : i < D.n) : D.T i = maxTo D.n (fun k => if D.leads i k then D.T k else 0) + D.s i := by
  rw [← tl_T wf i hi 1]
  show maxTo D.n _ + _ = _
  congr 1
theorem T_pos {D : Dir} (wf : D.WF) (i : Nat) (hi : i < D.n) : D.s i ≤ D.T i ∧ 1 ≤ D.T i := by
  rw [T_eq wf i hi]
  have := maxTo_nonneg D.n (fun k => if D.leads i k then D.T k else 0)
  have := wf.s1 i hi
  omega

/-- The pieces in a row, each one the neighbour ahead of the next one. -/
def Path (D : Dir) : List Nat → Prop
  | [] => True
  | [i] => i < D.n
  | i :: k :: l => i < D.n ∧ D.leads i k = true ∧ Path D (k :: l)

def len (D : Dir) : List Nat → Int
  | [] => 0
  | i :: l => D.s i + len D l

theorem Path.tail {D : Dir} {i : Nat} {l : List Nat} (h : D.Path (i :: l)) : D.Path l := by
  cases l with
  | nil => trivial
  | cons k l => exact h.2.2
theorem Path.lt {D : Dir} : ∀ {l : List Nat}, D.Path l → ∀ i ∈ l, i < D.n := by
  intro l
  induction l with
  | nil => intro _ i hi; cases hi
  | cons a l ih =>
    intro h i hi
    rcases List.mem_cons.1 hi with rfl | hi
    · cases l with
      | nil => exact h
      | cons k l => exact h.1
    · exact ih h.tail i hi

theorem len_append (D : Dir) (l m : List Nat) : D.len (l ++ m) = D.len l + D.len m := by
  induction l with
  | nil => simp [len]
  | cons i l ih => simp only [List.cons_append, len, ih]; omega

/-- No path is longer than the tail of its first piece. -/
theorem Path.le_T {D : Dir} (wf : D.WF) : ∀ {l : List Nat} {i : Nat}, D.Path (i :: l) → D.len (i :: l) ≤ D.T i := by
  intro l
  induction l with
  | nil =>
    intro i h
    have := T_pos wf i h
    simp only [len]; omega
  | cons k l ih =>
    intro i h
    have h1 := ih h.2.2
    rw [T_eq wf i h.1]
    have hk : k < D.n := h.2.2.lt k (by simp)
    have h2 := le_maxTo (g := fun k => if D.leads i k then D.T k else 0) hk
    simp only [h.2.1, if_true] at h2
    simp only [len] at h1 ⊢
    omega

/-- There is a path as long as the tail. -/
theorem T_path {D : Dir} (wf : D.WF) : ∀ (m : Nat) (i : Nat), i < D.n → (D.side - D.b i).toNat < m → ∃ l, D.Path (i :: l) ∧ D.len (i :: l) = D.T i := by
  intro m
  induction m with
  | zero => intro i _ h; omega
  | succ m ih =>
    intro i hi h
    have he := T_eq wf i hi
    by_cases hz : 0 < maxTo D.n (fun k => if D.leads i k then D.T k else 0)
    · obtain ⟨k, hk, hg⟩ := maxTo_get hz
      by_cases hl : D.leads i k = true
      · simp only [hl, if_true] at hg
        have h1 := leads_b hl
        have h2 := wf.be1 i hi
        have h3 := wf.be1 k hk
        have h4 := wf.e1 k hk
        obtain ⟨l, hp, hlen⟩ := ih k hk (by omega)
        refine ⟨k :: l, ⟨hi, hl, hp⟩, ?_⟩
        show D.s i + D.len (k :: l) = _
        rw [hlen, he, hg]; omega
      · simp only [hl] at hg
        simp at hg; omega
    · have := maxTo_nonneg D.n (fun k => if D.leads i k then D.T k else 0)
      exact ⟨[], hi, by simp only [len]; omega⟩

/-- The direction, seen from behind. -/
def mir (D : Dir) : Dir := { al := D.al.map fun a => (D.side - a.2, D.side - a.1), be := D.be, sz := D.sz, side := D.side }

theorem mir_b {D : Dir} (wf : D.WF) {i : Nat} (hi : i < D.n) : D.mir.b i = D.side - D.e i := by
  have : i < D.al.length := by rw [wf.al]; exact hi
  simp [mir, b, e, List.getD_eq_getElem?_getD, List.getElem?_map, List.getElem?_eq_getElem this]
theorem mir_e {D : Dir} (wf : D.WF) {i : Nat} (hi : i < D.n) : D.mir.e i = D.side - D.b i := by
  have : i < D.al.length := by rw [wf.al]; exact hi
  simp [mir, b, e, List.getD_eq_getElem?_getD, List.getElem?_map, List.getElem?_eq_getElem this]
theorem mir_wf {D : Dir} (wf : D.WF) : D.mir.WF where
  al := by simp [mir, wf.al]
  be := wf.be
  b0 i hi := by rw [mir_b wf hi]; have := wf.e1 i hi; omega
  be1 i hi := by rw [mir_b wf hi, mir_e wf hi]; have := wf.be1 i hi; omega
  e1 i hi := by rw [mir_e wf hi]; have := wf.b0 i hi; simp only [mir]; omega
  s1 i hi := wf.s1 i hi
theorem mir_leads {D : Dir} (wf : D.WF) {i k : Nat} (hi : i < D.n) (hk : k < D.n) : D.mir.leads i k = D.leads k i := by
  unfold leads
  rw [mir_e wf hi, mir_b wf hk]
  rw [Bool.eq_iff_iff]
  simp only [Bool.and_eq_true, beq_iff_eq, mir, lo]
  constructor
  · rintro ⟨h1, h2, h3⟩; exact ⟨by omega, h3, h2⟩
  · rintro ⟨h1, h2, h3⟩; exact ⟨by omega, h3, h2⟩

/-- The length of the longest chain from the near side to piece i. -/
def Hd (D : Dir) (i : Nat) : Int := D.mir.T i

theorem Path.append {D : Dir} : ∀ {l : List Nat} {i : Nat} {m : List Nat}, D.Path (l ++ [i]) → D.Path (i :: m) → D.Path (l ++ i :: m) := by
  intro l
  induction l with
  | nil => intro i m _ h; exact h
  | cons a l ih =>
    intro i m h1 h2
    cases l with
    | nil => exact ⟨h1.1, h1.2.1, h2⟩
    | cons c l => exact ⟨h1.1, h1.2.1, ih h1.2.2 h2⟩
theorem Path.split {D : Dir} : ∀ {l : List Nat} {i : Nat} {m : List Nat}, D.Path (l ++ i :: m) → D.Path (l ++ [i]) ∧ D.Path (i :: m) := by
  intro l
  induction l with
  | nil => intro i m h; exact ⟨Path.lt h i (by simp), h⟩
  | cons a l ih =>
    intro i m h
    cases l with
    | nil => exact ⟨⟨h.1, h.2.1, Path.lt h.2.2 i (by simp)⟩, h.2.2⟩
    | cons c l =>
      obtain ⟨h1, h2⟩ := ih h.2.2
      exact ⟨⟨h.1, h.2.1, h1⟩, h2⟩

theorem Path.rev {D : Dir} (wf : D.WF) : ∀ {l : List Nat}, D.Path l → D.mir.Path l.reverse := by
  intro l
  induction l with
  | nil => intro _; trivial
  | cons i l ih =>
    intro h
    cases l with
    | nil => exact h
    | cons k l =>
      have h1 := ih h.2.2
      have hk : k < D.n := h.2.2.lt k (by simp)
      rw [List.reverse_cons] at h1 ⊢
      rw [List.reverse_cons, List.append_assoc]
      refine Path.append (D := D.mir) (l := l.reverse) (i := k) (m := [i]) h1 ⟨hk, ?_, h.1⟩
      rw [mir_leads wf hk h.1]; exact h.2.1
theorem len_reverse (D : Dir) (l : List Nat) : D.len l.reverse = D.len l := by
  induction l with
  | nil => rfl
  | cons i l ih => rw [List.reverse_cons, len_append, ih]; simp only [len]; omega
theorem mir_len (D : Dir) (l : List Nat) : D.mir.len l = D.len l := by
  induction l with
  | nil => rfl
  | cons i l ih => simp only [len, ih]; rfl
theorem mir_mir_leads {D : Dir} (wf : D.WF) {i k : Nat} (hi : i < D.n) (hk : k < D.n) : D.mir.mir.leads i k = D.leads i k := by
  rw [mir_leads (mir_wf wf) hi hk, mir_leads wf hk hi]
theorem Path.of_mir_mir {D : Dir} (wf : D.WF) : ∀ {l : List Nat}, D.mir.mir.Path l → D.Path l := by
  intro l
  induction l with
  | nil => intro _; trivial
  | cons i l ih =>
    intro h
    cases l with
    | nil => exact h
    | cons k l => exact ⟨h.1, by rw [← mir_mir_leads wf h.1 (h.2.2.lt k (by simp))]; exact h.2.1, ih h.2.2⟩

/-- No path is longer than the head of its last piece. -/
theorem Path.le_Hd {D : Dir} (wf : D.WF) {l : List Nat} {i : Nat} (h : D.Path (l ++ [i])) : D.len (l ++ [i]) ≤ D.Hd i := by
  have h1 := h.rev wf
  rw [List.reverse_append, List.reverse_cons, List.reverse_nil, List.nil_append, List.singleton_append] at h1
  have h2 := h1.le_T (mir_wf wf)
  rw [mir_len] at h2
  have h3 := len_reverse D (l ++ [i])
  rw [List.reverse_append, List.reverse_cons, List.reverse_nil, List.nil_append, List.singleton_append] at h3
  rw [← h3]; exact h2
theorem Hd_path {D : Dir} (wf : D.WF) (i : Nat) (hi : i < D.n) : ∃ l, D.Path (l ++ [i]) ∧ D.len (l ++ [i]) = D.Hd i := by
  obtain ⟨l, hp, hl⟩ := T_path (mir_wf wf) ((D.mir.side - D.mir.b i).toNat + 1) i hi (by omega)
  refine ⟨l.reverse, ?_, ?_⟩
  · have := hp.rev (mir_wf wf)
    rw [List.reverse_cons] at this
    exact Path.of_mir_mir wf this
  · have := len_reverse D (i :: l)
    rw [List.reverse_cons] at this
    rw [this, ← mir_len]; exact hl
theorem Hd_pos {D : Dir} (wf : D.WF) (i : Nat) (hi : i < D.n) : D.s i ≤ D.Hd i ∧ 1 ≤ D.Hd i := T_pos (mir_wf wf) i hi

/-- The length of the longest chain that piece i is in. -/
def thr (D : Dir) (i : Nat) : Int := D.Hd i + (D.T i - D.s i)

theorem Path.le_thr {D : Dir} (wf : D.WF) {l m : List Nat} {i : Nat} (h : D.Path (l ++ i :: m)) : D.len (l ++ i :: m) ≤ D.thr i := by
  obtain ⟨h1, h2⟩ := h.split
  have h3 := h1.le_Hd wf
  have h4 := h2.le_T wf
  rw [len_append] at h3 ⊢
  simp only [len] at h3 h4 ⊢
  unfold thr; omega
theorem thr_path {D : Dir} (wf : D.WF) (i : Nat) (hi : i < D.n) : ∃ l m, D.Path (l ++ i :: m) ∧ D.len (l ++ i :: m) = D.thr i := by
  obtain ⟨l, hp, hl⟩ := Hd_path wf i hi
  obtain ⟨m, hq, hm⟩ := T_path wf ((D.side - D.b i).toNat + 1) i hi (by omega)
  refine ⟨l, m, hp.append hq, ?_⟩
  rw [len_append] at hl ⊢
  simp only [len] at hl hm ⊢
  unfold thr; omega
theorem T_le_thr {D : Dir} (wf : D.WF) (i : Nat) (hi : i < D.n) : D.T i ≤ D.thr i := by
  have := Hd_pos wf i hi; unfold thr; omega
/-- Each chain is the tail of its first piece: so the greatest tail is the greatest of all. -/
theorem thr_le_T {D : Dir} (wf : D.WF) (i : Nat) (hi : i < D.n) : ∃ k, k < D.n ∧ D.thr i ≤ D.T k := by
  obtain ⟨l, m, hp, hl⟩ := thr_path wf i hi
  cases l with
  | nil => exact ⟨i, hi, by rw [← hl]; exact hp.le_T wf⟩
  | cons k l => exact ⟨k, hp.lt k (by simp), by rw [← hl]; exact Path.le_T wf (by simpa using hp)⟩

/-- A piece is in a path once at most. -/
theorem Path.inc {D : Dir} (wf : D.WF) : ∀ {l : List Nat} {i : Nat}, D.Path (i :: l) → ∀ k ∈ l, D.b i < D.b k := by
  intro l
  induction l with
  | nil => intro i _ k hk; cases hk
  | cons c l ih =>
    intro i h k hk
    have h1 := leads_b h.2.1
    have h2 := wf.be1 i h.1
    rcases List.mem_cons.1 hk with rfl | hk
    · omega
    · have := ih h.2.2 k hk; omega

/-- The size of piece i is greater by d. -/
def up (D : Dir) (i : Nat) (d : Int) : Dir := { D with sz := D.sz.set i (D.s i + d) }
theorem up_n (D : Dir) (i : Nat) (d : Int) : (D.up i d).n = D.n := by simp [up, n]
theorem up_s (D : Dir) (i : Nat) (d : Int) (k : Nat) (hk : k < D.n) : (D.up i d).s k = D.s k + if k = i then d else 0 := by
  have hk' : k < D.sz.length := hk
  by_cases h : k = i
  · subst h; simp [up, s, List.getD_eq_getElem?_getD, hk']
  · simp [up, s, List.getD_eq_getElem?_getD, h, Ne.symm h]
theorem up_wf {D : Dir} (wf : D.WF) (i : Nat) (d : Int) (hd : 0 ≤ d) : (D.up i d).WF where
  al := by simp [up, wf.al]
  be := by simp [up, wf.be]
  b0 k hk := wf.b0 k (by rwa [up_n] at hk)
  be1 k hk := wf.be1 k (by rwa [up_n] at hk)
  e1 k hk := wf.e1 k (by rwa [up_n] at hk)
  s1 k hk := by rw [up_n] at hk; rw [up_s D i d k hk]; have := wf.s1 k hk; split <;> omega
theorem up_path {D : Dir} (i : Nat) (d : Int) : ∀ {l : List Nat}, (D.up i d).Path l ↔ D.Path l := by
  intro l
  induction l with
  | nil => exact Iff.rfl
  | cons a l ih =>
    cases l with
    | nil => simp only [Path, up_n]
    | cons c l => simp only [Path, up_n]; exact and_congr Iff.rfl (and_congr Iff.rfl ih)
theorem up_len_not {D : Dir} (i : Nat) (d : Int) : ∀ {l : List Nat}, D.Path l → i ∉ l → (D.up i d).len l = D.len l := by
  intro l
  induction l with
  | nil => intro _ _; rfl
  | cons a l ih =>
    intro h hn
    simp only [List.mem_cons, not_or] at hn
    simp only [len]
    rw [ih h.tail hn.2, up_s D i d a (h.lt a (by simp)), if_neg (Ne.symm hn.1)]; omega
theorem up_len_in {D : Dir} (wf : D.WF) (i : Nat) (d : Int) {l m : List Nat} (h : D.Path (l ++ i :: m)) : (D.up i d).len (l ++ i :: m) = D.len (l ++ i :: m) + d := by
  obtain ⟨h1, h2⟩ := h.split
  have hi : i < D.n := h2.lt i (by simp)
  have hm : i ∉ m := fun hm => by have := h2.inc wf i hm; omega
  have hl : i ∉ l := fun hl => by
    obtain ⟨a, c, rfl⟩ := List.append_of_mem hl
    rw [List.append_assoc] at h1
    have := h1.split.2
    have := this.inc wf i (by simp)
    omega
  have hpl : D.Path l := by
    clear hl h2 hm
    revert h h1
    induction l with
    | nil => intro _ _; trivial
    | cons a l ih =>
      intro h h1
      cases l with
      | nil => exact h1.1
      | cons c l => exact ⟨h1.1, h1.2.1, ih h.2.2 h1.2.2⟩
  rw [len_append, len_append, up_len_not i d hpl hl]
  simp only [len]
  rw [up_len_not i d h2.tail hm, up_s D i d i hi, if_pos rfl]; omega

/-- Behind the driving of piece i by d no chain is longer than before, or than that of i by d. -/
theorem up_thr_le {D : Dir} (wf : D.WF) (i : Nat) (d : Int) (hd : 0 ≤ d) (k : Nat) (hk : k < D.n) : (D.up i d).thr k ≤ max (D.thr k) (D.thr i + d) := by
  obtain ⟨l, m, hp, hl⟩ := thr_path (up_wf wf i d hd) k (by rwa [up_n])
  have hp' := (up_path i d).1 hp
  by_cases hi : i ∈ l ++ k :: m
  · obtain ⟨a, c, he⟩ := List.append_of_mem hi
    rw [he] at hp' hl
    have h1 := up_len_in wf i d hp'
    have h2 := hp'.le_thr wf
    omega
  · have h1 := up_len_not i d hp' hi
    have h2 := hp'.le_thr wf
    omega
/-- .. and none is shorter; that of i is longer by d. -/
theorem up_thr_ge {D : Dir} (wf : D.WF) (i : Nat) (d : Int) (hd : 0 ≤ d) (k : Nat) (hk : k < D.n) : D.thr k ≤ (D.up i d).thr k := by
  obtain ⟨l, m, hp, hl⟩ := thr_path wf k hk
  have h3 := ((up_path i d).2 hp).le_thr (up_wf wf i d hd)
  by_cases hi : i ∈ l ++ k :: m
  · obtain ⟨a, c, he⟩ := List.append_of_mem hi
    rw [he] at hp hl h3
    have h1 := up_len_in wf i d hp
    omega
  · have h1 := up_len_not i d hp hi
    omega
theorem up_thr_self {D : Dir} (wf : D.WF) (i : Nat) (d : Int) (hd : 0 ≤ d) (hi : i < D.n) : (D.up i d).thr i = D.thr i + d := by
  obtain ⟨l, m, hp, hl⟩ := thr_path wf i hi
  have h1 := up_len_in wf i d hp
  have h2 := ((up_path i d).2 hp).le_thr (up_wf wf i d hd)
  have h3 := up_thr_le wf i d hd i hi
  omega

/-- The sizes fit: no chain is too long. -/
def fits (D : Dir) : Prop := ∀ i, i < D.n → D.thr i ≤ 60 * D.side

theorem fits_iff {D : Dir} (wf : D.WF) : D.fits ↔ ∀ i, i < D.n → D.T i ≤ 60 * D.side := by
  constructor
  · intro h i hi; have := h i hi; have := T_le_thr wf i hi; omega
  · intro h i hi
    obtain ⟨k, hk, hle⟩ := thr_le_T wf i hi
    have := h k hk; omega

theorem up_fits {D : Dir} (wf : D.WF) (hf : D.fits) (i : Nat) (d : Int) (hd : 0 ≤ d) (hr : d ≤ 60 * D.side - D.thr i) : (D.up i d).fits := by
  intro k hk
  rw [up_n] at hk
  have h1 := up_thr_le wf i d hd k hk
  have h2 := hf k hk
  show _ ≤ 60 * D.side
  omega
end Dir

namespace Dir

/-- Each piece that does not begin at the near side has a neighbour ahead; each one that does not end at the far side has one behind. -/
structure Full (D : Dir) : Prop where
  some : 0 < D.n
  left : ∀ i, i < D.n → D.b i ≠ 0 → ∃ k, k < D.n ∧ D.leads k i = true
  right : ∀ i, i < D.n → D.e i ≠ D.side → ∃ k, k < D.n ∧ D.leads i k = true

/-- The greatest tail. -/
def maxT (D : Dir) : Int := maxTo D.n D.T

theorem maxT_pos {D : Dir} (wf : D.WF) (h : 0 < D.n) : 0 < D.maxT := by
  have h1 := le_maxTo (g := D.T) h
  have h2 := T_pos wf 0 h
  unfold maxT; omega

theorem fits_maxT {D : Dir} (wf : D.WF) (h0 : 0 ≤ D.side) : D.fits ↔ D.maxT ≤ 60 * D.side := by
  rw [fits_iff wf]
  constructor
  · intro h; exact maxTo_le (by omega) h
  · intro h i hi; have := le_maxTo (g := D.T) hi; unfold maxT at h; omega

/-- The greatest tail begins at the near side. -/
theorem maxT_begin {D : Dir} (wf : D.WF) (fu : D.Full) : ∃ i, i < D.n ∧ D.b i = 0 ∧ D.T i = D.maxT := by
  obtain ⟨i, hi, he⟩ := maxTo_get (maxT_pos wf fu.some)
  refine ⟨i, hi, ?_, he⟩
  by_cases h0 : D.b i = 0
  · exact h0
  · obtain ⟨k, hk, hl⟩ := fu.left i hi h0
    have h1 := T_eq wf k hk
    have h2 := le_maxTo (g := fun j => if D.leads k j then D.T j else 0) hi
    simp only [hl, if_true] at h2
    have h3 := wf.s1 k hk
    have h4 := le_maxTo (g := D.T) hk
    have h5 : D.T i = maxTo D.n D.T := he
    omega

/-- The greatest tail among those that begin at the near side. -/
theorem maxT_near {D : Dir} (wf : D.WF) (fu : D.Full) : maxTo D.n (fun i => if D.b i = 0 then D.T i else 0) = D.maxT := by
  have h0 := maxT_pos wf fu.some
  apply Int.le_antisymm
  · refine maxTo_le (by omega) fun i hi => ?_
    have := le_maxTo (g := D.T) hi
    unfold maxT at *
    show (if _ then _ else _) ≤ _
    split <;> omega
  · obtain ⟨i, hi, hb, he⟩ := maxT_begin wf fu
    have := le_maxTo (g := fun i => if D.b i = 0 then D.T i else 0) hi
    simp only [hb, if_true] at this
    omega

def hit (D : Dir) (rest fr : Int) (i : Nat) : Bool := D.T i == rest && ((decide (fr < 0) && D.b i == 0) || (decide (0 ≤ fr) && D.leads fr.toNat i))
def IsNext (D : Dir) (rest fr : Int) (i : Nat) : Prop := i < D.n ∧ D.hit rest fr i = true ∧ ∀ c, c < i → D.hit rest fr c = false
theorem IsNext.uniq {D : Dir} {rest fr : Int} {i k : Nat} (h : D.IsNext rest fr i) (h' : D.IsNext rest fr k) : i = k := by
  rcases Nat.lt_trichotomy i k with hl | hl | hl
  · have := h'.2.2 i hl; rw [h.2.1] at this; cases this
  · exact hl
  · have := h.2.2 k hl; rw [h'.2.1] at this; cases this

/-- The chain of the first pieces, from 'rest' on behind piece 'fr' (-1: at the near side). -/
def IsChain (D : Dir) : Int → Int → List Nat → Prop
  | rest, _, [] => rest ≤ 0
  | rest, fr, i :: l => 0 < rest ∧ D.IsNext rest fr i ∧ IsChain D (rest - D.s i) i l
theorem IsChain.uniq {D : Dir} : ∀ {l m : List Nat} {rest fr : Int}, D.IsChain rest fr l → D.IsChain rest fr m → l = m := by
  intro l
  induction l with
  | nil =>
    intro m rest fr h h'
    cases m with
    | nil => rfl
    | cons k m => have := h'.1; simp only [IsChain] at h; omega
  | cons i l ih =>
    intro m rest fr h h'
    cases m with
    | nil => have := h.1; simp only [IsChain] at h'; omega
    | cons k m =>
      obtain rfl := h.2.1.uniq h'.2.1
      rw [ih h.2.2 h'.2.2]

/-- Where the search for a chain stands. -/
def At (D : Dir) (rest fr : Int) : Prop := (fr = -1 ∧ rest = D.maxT) ∨ (0 ≤ fr ∧ fr.toNat < D.n ∧ rest = D.T fr.toNat - D.s fr.toNat)

/-- The first of those that have a property. -/
theorem least {p : Nat → Bool} : ∀ (n : Nat), (∃ i, i < n ∧ p i = true) → ∃ i, i < n ∧ p i = true ∧ ∀ c, c < i → p c = false := by
  intro n
  induction n with
  | zero => rintro ⟨i, hi, _⟩; omega
  | succ n ih =>
    rintro ⟨i, hi, hp⟩
    by_cases h : ∃ j, j < n ∧ p j = true
    · obtain ⟨j, hj, h1, h2⟩ := ih h; exact ⟨j, by omega, h1, h2⟩
    · refine ⟨i, hi, hp, fun c hc => ?_⟩
      cases hpc : p c with
      | false => rfl
      | true => exact absurd ⟨c, by omega, hpc⟩ h

theorem At.next {D : Dir} (wf : D.WF) (fu : D.Full) {rest fr : Int} (h : D.At rest fr) (hr : 0 < rest) : ∃ i, D.IsNext rest fr i := by
  have : ∃ i, i < D.n ∧ D.hit rest fr i = true := by
    rcases h with ⟨rfl, rfl⟩ | ⟨h0, hn, rfl⟩
    · obtain ⟨i, hi, hb, he⟩ := maxT_begin wf fu
      exact ⟨i, hi, by simp [hit, hb, he]⟩
    · have he := T_eq wf fr.toNat hn
      obtain ⟨k, hk, hg⟩ := maxTo_get (k := D.n) (g := fun k => if D.leads fr.toNat k then D.T k else 0) (by omega)
      by_cases hl : D.leads fr.toNat k = true
      · simp only [hl, if_true] at hg
        have e2 : D.T k = D.T fr.toNat - D.s fr.toNat := by omega
        exact ⟨k, hk, by simp [hit, hl, h0, e2]⟩
      · simp only [hl] at hg; simp at hg; omega
  obtain ⟨i, hi, h1, h2⟩ := least _ this
  exact ⟨i, hi, h1, h2⟩
theorem hit_T {D : Dir} {rest fr : Int} {i : Nat} (h : D.hit rest fr i = true) : D.T i = rest := by
  simp only [hit, Bool.and_eq_true, beq_iff_eq] at h; exact h.1
theorem At.step {D : Dir} {rest fr : Int} {i : Nat} (h : D.IsNext rest fr i) : D.At (rest - D.s i) i := by
  right
  have := hit_T h.2.1
  exact ⟨by omega, by simpa using h.1, by simp; omega⟩
theorem At.rest_nonneg {D : Dir} (wf : D.WF) {rest fr : Int} (h : D.At rest fr) : 0 ≤ rest := by
  rcases h with ⟨rfl, rfl⟩ | ⟨h0, hn, rfl⟩
  · exact maxTo_nonneg _ _
  · have := T_pos wf fr.toNat hn; omega

/-- What has been collected: behind it whatever goes on is the chain. -/
def Coll (D : Dir) (acc : List Nat) (rest fr : Int) : Prop := ∀ l, D.IsChain rest fr l → D.IsChain D.maxT (-1) (acc ++ l)
theorem Coll.start (D : Dir) : D.Coll [] D.maxT (-1) := fun _ h => h
theorem Coll.step {D : Dir} {acc : List Nat} {rest fr : Int} {i : Nat} (h : D.Coll acc rest fr) (hr : 0 < rest) (hn : D.IsNext rest fr i) : D.Coll (acc ++ [i]) (rest - D.s i) i := fun l hl => by
  rw [List.append_assoc]; exact h (i :: l) ⟨hr, hn, hl⟩
theorem Coll.done {D : Dir} {acc : List Nat} {rest fr : Int} (h : D.Coll acc rest fr) (hr : rest ≤ 0) : D.IsChain D.maxT (-1) acc := by
  have := h [] hr; rwa [List.append_nil] at this

/-- The chain that is found is a path, as long as told. -/
theorem IsChain.path {D : Dir} (wf : D.WF) : ∀ {l : List Nat} {i : Nat} {rest : Int}, i < D.n → rest = D.T i - D.s i → D.IsChain rest i l → D.Path (i :: l) ∧ D.len l = rest ∧ ∀ k ∈ (i :: l).getLast?, D.T k = D.s k := by
  intro l
  induction l with
  | nil =>
    intro i rest hi he h
    have := T_pos wf i hi
    simp only [IsChain] at h
    exact ⟨hi, by simp only [len]; omega, by simp; omega⟩
  | cons k l ih =>
    intro i rest hi he h
    obtain ⟨hr, hn, hc⟩ := h
    have ht := hit_T hn.2.1
    obtain ⟨h1, h2, h3⟩ := ih hn.1 (by omega) hc
    have hl : D.leads i k = true := by
      have := hn.2.1
      simp only [hit, Bool.and_eq_true, Bool.or_eq_true, decide_eq_true_eq, Int.toNat_natCast] at this
      rcases this.2 with h | h
      · omega
      · exact h.2
    refine ⟨⟨hi, hl, h1⟩, by simp only [len]; omega, fun j hj => h3 j ?_⟩
    simpa [List.getLast?_cons_cons] using hj

theorem chain_whole {D : Dir} (wf : D.WF) (fu : D.Full) {l : List Nat} (h : D.IsChain D.maxT (-1) l) :
    l ≠ [] ∧ D.Path l ∧ D.len l = D.maxT ∧ (∀ k ∈ l.head?, D.b k = 0) ∧ (∀ k ∈ l.getLast?, D.e k = D.side) := by
  have h0 := maxT_pos wf fu.some
  cases l with
  | nil => simp only [IsChain] at h; omega
  | cons i l =>
    obtain ⟨hr, hn, hc⟩ := h
    have ht := hit_T hn.2.1
    obtain ⟨h1, h2, h3⟩ := hc.path wf hn.1 (by omega)
    refine ⟨by simp, h1, by simp only [len]; omega, fun k hk => ?_, fun k hk => ?_⟩
    · simp at hk; subst hk
      have := hn.2.1
      simp only [hit, Bool.and_eq_true, Bool.or_eq_true, decide_eq_true_eq, beq_iff_eq] at this
      rcases this.2 with h | h
      · exact h.2
      · omega
    · have hk' := h3 k hk
      have hkn : k < D.n := h1.lt k (List.mem_of_getLast? hk)
      by_cases he : D.e k = D.side
      · exact he
      · obtain ⟨j, hj, hl⟩ := fu.right k hkn he
        have h4 := T_eq wf k hkn
        have h5 := le_maxTo (g := fun j => if D.leads k j then D.T j else 0) hj
        simp only [hl, if_true] at h5
        have h6 := T_pos wf j hj
        omega
/-- Any chain is not longer. -/
theorem path_le_maxT {D : Dir} (wf : D.WF) {l : List Nat} (h : D.Path l) : D.len l ≤ D.maxT := by
  cases l with
  | nil => exact maxTo_nonneg _ _
  | cons i l =>
    have h1 := h.le_T wf
    have h2 := le_maxTo (g := D.T) (h.lt i (by simp))
    unfold maxT; omega
end Dir

/-- What the pieces truly measure. -/
structure Real where
  ws : List Int
  hs : List Int
  ts : List Int
  deriving Inhabited

def across (f : Forme) (ws : List Int) : Dir := { al := f.ps.map fun p => (p.x, p.x + p.w), be := f.ps.map fun p => (p.y, p.y + p.h), sz := ws, side := f.W }
def down (f : Forme) (hs : List Int) : Dir := { al := f.ps.map fun p => (p.y, p.y + p.h), be := f.ps.map fun p => (p.x, p.x + p.w), sz := hs, side := f.H }

/-- A right and full forme. -/
structure Forme.Whole (f : Forme) : Prop extends f.Laid where
  full : areas f.ps = f.W * f.H

/-- Sizes of the right number and range. -/
structure Sized (f : Forme) (zs : List Int) : Prop where
  len : zs.length = f.ps.length
  lo : ∀ z ∈ zs, 1 ≤ z

theorem getD_map {α β : Type} (l : List α) (g : α → β) (i : Nat) (d : β) (h : i < l.length) : (l.map g).getD i d = g l[i] := by
  simp [List.getD_eq_getElem?_getD, h]

theorem across_wf {f : Forme} (h : f.Laid) {ws : List Int} (hz : Sized f ws) : (across f ws).WF where
  al := by simp [across, hz.len]
  be := by simp [across, hz.len]
  b0 i hi := by
    have hi' : i < f.ps.length := by rw [← hz.len]; exact hi
    simp only [Dir.b, across, getD_map _ _ _ _ hi']
    exact (h.inn _ (List.getElem_mem hi')).2.2.1
  be1 i hi := by
    have hi' : i < f.ps.length := by rw [← hz.len]; exact hi
    simp only [Dir.b, Dir.e, across, getD_map _ _ _ _ hi']
    have := (h.inn _ (List.getElem_mem hi')).1
    omega
  e1 i hi := by
    have hi' : i < f.ps.length := by rw [← hz.len]; exact hi
    simp only [Dir.e, across, getD_map _ _ _ _ hi']
    exact (h.inn _ (List.getElem_mem hi')).2.2.2.2.1
  s1 i hi := by
    have hi' : i < ws.length := hi
    simp only [Dir.s, across, List.getD_eq_getElem?_getD, List.getElem?_eq_getElem hi', Option.getD_some]
    exact hz.lo _ (List.getElem_mem hi')

/-- A forme with columns and rows exchanged, as far as its places go. -/
def Forme.swap (f : Forme) : Forme := { W := f.H, H := f.W, ps := f.ps.map fun p => { p with x := p.y, y := p.x, w := p.h, h := p.w } }
theorem areas_swap (ps : List Piece) : areas (ps.map fun p => ({ p with x := p.y, y := p.x, w := p.h, h := p.w } : Piece)) = areas ps := by
  induction ps with
  | nil => rfl
  | cons p ps ih => simp only [List.map_cons, areas, ih, Int.mul_comm]
theorem Forme.Laid.swap {f : Forme} (h : f.Laid) : f.swap.Laid where
  w1 := h.h1
  w2 := h.h2
  h1 := h.w1
  h2 := h.w2
  inn p hp := by
    simp only [Forme.swap, List.mem_map] at hp
    obtain ⟨q, hq, rfl⟩ := hp
    obtain ⟨a, b, c, d, e, g⟩ := h.inn q hq
    exact ⟨b, a, d, c, g, e⟩
  apart := by
    simp only [Forme.swap, List.pairwise_map]
    refine h.apart.imp fun {p q} hpq => ?_
    unfold Piece.meet at *
    simp only
    omega
theorem Forme.Whole.swap {f : Forme} (h : f.Whole) : f.swap.Whole where
  toLaid := h.toLaid.swap
  full := by
    show areas (f.ps.map _) = f.H * f.W
    rw [areas_swap, h.full, Int.mul_comm]
theorem down_eq (f : Forme) (hs : List Int) : down f hs = across f.swap hs := by
  simp [down, across, Forme.swap, Function.comp_def]
theorem Sized.swap {f : Forme} {zs : List Int} (h : Sized f zs) : Sized f.swap zs := ⟨by rw [h.len]; simp [Forme.swap], h.lo⟩
theorem down_wf {f : Forme} (h : f.Laid) {hs : List Int} (hz : Sized f hs) : (down f hs).WF := by
  rw [down_eq]; exact across_wf h.swap hz.swap

/-- Seen from the other side. -/
def Forme.mirror (f : Forme) : Forme := { f with ps := f.ps.map fun p => { p with x := f.W - p.x - p.w } }
theorem areas_mirror (W : Int) (ps : List Piece) : areas (ps.map fun p => ({ p with x := W - p.x - p.w } : Piece)) = areas ps := by
  induction ps with
  | nil => rfl
  | cons p ps ih => simp only [List.map_cons, areas, ih]
theorem Forme.Laid.mirror {f : Forme} (h : f.Laid) : f.mirror.Laid where
  w1 := h.w1
  w2 := h.w2
  h1 := h.h1
  h2 := h.h2
  inn p hp := by
    simp only [Forme.mirror, List.mem_map] at hp
    obtain ⟨q, hq, rfl⟩ := hp
    obtain ⟨a, b, c, d, e, g⟩ := h.inn q hq
    show _ ∧ _ ∧ _ ∧ _ ∧ _ ∧ _
    simp only [Forme.mirror]
    omega
  apart := by
    simp only [Forme.mirror, List.pairwise_map]
    refine h.apart.imp fun {p q} hpq => ?_
    unfold Piece.meet at *
    simp only
    omega
theorem mir_eq (f : Forme) (ws : List Int) : (across f ws).mir = across f.mirror ws := by
  simp only [Dir.mir, across, Forme.mirror, List.map_map, Function.comp_def]
  congr 1
  apply List.map_congr_left
  intro p _
  simp only [Prod.mk.injEq]
  omega
theorem Forme.Whole.mirror {f : Forme} (h : f.Whole) : f.mirror.Whole where
  toLaid := h.toLaid.mirror
  full := by
    show areas (f.ps.map _) = f.W * f.H
    rw [areas_mirror, h.full]

theorem across_left {f : Forme} (h : f.Whole) {ws : List Int} (hz : Sized f ws) (i : Nat) (hi : i < (across f ws).n) (hb : (across f ws).b i ≠ 0) :
    ∃ k, k < (across f ws).n ∧ (across f ws).leads k i = true := by
  have hi' : i < f.ps.length := by rw [← hz.len]; exact hi
  simp only [Dir.b, across, getD_map _ _ _ _ hi'] at hb
  obtain ⟨q, hq, h1, h2, h3⟩ := h.left_of h.full (List.getElem_mem hi') hb
  obtain ⟨k, hk, rfl⟩ := List.getElem_of_mem hq
  refine ⟨k, by show k < ws.length; rw [hz.len]; exact hk, ?_⟩
  simp only [Dir.leads, Dir.e, Dir.b, Dir.lo, Dir.hi, across, getD_map _ _ _ _ hi', getD_map _ _ _ _ hk, Bool.and_eq_true, beq_iff_eq, decide_eq_true_eq]
  exact ⟨h1, h2, h3⟩
theorem across_full {f : Forme} (h : f.Whole) {ws : List Int} (hz : Sized f ws) : (across f ws).Full where
  some := by
    show 0 < ws.length
    rw [hz.len]
    rcases Nat.eq_zero_or_pos f.ps.length with h0 | h0
    · have he : f.ps = [] := List.eq_nil_of_length_eq_zero h0
      have h1 := h.full
      rw [he] at h1
      have h2 := h.w1
      have h3 := h.h1
      have := Int.mul_pos (show 0 < f.W by omega) (show 0 < f.H by omega)
      simp only [areas] at h1; omega
    · exact h0
  left := across_left h hz
  right i hi he := by
    have wf := across_wf h.toLaid hz
    have hz' : Sized f.mirror ws := ⟨by rw [hz.len]; simp [Forme.mirror], hz.lo⟩
    have hb : (across f.mirror ws).b i ≠ 0 := by
      rw [← mir_eq, Dir.mir_b wf hi]; omega
    obtain ⟨k, hk, hl⟩ := across_left h.mirror hz' i hi hb
    refine ⟨k, hk, ?_⟩
    rw [← mir_eq, Dir.mir_leads wf hk hi] at hl
    exact hl
theorem down_full {f : Forme} (h : f.Whole) {hs : List Int} (hz : Sized f hs) : (down f hs).Full := by
  rw [down_eq]; exact across_full h.swap hz.swap

/-- The driving of piece i. -/
def Real.drive (f : Forme) (r : Real) (i : Nat) : Real :=
  if (f.ps.getD i default).kind = 3 then
    let by_ := min (r.ts.getD i 0) (60 * f.W - (across f r.ws).thr i)
    { r with ws := r.ws.set i (r.ws.getD i 0 + by_), ts := r.ts.set i (r.ts.getD i 0 - by_) }
  else if (f.ps.getD i default).kind = 4 then
    let by_ := min (r.ts.getD i 0) (60 * f.H - (down f r.hs).thr i)
    { r with hs := r.hs.set i (r.hs.getD i 0 + by_), ts := r.ts.set i (r.ts.getD i 0 - by_) }
  else r
/-- .. of the first k pieces. -/
def Real.driven (f : Forme) (r : Real) : Nat → Real
  | 0 => r
  | k + 1 => (Real.driven f r k).drive f k

/-- Sizes that fit, and travels. -/
structure Real.Fit (f : Forme) (r : Real) : Prop where
  ws : Sized f r.ws
  hs : Sized f r.hs
  ts : r.ts.length = f.ps.length
  t0 : ∀ t ∈ r.ts, 0 ≤ t
  fa : (across f r.ws).fits
  fd : (down f r.hs).fits

theorem across_up (f : Forme) (ws : List Int) (i : Nat) (d : Int) : across f (ws.set i (ws.getD i 0 + d)) = (across f ws).up i d := rfl
theorem down_up (f : Forme) (hs : List Int) (i : Nat) (d : Int) : down f (hs.set i (hs.getD i 0 + d)) = (down f hs).up i d := rfl

theorem Sized.up {f : Forme} {zs : List Int} (h : Sized f zs) (i : Nat) (d : Int) (hd : 0 ≤ d) : Sized f (zs.set i (zs.getD i 0 + d)) where
  len := by simp [h.len]
  lo z hz := by
    rcases List.mem_or_eq_of_mem_set hz with h1 | h1
    · exact h.lo z h1
    · subst h1
      by_cases hi : i < zs.length
      · have h2 := h.lo _ (List.getElem_mem hi)
        rw [List.getD_eq_getElem?_getD, List.getElem?_eq_getElem hi, Option.getD_some]; omega
      · rw [List.set_eq_of_length_le (by omega)] at hz
        exact h.lo _ hz

theorem getD_nonneg {l : List Int} (h : ∀ t ∈ l, 0 ≤ t) (i : Nat) : 0 ≤ l.getD i 0 := by
  rw [List.getD_eq_getElem?_getD]
  cases hg : l[i]? with
  | none => exact Int.le_refl _
  | some v => exact h v (List.mem_of_getElem? hg)

theorem Real.Fit.drive {f : Forme} (h : f.Laid) {r : Real} (hr : r.Fit f) (i : Nat) (hi : i < f.ps.length) : (r.drive f i).Fit f := by
  have hset : ∀ (by_ : Int), by_ ≤ r.ts.getD i 0 → ∀ t ∈ r.ts.set i (r.ts.getD i 0 - by_), 0 ≤ t := fun by_ hb t ht => by
    rcases List.mem_or_eq_of_mem_set ht with h1 | h1
    · exact hr.t0 t h1
    · subst h1; omega
  have ht := getD_nonneg hr.t0 i
  unfold Real.drive
  split
  · have h1 := hr.fa i (by show i < r.ws.length; rw [hr.ws.len]; exact hi)
    have h2 : (0 : Int) ≤ min (r.ts.getD i 0) (60 * f.W - (across f r.ws).thr i) := by
      have : (across f r.ws).side = f.W := rfl
      omega
    refine ⟨hr.ws.up i _ h2, hr.hs, by simp [hr.ts], hset _ (by omega), ?_, hr.fd⟩
    rw [across_up]
    refine Dir.up_fits (across_wf h hr.ws) hr.fa i _ h2 ?_
    show _ ≤ 60 * f.W - _
    omega
  · split
    · have h1 := hr.fd i (by show i < r.hs.length; rw [hr.hs.len]; exact hi)
      have h2 : (0 : Int) ≤ min (r.ts.getD i 0) (60 * f.H - (down f r.hs).thr i) := by
        have : (down f r.hs).side = f.H := rfl
        omega
      refine ⟨hr.ws, hr.hs.up i _ h2, by simp [hr.ts], hset _ (by omega), hr.fa, ?_⟩
      rw [down_up]
      refine Dir.up_fits (down_wf h hr.hs) hr.fd i _ h2 ?_
      show _ ≤ 60 * f.H - _
      omega
    · exact hr
theorem Real.Fit.driven {f : Forme} (h : f.Laid) {r : Real} (hr : r.Fit f) : ∀ k, k ≤ f.ps.length → (r.driven f k).Fit f := by
  intro k
  induction k with
  | zero => intro _; exact hr
  | succ k ih => intro hk; exact (ih (by omega)).drive h k (by omega)

end Go.Proofs.YtlfeoofchebbkaaDoor
