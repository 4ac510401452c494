/- A grid, plainly: what is laid out, piece by piece; its check. -/
import Derived.Test.YtlfeoofchebbkaaDoorDcm
namespace Go.Proofs.YtlfeoofchebbkaaDoor
set_option linter.unusedSimpArgs false
set_option linter.unusedVariables false
open Go.RowKit
structure Grid where
  W : Int
  H : Int
  cols : List Int
  rows : List Int
  acr : List Int
  dwn : List Int
  q : Int
def fN (n : Nat) : ByteArray := ⟨#[102]⟩ ++ decB n
def pN (n : Nat) : ByteArray := ⟨#[112]⟩ ++ decB n
/-- What is laid so far. -/
structure Lay where
  ps : List Piece
  np : Nat
  nf : Nat
def Lay.fill (s : Lay) (x y w h : Int) : Lay := if 0 < w ∧ 0 < h then ⟨s.ps ++ [⟨fN (s.nf + 1), 2, x, y, w, h⟩], s.np, s.nf + 1⟩ else s
def Lay.page (s : Lay) (x y w h : Int) : Lay := ⟨s.ps ++ [⟨pN (s.np + 1), 1, x, y, w, h⟩], s.np + 1, s.nf⟩
namespace Grid
variable (g : Grid)
def right : Int := g.W - g.q
def bottom : Int := g.H - g.q
def xAt : Nat → Int
  | 0 => 0
  | k + 1 => xAt k + (gz g.acr k + gz g.cols k)
def cells (s : Lay) (y h : Int) : Nat → Lay
  | 0 => s
  | k + 1 => ((cells s y h k).fill (g.xAt k) y (gz g.acr k) h).page (g.xAt k + gz g.acr k) y (gz g.cols k) h
def row (s : Lay) (y h : Int) : Lay := (g.cells s y h g.cols.length).fill (g.xAt g.cols.length) y (gz g.acr g.cols.length) h
def yAt : Nat → Int
  | 0 => 0
  | i + 1 => yAt i + gz g.dwn i + gz g.rows i
def lays : Nat → Lay
  | 0 => ⟨[], 0, 0⟩
  | i + 1 => g.row ((lays i).fill 0 (g.yAt i) g.right (gz g.dwn i)) (g.yAt i + gz g.dwn i) (gz g.rows i)
def last : Lay := (g.lays g.rows.length).fill 0 (g.yAt g.rows.length) g.right (gz g.dwn g.rows.length)
def qa : Piece := ⟨⟨#[113, 97]⟩, 3, g.right, 0, g.q, g.bottom⟩
def qd : Piece := ⟨⟨#[113, 100]⟩, 4, 0, g.bottom, g.W, g.q⟩
def all : List Piece := g.last.ps ++ [g.qa, g.qd]
def forme : Forme := ⟨g.W, g.H, g.all⟩
def sumL : List Int → Int
  | [] => 0
  | x :: r => x + sumL r
def inR (l : List Int) (lo : Int) : Bool := l.all fun x => decide (lo ≤ x ∧ x ≤ 4000)
def side (n : Int) : Bool := decide (1 ≤ n ∧ n ≤ 4000)
def check : Int :=
  if side g.W = false ∨ side g.H = false then 2
  else if g.cols.length = 0 ∨ g.rows.length = 0 ∨ g.acr.length ≠ g.cols.length + 1 ∨ g.dwn.length ≠ g.rows.length + 1 then 10
  else if inR g.cols 1 = false ∨ inR g.rows 1 = false ∨ inR g.acr 0 = false ∨ inR g.dwn 0 = false ∨ side g.q = false then 2
  else if sumL g.cols + sumL g.acr + g.q ≠ g.W ∨ sumL g.rows + sumL g.dwn + g.q ≠ g.H then 23
  else 0
structure Good : Prop where
  w1 : 1 ≤ g.W
  w2 : g.W ≤ 4000
  h1 : 1 ≤ g.H
  h2 : g.H ≤ 4000
  nc : 0 < g.cols.length
  nr : 0 < g.rows.length
  la : g.acr.length = g.cols.length + 1
  ld : g.dwn.length = g.rows.length + 1
  rc : ∀ k, k < g.cols.length → 1 ≤ gz g.cols k ∧ gz g.cols k ≤ 4000
  rr : ∀ k, k < g.rows.length → 1 ≤ gz g.rows k ∧ gz g.rows k ≤ 4000
  ra : ∀ k, k ≤ g.cols.length → 0 ≤ gz g.acr k ∧ gz g.acr k ≤ 4000
  rd : ∀ k, k ≤ g.rows.length → 0 ≤ gz g.dwn k ∧ gz g.dwn k ≤ 4000
  q1 : 1 ≤ g.q
  q2 : g.q ≤ 4000
  sw : sumL g.cols + sumL g.acr + g.q = g.W
  sh : sumL g.rows + sumL g.dwn + g.q = g.H
theorem inR_at {l : List Int} {lo : Int} (h : inR l lo = true) {k : Nat} (hk : k < l.length) : lo ≤ gz l k ∧ gz l k ≤ 4000 := by
  have hm : gz l k ∈ l := by unfold gz; simp [List.getD_eq_getElem?_getD, hk]
  exact of_decide_eq_true (List.all_eq_true.1 h _ hm)
theorem check_good {g : Grid} (h : g.check = 0) : g.Good := by
  unfold check at h
  by_cases h1 : side g.W = false ∨ side g.H = false
  · rw [if_pos h1] at h; omega
  · rw [if_neg h1] at h
    by_cases h2 : g.cols.length = 0 ∨ g.rows.length = 0 ∨ g.acr.length ≠ g.cols.length + 1 ∨ g.dwn.length ≠ g.rows.length + 1
    · rw [if_pos h2] at h; omega
    · rw [if_neg h2] at h
      by_cases h3 : inR g.cols 1 = false ∨ inR g.rows 1 = false ∨ inR g.acr 0 = false ∨ inR g.dwn 0 = false ∨ side g.q = false
      · rw [if_pos h3] at h; omega
      · rw [if_neg h3] at h
        by_cases h4 : sumL g.cols + sumL g.acr + g.q ≠ g.W ∨ sumL g.rows + sumL g.dwn + g.q ≠ g.H
        · rw [if_pos h4] at h; omega
        · simp only [not_or, Bool.not_eq_false, Decidable.not_not, ne_eq] at h1 h2 h3 h4
          obtain ⟨a1, a2⟩ := h1
          obtain ⟨b1, b2, b3, b4⟩ := h2
          obtain ⟨c1, c2, c3, c4, c5⟩ := h3
          have d1 := of_decide_eq_true a1
          have d2 := of_decide_eq_true a2
          have d3 := of_decide_eq_true c5
          exact ⟨d1.1, d1.2, d2.1, d2.2, by omega, by omega, b3, b4, fun k hk => inR_at c1 hk, fun k hk => inR_at c2 hk, fun k hk => inR_at c3 (by omega), fun k hk => inR_at c4 (by omega), d3.1, d3.2, h4.1, h4.2⟩
end Grid
end Go.Proofs.YtlfeoofchebbkaaDoor
