/- Plain: founts, words, rules, places, lines: what the document specifies. -/
import Derived.Test.YtefjhhgfkdkfaaaBas
import Derived.Test.YtefjhhgfkdkfaaaPgr
namespace Go.Proofs.Ytefjhhgfkdkfaaa
set_option linter.unusedSimpArgs false
set_option linter.unusedVariables false
structure TSort where
  name : ByteArray
  text : ByteArray
  kind : Int
  width : Int
instance : Inhabited TSort := ⟨⟨⟨#[]⟩, ⟨#[]⟩, 0, 0⟩⟩
structure Fnt where
  name : ByteArray
  body : Int
  sorts : List TSort
structure PWord where
  sorts : List Int
  breaks : List Int
instance : Inhabited PWord := ⟨⟨[], []⟩⟩
structure Rls where
  measure : Int
  indent : Int
  least : Int
  most : Int
  gap : Int
  hyphen : Int
  single : Int
  double : Int
def gs (l : List TSort) (j : Nat) : TSort := l.getD j default
def gw (l : List PWord) (j : Nat) : PWord := l.getD j default
/-- A sort is known by its name, or prints the same as an earlier one. -/
def hasNm (l : List TSort) (i : Nat) (s : ByteArray) : Bool := decide (0 ≤ idx (fun j => nmEq (gs l j).name s) i)
def hasTx (l : List TSort) (i : Nat) (s : ByteArray) : Bool := decide (0 ≤ idx (fun j => (gs l j).kind != 3 && nmEq (gs l j).text s) i)
def prB (kind : Int) (s : ByteArray) : Bool :=
  decide ((if kind = 1 then s.size = 1 else if kind = 2 then 2 ≤ s.size ∧ s.size ≤ 4 else s.size = 0) ∧ ∀ k, k < s.size → 33 ≤ nmb s k ∧ nmb s k ≤ 126)
def soErr (l : List TSort) (i : Nat) : Int :=
  if isNm (gs l i).name = false then 4
  else if hasNm l i (gs l i).name = true then 5
  else if win (gs l i).kind 1 3 = false then 15
  else if win (gs l i).width 1 100000 = false then 2
  else if prB (gs l i).kind (gs l i).text = false then 3
  else if (gs l i).kind ≠ 3 ∧ hasTx l i (gs l i).text = true then 13
  else 0
def fnErr (f : Fnt) : Int × Int :=
  if isNm f.name = false then (0, 4)
  else if win f.body 1 144 = false then (0, 2)
  else if f.sorts.length = 0 then (0, 10)
  else if 120 < f.sorts.length then (0, 8)
  else fstE (soErr f.sorts) f.sorts.length
def spB (f : Fnt) (s : Int) : Bool := (gs f.sorts s.toNat).kind == 3
def wd (f : Fnt) (s : Int) : Int := (gs f.sorts s.toNat).width
def ruErr (f : Fnt) (r : Rls) : Int :=
  if (fnErr f).2 ≠ 0 then (fnErr f).2
  else if win r.measure 1 1000000 = false ∨ win r.indent 0 20000 = false ∨ win r.least 1 10000 = false ∨ win r.most 1 10000 = false then 2
  else if r.most < r.least then 9
  else if win r.gap 0 (f.sorts.length - 1) = false then 6
  else if spB f r.gap = false then 15
  else if win (wd f r.gap) r.least r.most = false then 9
  else if win r.hyphen 0 (f.sorts.length - 1) = false then 6
  else if spB f r.hyphen = true then 15
  else if win r.single 0 100000 = false ∨ win r.double 0 100000 = false then 2
  else 0
def stErr (f : Fnt) (l : List Int) (j : Nat) : Int :=
  if win (gz l j) 0 (f.sorts.length - 1) = false then 6 else if spB f (gz l j) = true then 15 else 0
def brErr (n : Nat) (l : List Int) (j : Nat) : Int :=
  if win (gz l j) 1 (n - 1) = false then 2 else if 0 < j ∧ gz l j ≤ gz l (j - 1) then 9 else 0
def wErr (f : Fnt) (ws : List PWord) (i : Nat) : Int :=
  if (gw ws i).sorts.length = 0 then 10
  else if 60 < (gw ws i).sorts.length then 8
  else if (fstE (stErr f (gw ws i).sorts) (gw ws i).sorts.length).2 ≠ 0 then (fstE (stErr f (gw ws i).sorts) (gw ws i).sorts.length).2
  else (fstE (brErr (gw ws i).sorts.length (gw ws i).breaks) (gw ws i).breaks.length).2
def plW (i : Nat) (w : PWord) : List (Nat × Nat) := (i, 0) :: w.breaks.map fun b => (i, b.toNat)
def plTo (ws : List PWord) : Nat → List (Nat × Nat)
  | 0 => []
  | k + 1 => plTo ws k ++ plW k (gw ws k)
def places (ws : List PWord) : List (Nat × Nat) := plTo ws ws.length ++ [(ws.length, 0)]
def gpl (l : List (Nat × Nat)) (j : Nat) : Nat × Nat := l.getD j (0, 0)
def wsErr (f : Fnt) (ws : List PWord) : Int × Int :=
  if (fnErr f).2 ≠ 0 then (0, (fnErr f).2)
  else if 200 < ws.length then (0, 8)
  else if (fstE (wErr f ws) ws.length).2 ≠ 0 then fstE (wErr f ws) ws.length
  else if 300 < (places ws).length then (0, 8)
  else (0, 0)
def paErr (f : Fnt) (r : Rls) (ws : List PWord) : Int := if ruErr f r ≠ 0 then ruErr f r else (wsErr f ws).2
/-- The part of a word that is between two places. -/
def cutB (a : Nat × Nat) (i : Nat) : Nat := if i = a.1 then a.2 else 0
def cutE (ws : List PWord) (b : Nat × Nat) (i : Nat) : Nat := if i = b.1 then b.2 else (gw ws i).sorts.length
def cutW (ws : List PWord) (a b : Nat × Nat) (i : Nat) : List Int := ((gw ws i).sorts.take (cutE ws b i)).drop (cutB a i)
def cnt (ws : List PWord) (a b : Nat × Nat) : Nat := min (b.1 + 1) ws.length - a.1
def rawP (ws : List PWord) (a b : Nat × Nat) : Nat → List (List Int)
  | 0 => []
  | k + 1 => if cutB a (a.1 + k) < cutE ws b (a.1 + k) then rawP ws a b k ++ [cutW ws a b (a.1 + k)] else rawP ws a b k
/-- A hyphen behind the last piece. -/
def hyph (h : Int) (l : List (List Int)) : List (List Int) := l.dropLast ++ [l.getLastD [] ++ [h]]
def piecesF (ws : List PWord) (h : Int) (a b : Nat × Nat) : List (List Int) := if 0 < b.2 then hyph h (rawP ws a b (cnt ws a b)) else rawP ws a b (cnt ws a b)
/-- As the document's answer finds them. -/
def refP (ws : List PWord) (h : Int) (a b : Nat × Nat) : Nat → List (List Int)
  | 0 => []
  | k + 1 => if cutB a (a.1 + k) < cutE ws b (a.1 + k) then refP ws h a b k ++ [if a.1 + k = b.1 then cutW ws a b (a.1 + k) ++ [h] else cutW ws a b (a.1 + k)] else refP ws h a b k
def lenS (ps : List (List Int)) : Nat := ps.flatten.length
def widL (f : Fnt) (l : List Int) : Int := (l.map (wd f)).sum
def widS (f : Fnt) (ps : List (List Int)) : Int := widL f ps.flatten
def longB (ps : List (List Int)) : Bool := ps.any fun x => decide (60 < x.length)
structure Ln where
  ps : List (List Int)
  room : Int
  ends : Bool
def Ln.g (l : Ln) : Int := l.ps.length - 1
def lineF (f : Fnt) (r : Rls) (ws : List PWord) (i j : Nat) : Ln :=
  let ps := piecesF ws r.hyphen (gpl (places ws) i) (gpl (places ws) j)
  ⟨ps, r.measure - widS f ps - (if i = 0 then r.indent else 0), decide (j = (places ws).length - 1)⟩
def wideB (l : Ln) : Bool := decide (30 < l.ps.length ∨ 189 < lenS l.ps)
def allowB (r : Rls) (l : Ln) : Bool :=
  if longB l.ps = true then false
  else if 30 < l.ps.length ∨ 188 < lenS l.ps ∨ 20000 < l.room then false
  else if l.ends = true then decide (l.g * r.least ≤ l.room)
  else if 0 < l.g then win l.room (l.g * r.least) (l.g * r.most)
  else decide (l.room = 0)
def absI (x : Int) : Int := if x < 0 then -x else x
def demF (f : Fnt) (r : Rls) (l : Ln) (da db : Bool) : Int :=
  (if 0 < l.g ∧ ¬ (l.ends = true ∧ l.g * wd f r.gap ≤ l.room) then (absI (l.room - l.g * wd f r.gap) / l.g) * (absI (l.room - l.g * wd f r.gap) / l.g) else 0)
    + (if db = true then r.single + (if da = true then r.double else 0) else 0)
def divB (ws : List PWord) (i : Nat) : Bool := decide (0 < (gpl (places ws) i).2)
def tab (f : Fnt) (r : Rls) (ws : List PWord) : Tb := fun i j =>
  if i < j ∧ j < (places ws).length ∧ allowB r (lineF f r ws i j) = true then some (demF f r (lineF f r ws i j) (divB ws i) (divB ws j)).toNat else none
/-! ### right words -/
structure WOk (ns : Nat) (w : PWord) : Prop where
  some : 0 < w.sorts.length
  most : w.sorts.length ≤ 60
  st : ∀ j, j < w.sorts.length → 0 ≤ gz w.sorts j ∧ gz w.sorts j < ns
  br : ∀ j, j < w.breaks.length → 1 ≤ gz w.breaks j ∧ gz w.breaks j < w.sorts.length
  up : ∀ j, 0 < j → j < w.breaks.length → gz w.breaks (j - 1) < gz w.breaks j
theorem wErr_ok {f : Fnt} {ws : List PWord} {i : Nat} (h : wErr f ws i = 0) : WOk f.sorts.length (gw ws i) ∧ ∀ j, j < (gw ws i).sorts.length → spB f (gz (gw ws i).sorts j) = false := by
  unfold wErr at h
  by_cases h1 : (gw ws i).sorts.length = 0
  · rw [if_pos h1] at h; omega
  rw [if_neg h1] at h
  by_cases h2 : 60 < (gw ws i).sorts.length
  · rw [if_pos h2] at h; omega
  rw [if_neg h2] at h
  by_cases h3 : (fstE (stErr f (gw ws i).sorts) (gw ws i).sorts.length).2 ≠ 0
  · rw [if_pos h3] at h; exact absurd h h3
  rw [if_neg h3] at h
  have hs := fstE_zero (Decidable.not_not.1 h3)
  have hb := fstE_zero h
  have hs' : ∀ j, j < (gw ws i).sorts.length → (0 ≤ gz (gw ws i).sorts j ∧ gz (gw ws i).sorts j < f.sorts.length) ∧ spB f (gz (gw ws i).sorts j) = false := fun j hj => by
    have := hs j hj
    unfold stErr at this
    by_cases a : win (gz (gw ws i).sorts j) 0 (f.sorts.length - 1) = false
    · rw [if_pos a] at this; omega
    rw [if_neg a] at this
    by_cases b : spB f (gz (gw ws i).sorts j) = true
    · rw [if_pos b] at this; omega
    have a' := win_t.1 (Bool.not_eq_false _ ▸ a)
    exact ⟨by omega, by simpa using b⟩
  have hb' : ∀ j, j < (gw ws i).breaks.length → (1 ≤ gz (gw ws i).breaks j ∧ gz (gw ws i).breaks j < (gw ws i).sorts.length) ∧ (0 < j → gz (gw ws i).breaks (j - 1) < gz (gw ws i).breaks j) := fun j hj => by
    have := hb j hj
    unfold brErr at this
    by_cases a : win (gz (gw ws i).breaks j) 1 ((gw ws i).sorts.length - 1) = false
    · rw [if_pos a] at this; omega
    rw [if_neg a] at this
    have a' := win_t.1 (Bool.not_eq_false _ ▸ a)
    refine ⟨by omega, fun h0 => ?_⟩
    by_cases b : 0 < j ∧ gz (gw ws i).breaks j ≤ gz (gw ws i).breaks (j - 1)
    · rw [if_pos b] at this; omega
    · omega
  exact ⟨⟨by omega, by omega, fun j hj => (hs' j hj).1, fun j hj => (hb' j hj).1, fun j h0 hj => (hb' j hj).2 h0⟩, fun j hj => (hs' j hj).2⟩
end Go.Proofs.Ytefjhhgfkdkfaaa
