/- What memory holds: lists of numbers, of pairs, of pieces, as the walks read them; small closing lemmas. -/
import Derived.Test.YtlfeoofchebbkaaDoorProg
import Derived.Test.YtlfeoofchebbkaaDoorPl
import Derived.WalkKit
import Derived.WalkSpells
import Derived.WalkLawsBesides
import Derived.Deep.LoopGhost
import Derived.Lib.Hide
import Derived.Lib.ConvBytes
namespace Go.Proofs.YtlfeoofchebbkaaDoor
set_option linter.unusedSimpArgs false
set_option linter.unusedVariables false
open Go.RowKit

theorem ret_bool {a b : Bool} (h : a = b) : Ending.returned (.bool a) = .returned (.bool b) := by rw [h]
theorem ret_int {a b : Int} (h : a = b) : Ending.returned (.int .i64 a) = .returned (.int .i64 b) := by rw [h]

/-- What lay below stays: cells and marks. -/
theorem bcell {W w1 : World} (hb : Below W.heap.size W w1) : (∀ b o, b < W.heap.size → w1.cell? ⟨b, o, none⟩ = W.cell? ⟨b, o, none⟩) ∧ (∀ b o, b < W.heap.size → w1.frozen? ⟨b, o, none⟩ = W.frozen? ⟨b, o, none⟩) :=
  ⟨fun b o h => hb.cell (p := ⟨b, o, none⟩) h, fun b o h => hb.frozen (p := ⟨b, o, none⟩) h⟩

@[reducible, go_sem] def pcs (p : Piece) : Array Value := #[.string p.name, .int .i64 p.kind, .int .i64 p.x, .int .i64 p.y, .int .i64 p.w, .int .i64 p.h]
def gp (ps : List Piece) (j : Nat) : Piece := ps.getD j default
def gz (zs : List Int) (j : Nat) : Int := zs.getD j 0

/-- The six cells of a piece. -/
def PAt (w : World) (b off : Nat) (p : Piece) : Prop :=
  w.cell? ⟨b, off, none⟩ = some (.string p.name) ∧ w.cell? ⟨b, off + 1, none⟩ = some (.int .i64 p.kind) ∧ w.cell? ⟨b, off + 2, none⟩ = some (.int .i64 p.x) ∧
  w.cell? ⟨b, off + 3, none⟩ = some (.int .i64 p.y) ∧ w.cell? ⟨b, off + 4, none⟩ = some (.int .i64 p.w) ∧ w.cell? ⟨b, off + 5, none⟩ = some (.int .i64 p.h)
theorem PAt.below {B : Nat} {w w' : World} {b off : Nat} {p : Piece} (h : PAt w b off p) (hb : Below B w w') (hB : b < B) : PAt w' b off p := by
  obtain ⟨h0, h1, h2, h3, h4, h5⟩ := h
  exact ⟨(hb.cell (p := ⟨b, _, none⟩) hB).trans h0, (hb.cell (p := ⟨b, _, none⟩) hB).trans h1, (hb.cell (p := ⟨b, _, none⟩) hB).trans h2, (hb.cell (p := ⟨b, _, none⟩) hB).trans h3, (hb.cell (p := ⟨b, _, none⟩) hB).trans h4, (hb.cell (p := ⟨b, _, none⟩) hB).trans h5⟩
/-- The cells from b, off on are the pieces. -/
def PsAt (w : World) (b off : Nat) (ps : List Piece) : Prop := ∀ j, j < ps.length → PAt w b (off + j * 6) (gp ps j)
theorem PsAt.below {B : Nat} {w w' : World} {b off : Nat} {ps : List Piece} (h : PsAt w b off ps) (hb : Below B w w') (hB : b < B) : PsAt w' b off ps :=
  fun j hj => (h j hj).below hb hB

/-- The cells from b, off on are the numbers. -/
def ZsAt (w : World) (b off : Nat) (zs : List Int) : Prop := ∀ j, j < zs.length → w.cell? ⟨b, off + j, none⟩ = some (.int .i64 (gz zs j))
theorem ZsAt.below {B : Nat} {w w' : World} {b off : Nat} {zs : List Int} (h : ZsAt w b off zs) (hb : Below B w w') (hB : b < B) : ZsAt w' b off zs :=
  fun j hj => (hb.cell (p := ⟨b, off + j, none⟩) hB).trans (h j hj)

/-- A slice of n elements at A: it lies below block B, wherever it has an element. -/
def Lies (A : Option Addr) (n : Nat) (B b off : Nat) : Prop := 0 < n → A = some ⟨b, off, none⟩ ∧ b < B
theorem Lies.mono {A : Option Addr} {n B B' b off : Nat} (h : Lies A n B b off) (hB : B ≤ B') : Lies A n B' b off := fun hn => ⟨(h hn).1, Nat.lt_of_lt_of_le (h hn).2 hB⟩

end Go.Proofs.YtlfeoofchebbkaaDoor
