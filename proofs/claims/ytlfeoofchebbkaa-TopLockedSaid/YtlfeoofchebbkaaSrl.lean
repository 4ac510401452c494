/- SameReal of true sizes that are the same; Driven at copies; a box of true sizes. -/
import Derived.Test.YtlfeoofchebbkaaDrv
namespace Go.Proofs.Ytlfeoofchebbkaa
set_option linter.unusedSimpArgs false
set_option linter.unusedVariables false
open Go.RowKit
theorem RealAt.v1 {w : World} {r : Real} {A1 A2 A3 : Option Addr} {c1 c2 c3 b1 b2 b3 : Nat} (h : RAt w w.heap.size r A1 A2 A3 b1 0 b2 0 b3 0) (k1 : r.ws.length ≤ c1) (k2 : r.hs.length ≤ c2) (k3 : r.ts.length ≤ c3)
    (m1 : r.ws.length ≤ 1000000) (m2 : r.hs.length ≤ 1000000) (m3 : r.ts.length ≤ 1000000) : IntsV w r.ws (.slice A1 r.ws.length c1) ∧ IntsV w r.hs (.slice A2 r.hs.length c2) ∧ IntsV w r.ts (.slice A3 r.ts.length c3) :=
  ⟨⟨_, _, _, rfl, h.l1, h.z1, k1, by omega⟩, ⟨_, _, _, rfl, h.l2, h.z2, k2, by omega⟩, ⟨_, _, _, rfl, h.l3, h.z3, k3, by omega⟩⟩
set_option maxRecDepth 100000 in
set_option maxHeartbeats 4000000 in
theorem sameReal_any (r : Real) (va vb : Value) (w : World) (ha : RealAt w r va) (hb : RealAt w r vb) (m1 : r.ws.length ≤ 1000000) (m2 : r.hs.length ≤ 1000000) (m3 : r.ts.length ≤ 1000000) :
    Calls Try.prog 47 #[va, vb] w fun e w' => e = .returned (.bool true) ∧ Below w.heap.size w w' := by
  obtain ⟨A1, A2, A3, c1, c2, c3, b1, b2, b3, rfl, ra, k1, k2, k3⟩ := ha
  obtain ⟨B1, B2, B3, d1, d2, d3, e1, e2, e3, rfl, rb, n1, n2, n3⟩ := hb
  obtain ⟨x1, x2, x3⟩ := RealAt.v1 ra k1 k2 k3 m1 m2 m3
  obtain ⟨y1, y2, y3⟩ := RealAt.v1 rb n1 n2 n3 m1 m2 m3
  clear ra rb
  have B0 : Below w.heap.size w ((w.alloc (.cells #[.slice A1 r.ws.length c1, .slice A2 r.hs.length c2, .slice A3 r.ts.length c3] 39)).alloc (.cells #[.slice B1 r.ws.length d1, .slice B2 r.hs.length d2, .slice B3 r.ts.length d3] 39)) := (below_new _ _).alloc (by simp) _
  have P0 : Blk ((w.alloc (.cells #[.slice A1 r.ws.length c1, .slice A2 r.hs.length c2, .slice A3 r.ts.length c3] 39)).alloc (.cells #[.slice B1 r.ws.length d1, .slice B2 r.hs.length d2, .slice B3 r.ts.length d3] 39)) w.heap.size 39 #[.slice A1 r.ws.length c1, .slice A2 r.hs.length c2, .slice A3 r.ts.length c3] :=
    (Below.heap_alloc _ _ _ (by simp)).trans (Blk.new w 39 _)
  have Q0 : Blk ((w.alloc (.cells #[.slice A1 r.ws.length c1, .slice A2 r.hs.length c2, .slice A3 r.ts.length c3] 39)).alloc (.cells #[.slice B1 r.ws.length d1, .slice B2 r.hs.length d2, .slice B3 r.ts.length d3] 39)) (w.heap.size + 1) 39 #[.slice B1 r.ws.length d1, .slice B2 r.hs.length d2, .slice B3 r.ts.length d3] := by
    have := Blk.new (w.alloc (.cells #[.slice A1 r.ws.length c1, .slice A2 r.hs.length c2, .slice A3 r.ts.length c3] 39)) 39 #[.slice B1 r.ws.length d1, .slice B2 r.hs.length d2, .slice B3 r.ts.length d3]
    rwa [World.size_alloc] at this
  have X1 := Lib.hid (x1.below B0)
  have X2 := Lib.hid (x2.below B0)
  have X3 := Lib.hid (x3.below B0)
  have Y1 := Lib.hid (y1.below B0)
  have Y2 := Lib.hid (y2.below B0)
  have Y3 := Lib.hid (y3.below B0)
  clear x1 x2 x3 y1 y2 y3
  go_enter Try.func47, Try.ntmps47
  go_wp2_with fail
  generalize ((w.alloc (.cells #[.slice A1 r.ws.length c1, .slice A2 r.hs.length c2, .slice A3 r.ts.length c3] 39)).alloc (.cells #[.slice B1 r.ws.length d1, .slice B2 r.hs.length d2, .slice B3 r.ts.length d3] 39)) = W0 at *
  generalize r.ws.length = n1 at *
  refine (intsV_any r.ws r.ws _ _ W0 X1.out Y1.out).mono ?_
  rintro e W1 ⟨rfl, g1⟩
  rw [decide_eq_true (rfl : r.ws = r.ws)]
  have P1 := P0.below g1 P0.lt
  have Q1 := Q0.below g1 Q0.lt
  have B1' := Lib.hid (B0.trans (g1.mono B0.size))
  have X2' := Lib.hid (X2.out.below g1)
  have X3' := Lib.hid (X3.out.below g1)
  have Y2' := Lib.hid (Y2.out.below g1)
  have Y3' := Lib.hid (Y3.out.below g1)
  have p1 := P1.cell 1
  have q1 := Q1.cell 1
  clear X1 X2 X3 Y1 Y2 Y3 P0 Q0 B0 g1
  go_wp2_with fail
  refine (intsV_any r.hs r.hs _ _ W1 X2'.out Y2'.out).mono ?_
  rintro e W2 ⟨rfl, g1⟩
  rw [decide_eq_true (rfl : r.hs = r.hs)]
  have P2 := P1.below g1 P1.lt
  have Q2 := Q1.below g1 Q1.lt
  have B2' := Lib.hid (B1'.out.trans (g1.mono B1'.out.size))
  have X3 := Lib.hid (X3'.out.below g1)
  have Y3 := Lib.hid (Y3'.out.below g1)
  have p2 := P2.cell 2
  have q2 := Q2.cell 2
  clear X2' X3' Y2' Y3' P1 Q1 B1' g1 p1 q1
  go_wp2_with fail
  refine (intsV_any r.ts r.ts _ _ W2 X3.out Y3.out).mono ?_
  rintro e W3 ⟨rfl, g1⟩
  rw [decide_eq_true (rfl : r.ts = r.ts)]
  go_wp2_with fail
  go_ret
  exact ⟨rfl, B2'.out.trans (g1.mono B2'.out.size)⟩
theorem drivenY_at (f : Forme) (r : Real) (hnm : NameOk f.ps) (hm : f.ps.length ≤ 1000) (hs : (checkR f r).2 = 0) : AtCopies 46 f r (DrvYes (r.driven f f.ps.length)) := by
  rintro W vf vr ⟨A', b', c', rfl, h1, h2, h3⟩ ⟨A1, A2, A3, c1, c2, c3, b1, b2, b3, rfl, g1, g2, g3, g4⟩
  exact driven_yes f r A' A1 A2 A3 b' 0 b1 0 b2 0 b3 0 c' c1 c2 c3 W ⟨h1, h2, g1⟩ hnm h3 (by omega) g2 g3 g4 hs
theorem drivenN_at (f : Forme) (r : Real) (hnm : NameOk f.ps) (hm : f.ps.length ≤ 1000) (hs : (checkR f r).2 ≠ 0) : AtCopies 46 f r (DrvNo (checkR f r).2) := by
  rintro W vf vr ⟨A', b', c', rfl, h1, h2, h3⟩ ⟨A1, A2, A3, c1, c2, c3, b1, b2, b3, rfl, g1, g2, g3, g4⟩
  exact driven_no f r A' A1 A2 A3 b' 0 b1 0 b2 0 b3 0 c' c1 c2 c3 W ⟨h1, h2, g1⟩ hnm h3 (by omega) g2 g3 g4 hs
/-- True sizes in a box of their own. -/
structure XB (W : World) (xb n : Nat) (x : Real) (X1 X2 X3 : Option Addr) (z1 z2 z3 y1 y2 y3 : Nat) : Prop where
  blk : Blk W xb 39 #[.slice X1 n z1, .slice X2 n z2, .slice X3 n z3]
  rat : RAt W W.heap.size x X1 X2 X3 y1 0 y2 0 y3 0
  l1 : x.ws.length = n
  l2 : x.hs.length = n
  l3 : x.ts.length = n
  k1 : n ≤ z1
  k2 : n ≤ z2
  k3 : n ≤ z3
section
variable {W W' : World} {xb n : Nat} {x : Real} {X1 X2 X3 : Option Addr} {z1 z2 z3 y1 y2 y3 : Nat}
theorem XB.below (h : XB W xb n x X1 X2 X3 z1 z2 z3 y1 y2 y3) (hb : Below W.heap.size W W') : XB W' xb n x X1 X2 X3 z1 z2 z3 y1 y2 y3 :=
  { h with blk := h.blk.below hb h.blk.lt, rat := (h.rat.below hb).mono hb.size }
theorem XB.at (h : XB W xb n x X1 X2 X3 z1 z2 z3 y1 y2 y3) : RealAt W x (.agg #[.slice X1 n z1, .slice X2 n z2, .slice X3 n z3]) :=
  ⟨X1, X2, X3, z1, z2, z3, y1, y2, y3, by rw [h.l1, h.l2, h.l3], h.rat, by rw [h.l1]; exact h.k1, by rw [h.l2]; exact h.k2, by rw [h.l3]; exact h.k3⟩
theorem XB.copy (h : XB W xb n x X1 X2 X3 z1 z2 z3 y1 y2 y3) (hn : n ≤ 1000000) : ∀ W', Below W.heap.size W W' → W.heap.size ≤ W'.heap.size →
    Calls Try.prog 29 #[.agg #[.slice X1 n z1, .slice X2 n z2, .slice X3 n z3]] W' fun e w' => ∃ v, e = .returned v ∧ RealAt w' x v ∧ Below W'.heap.size W' w' := fun W' h1 h2 => by
  have := copyR_at x X1 X2 X3 y1 0 y2 0 y3 0 z1 z2 z3 W.heap.size W h.rat (by rw [h.l1]; exact hn) (by rw [h.l2]; exact hn) (by rw [h.l3]; exact hn) W' h1 h2
  rwa [h.l1, h.l2, h.l3] at this
end
theorem RAt.far {W : World} {x : Real} {X1 X2 X3 : Option Addr} {y1 y2 y3 : Nat} (h : RAt W W.heap.size x X1 X2 X3 y1 0 y2 0 y3 0) {p : Addr} (u : Value) (h1 : p.block ≠ y1) (h2 : p.block ≠ y2) (h3 : p.block ≠ y3) :
    RAt (W.setCell p u) (W.setCell p u).heap.size x X1 X2 X3 y1 0 y2 0 y3 0 := by
  have hz : (W.setCell p u).heap.size = W.heap.size := by simp [World.setCell]
  rw [hz]
  exact ⟨h.l1, h.l2, h.l3, fun j hj => (World.cell?_setCell_far _ _ _ _ h1).trans (h.z1 j hj), fun j hj => (World.cell?_setCell_far _ _ _ _ h2).trans (h.z2 j hj), fun j hj => (World.cell?_setCell_far _ _ _ _ h3).trans (h.z3 j hj)⟩
/-- The box that was made ahead of the call, and is written behind it. -/
theorem xb_set {W : World} {sb B : Nat} {x : Real} {n : Nat} {X1 X2 X3 : Option Addr} {z1 z2 z3 y1 y2 y3 : Nat} (hs : Blk W sb 39 #[.slice none 0 0, .slice none 0 0, .slice none 0 0]) (h : RAt W W.heap.size x X1 X2 X3 y1 0 y2 0 y3 0)
    (g1 : B ≤ y1) (g2 : B ≤ y2) (g3 : B ≤ y3) (gs : sb < B) (l1 : x.ws.length = n) (l2 : x.hs.length = n) (l3 : x.ts.length = n) (k1 : n ≤ z1) (k2 : n ≤ z2) (k3 : n ≤ z3) :
    XB (((W.setCell ⟨sb, 0, none⟩ (.slice X1 n z1)).setCell ⟨sb, 1, none⟩ (.slice X2 n z2)).setCell ⟨sb, 2, none⟩ (.slice X3 n z3)) sb n x X1 X2 X3 z1 z2 z3 y1 y2 y3 where
  blk := ((hs.set_ 0 _).set_ 1 _).set_ 2 _
  rat := ((h.far _ (by show sb ≠ _; omega) (by show sb ≠ _; omega) (by show sb ≠ _; omega)).far _ (by show sb ≠ _; omega) (by show sb ≠ _; omega) (by show sb ≠ _; omega)).far _ (by show sb ≠ _; omega) (by show sb ≠ _; omega) (by show sb ≠ _; omega)
  l1 := l1
  l2 := l2
  l3 := l3
  k1 := k1
  k2 := k2
  k3 := k3
/-- The box that is made behind the call. -/
theorem xb_new {W : World} {x : Real} {n : Nat} {X1 X2 X3 : Option Addr} {z1 z2 z3 y1 y2 y3 : Nat} (h : RAt W W.heap.size x X1 X2 X3 y1 0 y2 0 y3 0)
    (l1 : x.ws.length = n) (l2 : x.hs.length = n) (l3 : x.ts.length = n) (k1 : n ≤ z1) (k2 : n ≤ z2) (k3 : n ≤ z3) :
    XB (W.alloc (.cells #[.slice X1 n z1, .slice X2 n z2, .slice X3 n z3] 39)) W.heap.size n x X1 X2 X3 z1 z2 z3 y1 y2 y3 where
  blk := Blk.new W 39 _
  rat := (h.below (below_new W _)).mono (below_new W _).size
  l1 := l1
  l2 := l2
  l3 := l3
  k1 := k1
  k2 := k2
  k3 := k3
end Go.Proofs.Ytlfeoofchebbkaa
