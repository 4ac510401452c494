/- The laws' common ground: where memory stands in a law of a forme and its sizes, calls with copies. -/
import Derived.Test.YtlfeoofchebbkaaCkd
import Derived.Test.YtlfeoofchebbkaaFrm
namespace Go.Proofs.Ytlfeoofchebbkaa
set_option linter.unusedSimpArgs false
set_option linter.unusedVariables false
open Go.RowKit
/-- A list of numbers in memory. -/
def IntsV (w : World) (zs : List Int) (v : Value) : Prop := ∃ A' b' c', v = .slice A' zs.length c' ∧ Lies A' zs.length w.heap.size b' 0 ∧ ZsAt w b' 0 zs ∧ zs.length ≤ c' ∧ zs.length ≤ 9223372036854775807
theorem IntsV.below {w w' : World} {zs : List Int} {v : Value} (h : IntsV w zs v) (hb : Below w.heap.size w w') : IntsV w' zs v := by
  obtain ⟨A', b', c', rfl, h1, h2, h3⟩ := h
  exact ⟨A', b', c', rfl, h1.mono hb.size, ZsAt.mono' h1 h2 hb, h3⟩
theorem IntsOwn.v {w : World} {B : Nat} {zs : List Int} {v : Value} (h : IntsOwn w B zs v) (hl : zs.length ≤ 9223372036854775807) : IntsV w zs v := by
  obtain ⟨A', b', c', rfl, h1, h2, h3, _⟩ := h
  exact ⟨A', b', c', rfl, h2, h3, h1, hl⟩
def zl (l : List Nat) : List Int := l.map fun (i : Nat) => (i : Int)
theorem nums_zl (l : List Nat) : nums l = (zl l).map (Value.int .i64) := by simp [nums, zl]
theorem chain_v {w : World} {B : Nat} {l : List Nat} {v : Value} (h : w.ownsRow B 3 1 v l.length (nums l)) : IntsV w (zl l) v := by
  have e : l.length = (zl l).length := by simp [zl]
  rw [nums_zl, e] at h
  refine (ints_own h).v ?_
  rcases h.2 with ⟨_, h0⟩ | ⟨g, cap, cur, _, _, _, h1, h2, _⟩
  · omega
  · unfold maxLen at h2; omega
set_option maxHeartbeats 1000000 in
theorem ints2_any (xs ys : List Int) (A A2 : Option Addr) (b off c b2 off2 c2 : Nat) (w : World) (hA : Lies A xs.length w.heap.size b off) (hz : ZsAt w b off xs) (hA2 : Lies A2 ys.length w.heap.size b2 off2) (hz2 : ZsAt w b2 off2 ys) (hm : xs.length ≤ 9223372036854775807) :
    Calls Try.prog 36 #[.slice A xs.length c, .slice A2 ys.length c2] w fun e w' => e = .returned (.bool (decide (xs = ys))) ∧ Below w.heap.size w w' := by
  have HS := Lib.hid (sameInts_iff xs ys)
  generalize hd : decide (xs = ys) = d
  have HD := Lib.hid hd
  clear hd
  by_cases hl : xs.length = ys.length
  · have hl2 : ((xs.length : Int) != (ys.length : Int)) = false := bne_f (by omega)
    have HL := Lib.hid hl
    clear hl
    go_enter Try.func36, Try.ntmps36
    go_wp2_with fail
    go_loopg [5] xs.length (fun gg s5 wr => ∃ k : Nat, k ≤ xs.length ∧ xs.length - k ≤ gg ∧ s5 = .int .i64 k ∧ Hid (∀ j, j < k → gz xs j = gz ys j) ∧ Hid (Below w.heap.size w wr) ∧ w.heap.size ≤ wr.heap.size)
    case atStart => exact ⟨0, by omega, by omega, rfl, fun j hj => absurd hj (Nat.not_lt_zero _), Below.refl _ _, Nat.le_refl _⟩
    case round =>
      obtain ⟨k, hk, hg, rfl, E, BW, hzw⟩ := hrel
      by_cases hlt : k < xs.length
      · have hltz : (k : Int) < (xs.length : Int) := by omega
        have hlty : (k : Int) < (ys.length : Int) := by have := HL.out; omega
        obtain ⟨rfl, hbb⟩ := hA (by omega)
        obtain ⟨rfl, hbb2⟩ := hA2 (by omega)
        have q := (hz.below BW.out hbb) k hlt
        have q2 := (hz2.below BW.out hbb2) k (by omega)
        have hbw : b < wr.heap.size := by omega
        have hbw2 : b2 < wr.heap.size := by omega
        clear hz hz2 hA hA2
        by_cases hx : gz xs k = gz ys k
        · have hx2 : (gz xs k != gz ys k) = false := bne_f hx
          have HX0 : Hid (∀ j, j = k → gz xs j = gz ys j) := (show ∀ j, _ from fun j e => by rw [e]; exact hx)
          clear hx
          generalize gz xs k = x at *
          generalize gz ys k = y at *
          go_wp2_with fail
          go_quiet (fail)
          go_wp2_with fail
          go_roundg (xs.length - (k + 1))
          case measure => omega
          case rel =>
            refine ⟨k + 1, by omega, by omega, by go_num, (show ∀ j, _ from fun j hj => ?_), ⟨BW.out.os, BW.out.tape, BW.out.output, BW.out.size, BW.out.block⟩, hzw⟩
            by_cases e : j = k
            · exact HX0.out j e
            · exact E.out j (by omega)
        · have hx2 : (gz xs k != gz ys k) = true := bne_t hx
          have HN : Hid (d = false) := by show _ = _; rw [← HD.out]; exact decide_eq_false fun h => hx (((HS.out.1 h).2) k hlt)
          clear hx
          generalize gz xs k = x at *
          generalize gz ys k = y at *
          go_wp2_with fail
          go_quiet (fail)
          go_wp2_with fail
          go_ret
          exact ⟨ret_bool HN.out.symm, ⟨BW.out.os, BW.out.tape, BW.out.output, BW.out.size, BW.out.block⟩⟩
      · have hltz : ¬ (k : Int) < (xs.length : Int) := by omega
        have he : k = xs.length := by omega
        subst he
        go_wp2_with fail
        go_ret
        exact ⟨ret_bool (by rw [← HD.out]; exact (decide_eq_true (HS.out.2 ⟨HL.out, E.out⟩)).symm), BW.out⟩
  · have hl2 : ((xs.length : Int) != (ys.length : Int)) = true := bne_t (by omega)
    have HN : Hid (d = false) := by show _ = _; rw [← HD.out]; exact decide_eq_false fun h => hl (HS.out.1 h).1
    clear hl
    go_enter Try.func36, Try.ntmps36
    go_wp2_with fail
    go_ret
    exact ⟨ret_bool HN.out.symm, Below.refl _ _⟩
theorem intsV_any (xs ys : List Int) (va vb : Value) (w : World) (ha : IntsV w xs va) (hb : IntsV w ys vb) :
    Calls Try.prog 36 #[va, vb] w fun e w' => e = .returned (.bool (decide (xs = ys))) ∧ Below w.heap.size w w' := by
  obtain ⟨A', b', c', rfl, h1, h2, h3, h4⟩ := ha
  obtain ⟨A2, b2, c2, rfl, g1, g2, g3, g4⟩ := hb
  exact ints2_any xs ys A' A2 b' 0 c' b2 0 c2 w h1 h2 g1 g2 h4
/-- The two boxes of a law, and its arguments. -/
structure LW (w W : World) (f : Forme) (r : Real) (A A1 A2 A3 : Option Addr) (b off c b1 o1 c1 b2 o2 c2 b3 o3 c3 : Nat) : Prop where
  B : Below w.heap.size w W
  F : FAt W w.heap.size f (.slice A f.ps.length c)
  T : TAt W (w.heap.size + 1) (.slice A1 r.ws.length c1) (.slice A2 r.hs.length c2) (.slice A3 r.ts.length c3)
  R : FR W w.heap.size f r A A1 A2 A3 b off b1 o1 b2 o2 b3 o3
  z : w.heap.size + 1 < W.heap.size
theorem LW.step {w W W' : World} {f : Forme} {r : Real} {A A1 A2 A3 : Option Addr} {b off c b1 o1 c1 b2 o2 c2 b3 o3 c3 : Nat} (h : LW w W f r A A1 A2 A3 b off c b1 o1 c1 b2 o2 c2 b3 o3 c3) (hb : Below W.heap.size W W') : LW w W' f r A A1 A2 A3 b off c b1 o1 c1 b2 o2 c2 b3 o3 c3 :=
  ⟨h.B.trans (hb.mono h.B.size), h.F.below hb (by have := h.z; omega), h.T.below hb h.z, h.R.below (hb.mono h.B.size), by have := h.z; have := hb.size; omega⟩
theorem LW.fr {w W : World} {f : Forme} {r : Real} {A A1 A2 A3 : Option Addr} {b off c b1 o1 c1 b2 o2 c2 b3 o3 c3 : Nat} (h : LW w W f r A A1 A2 A3 b off c b1 o1 c1 b2 o2 c2 b3 o3 c3) : FR W W.heap.size f r A A1 A2 A3 b off b1 o1 b2 o2 b3 o3 := h.R.mono h.B.size
def C6 (w W : World) (f : Forme) (v u1 u2 u3 : Value) : Prop := W.cell? ⟨w.heap.size, 0, none⟩ = some (.int .i64 f.W) ∧ W.cell? ⟨w.heap.size, 1, none⟩ = some (.int .i64 f.H) ∧ W.cell? ⟨w.heap.size, 2, none⟩ = some v ∧
  W.cell? ⟨w.heap.size + 1, 0, none⟩ = some u1 ∧ W.cell? ⟨w.heap.size + 1, 1, none⟩ = some u2 ∧ W.cell? ⟨w.heap.size + 1, 2, none⟩ = some u3
theorem LW.cells {w W : World} {f : Forme} {r : Real} {A A1 A2 A3 : Option Addr} {b off c b1 o1 c1 b2 o2 c2 b3 o3 c3 : Nat} (h : LW w W f r A A1 A2 A3 b off c b1 o1 c1 b2 o2 c2 b3 o3 c3) : C6 w W f (.slice A f.ps.length c) (.slice A1 r.ws.length c1) (.slice A2 r.hs.length c2) (.slice A3 r.ts.length c3) :=
  ⟨h.F.1, h.F.2.1, h.F.2.2, h.T.1, h.T.2.1, h.T.2.2⟩
/-- A forme in memory of its own. -/
def FormeAt (W : World) (f : Forme) (v : Value) : Prop := ∃ A' b' c', v = .agg #[.int .i64 f.W, .int .i64 f.H, .slice A' f.ps.length c'] ∧ Lies A' f.ps.length W.heap.size b' 0 ∧ PsAt W b' 0 f.ps ∧ f.ps.length ≤ c'
theorem FormeAt.below {w w' : World} {f : Forme} {v : Value} (h : FormeAt w f v) (hb : Below w.heap.size w w') : FormeAt w' f v := by
  obtain ⟨A', b', c', rfl, h1, h2, h3⟩ := h
  exact ⟨A', b', c', rfl, h1.mono hb.size, fun j hj => (h2 j hj).below hb (h1 (by omega)).2, h3⟩
def RealAt (W : World) (r : Real) (v : Value) : Prop := ∃ A1 A2 A3 c1 c2 c3 b1 b2 b3, v = .agg #[.slice A1 r.ws.length c1, .slice A2 r.hs.length c2, .slice A3 r.ts.length c3] ∧ RAt W W.heap.size r A1 A2 A3 b1 0 b2 0 b3 0 ∧ r.ws.length ≤ c1 ∧ r.hs.length ≤ c2 ∧ r.ts.length ≤ c3
theorem RealAt.below {w w' : World} {r : Real} {v : Value} (h : RealAt w r v) (hb : Below w.heap.size w w') : RealAt w' r v := by
  obtain ⟨A1, A2, A3, c1, c2, c3, b1, b2, b3, rfl, h1, h2, h3, h4⟩ := h
  exact ⟨A1, A2, A3, c1, c2, c3, b1, b2, b3, rfl, (h1.below hb).mono hb.size, h2, h3, h4⟩
theorem copyF_at (f : Forme) (A : Option Addr) (b off c B : Nat) (W0 : World) (hA : Lies A f.ps.length B b off) (hps : PsAt W0 b off f.ps) (hm : f.ps.length ≤ 1000000) : ∀ W, Below B W0 W → B ≤ W.heap.size →
    Calls Try.prog 28 #[.agg #[.int .i64 f.W, .int .i64 f.H, .slice A f.ps.length c]] W fun e w' => ∃ v, e = .returned v ∧ FormeAt w' f v ∧ Below W.heap.size W w' := fun W hW hB => by
  refine (copyF_any f A b off c W (hA.mono hB) (fun j hj => (hps j hj).below hW (hA (by omega)).2) hm).mono ?_
  rintro e w' ⟨v, rfl, ⟨A', b', c', rfl, k1, l1, p1, -⟩, b1⟩
  exact ⟨_, rfl, ⟨A', b', c', rfl, l1, p1, k1⟩, b1⟩
theorem copyR_at (r : Real) (A1 A2 A3 : Option Addr) (b1 o1 b2 o2 b3 o3 c1 c2 c3 B : Nat) (W0 : World) (h : RAt W0 B r A1 A2 A3 b1 o1 b2 o2 b3 o3) (m1 : r.ws.length ≤ 1000000) (m2 : r.hs.length ≤ 1000000) (m3 : r.ts.length ≤ 1000000) : ∀ W, Below B W0 W → B ≤ W.heap.size →
    Calls Try.prog 29 #[.agg #[.slice A1 r.ws.length c1, .slice A2 r.hs.length c2, .slice A3 r.ts.length c3]] W fun e w' => ∃ v, e = .returned v ∧ RealAt w' r v ∧ Below W.heap.size W w' := fun W hW hB => by
  refine (copyReal_any r A1 A2 A3 b1 o1 b2 o2 b3 o3 c1 c2 c3 W ((h.below hW).mono hB) m1 m2 m3).mono ?_
  rintro e w' ⟨X1, X2, X3, d1, d2, d3, e1, e2, e3, rfl, hro, hb⟩
  exact ⟨_, rfl, ⟨X1, X2, X3, d1, d2, d3, e1, e2, e3, rfl, hro.rat, hro.k1, hro.k2, hro.k3⟩, hb⟩
theorem lightB_t {f : Forme} (h : lightB f = true) : NameOk f.ps ∧ f.ps.length ≤ 62 := by
  have := of_decide_eq_true h
  exact ⟨fun j hj => by have := this.1 j hj; omega, by omega⟩
theorem fewB_t {r : Real} (h : fewB r = true) : r.ws.length ≤ 70 ∧ r.hs.length ≤ 70 ∧ r.ts.length ≤ 70 := of_decide_eq_true h
/-- A call at copies: what is called, wherever memory stands. -/
@[reducible] def AtCopies (n : Nat) (f : Forme) (r : Real) (P : World → Ending → World → Prop) : Prop := ∀ (W : World) (vf vr : Value), FormeAt W f vf → RealAt W r vr → Calls Try.prog n #[vf, vr] W (P W)
theorem checkReal_at (f : Forme) (r : Real) (hnm : NameOk f.ps) (hm : f.ps.length ≤ 1000) : AtCopies 27 f r fun W e w' => e = .returned (.tuple #[.int .i64 (checkR f r).1, .int .i64 (checkR f r).2]) ∧ Below W.heap.size W w' := by
  rintro W vf vr ⟨A', b', c', rfl, h1, h2, h3⟩ ⟨A1, A2, A3, c1, c2, c3, b1, b2, b3, rfl, g1, g2, g3, g4⟩
  exact checkReal_any f r A' A1 A2 A3 b' 0 b1 0 b2 0 b3 0 c' c1 c2 c3 W ⟨h1, h2, g1⟩ hnm h3 (by omega) g2 g3 g4
theorem longA_at (f : Forme) (r : Real) (hnm : NameOk f.ps) (hm : f.ps.length ≤ 1000) : AtCopies 30 f r fun W => LgPost W (across f r.ws) (shapedF f r).2 := by
  rintro W vf vr ⟨A', b', c', rfl, h1, h2, h3⟩ ⟨A1, A2, A3, c1, c2, c3, b1, b2, b3, rfl, g1, g2, g3, g4⟩
  exact longestAcross_any f r A' A1 A2 A3 b' 0 b1 0 b2 0 b3 0 c' c1 c2 c3 W ⟨h1, h2, g1⟩ hnm h3 (by omega) g2 g3 g4
theorem longD_at (f : Forme) (r : Real) (hnm : NameOk f.ps) (hm : f.ps.length ≤ 1000) : AtCopies 31 f r fun W => LgPost W (down f r.hs) (shapedF f r).2 := by
  rintro W vf vr ⟨A', b', c', rfl, h1, h2, h3⟩ ⟨A1, A2, A3, c1, c2, c3, b1, b2, b3, rfl, g1, g2, g3, g4⟩
  exact longestDown_any f r A' A1 A2 A3 b' 0 b1 0 b2 0 b3 0 c' c1 c2 c3 W ⟨h1, h2, g1⟩ hnm h3 (by omega) g2 g3 g4
theorem held_at (f : Forme) (r : Real) (hnm : NameOk f.ps) (hm : f.ps.length ≤ 1000) : AtCopies 37 f r fun W => HeldPost W f r := by
  rintro W vf vr ⟨A', b', c', rfl, h1, h2, h3⟩ ⟨A1, A2, A3, c1, c2, c3, b1, b2, b3, rfl, g1, g2, g3, g4⟩
  exact held_any f r A' A1 A2 A3 b' 0 b1 0 b2 0 b3 0 c' c1 c2 c3 W ⟨h1, h2, g1⟩ hnm h3 (by omega) g2 g3 g4
/-- LongestAcross, LongestDown: with numbers that are right, or not. -/
def LongV (D : Dir) (W : World) (e : Ending) (w' : World) : Prop := ∃ (l : List Nat) (v : Value), e = .returned (.tuple #[.int .i64 D.maxT, v, .int .i64 0]) ∧ D.IsChain D.maxT (-1) l ∧ IntsV w' (zl l) v ∧ Below W.heap.size W w'
def LongN (s : Int) (W : World) (e : Ending) (w' : World) : Prop := e = .returned (.tuple #[.int .i64 0, .slice none 0 0, .int .i64 s]) ∧ Below W.heap.size W w'
theorem LgPost.yes {W : World} {D : Dir} {e : Ending} {w' : World} (h : LgPost W D 0 e w') : LongV D W e w' := by
  rcases h with ⟨h, _⟩ | ⟨_, l, v, he, hc, ho, hb⟩
  · exact absurd rfl h
  · exact ⟨l, v, he, hc, chain_v ho, hb⟩
theorem LgPost.no {W : World} {D : Dir} {s : Int} {e : Ending} {w' : World} (hs : s ≠ 0) (h : LgPost W D s e w') : LongN s W e w' := by
  rcases h with ⟨_, h⟩ | ⟨h, _⟩
  · exact h
  · exact absurd h hs
def LongRV (D : Dir) (W : World) (e : Ending) (w' : World) : Prop := ∃ (l : List Nat) (v : Value), e = .returned (.tuple #[.int .i64 D.maxT, v]) ∧ D.IsChain D.maxT (-1) l ∧ IntsV w' (zl l) v ∧ Below W.heap.size W w'
theorem LongPostR.v {W : World} {D : Dir} {e : Ending} {w' : World} (h : LongPostR W D e w') : LongRV D W e w' := by
  obtain ⟨l, v, he, hc, ho, hb⟩ := h
  exact ⟨l, v, he, hc, chain_v ho, hb⟩
end Go.Proofs.Ytlfeoofchebbkaa
