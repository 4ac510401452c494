/- Stocks of furniture: checkFill, sum, CheckFilling. -/
import Derived.Test.YtlfeoofchebbkaaDoorHld
namespace Go.Proofs.YtlfeoofchebbkaaDoor
set_option linter.unusedSimpArgs false
set_option linter.unusedVariables false
open Go.RowKit
def gf (l : List (Int × Int)) (i : Nat) : Int × Int := l.getD i (0, 0)
/-- The cells of a stock: sizes and counts. -/
def FsAt (w : World) (b off : Nat) (l : List (Int × Int)) : Prop := ∀ j, j < l.length → w.cell? ⟨b, off + j * 2, none⟩ = some (.int .i64 (gf l j).1) ∧ w.cell? ⟨b, off + j * 2 + 1, none⟩ = some (.int .i64 (gf l j).2)
theorem FsAt.below {B : Nat} {w w' : World} {b off : Nat} {l : List (Int × Int)} (h : FsAt w b off l) (hb : Below B w w') (hB : 0 < l.length → b < B) : FsAt w' b off l :=
  fun j hj => ⟨(hb.cell (p := ⟨b, _, none⟩) (hB (by omega))).trans (h j hj).1, (hb.cell (p := ⟨b, _, none⟩) (hB (by omega))).trans (h j hj).2⟩
def stErr (l : List (Int × Int)) (i : Nat) : Int :=
  if win (gf l i).1 1 300 = false ∨ win (gf l i).2 0 100 = false then 2 else if 0 < i ∧ (gf l i).1 ≤ (gf l (i - 1)).1 then 9 else 0
def checkSt (l : List (Int × Int)) (len : Int) : Int :=
  if 12 < l.length then 8 else if (fstE (stErr l) l.length).2 ≠ 0 then (fstE (stErr l) l.length).2 else if win len 0 300 = false then 2 else 0
set_option maxHeartbeats 1000000 in
theorem sum_any (zs : List Int) (A : Option Addr) (b off c : Nat) (w : World) (hA : Lies A zs.length w.heap.size b off) (hz : ZsAt w b off zs) (hm : zs.length ≤ 1000000)
    (hb : ∀ k, k ≤ zs.length → -4000000000000000000 ≤ sumTo k (gz zs) ∧ sumTo k (gz zs) ≤ 4000000000000000000) :
    Calls Tryd.prog 36 #[.slice A zs.length c] w fun e w' => e = .returned (.int .i64 (sumTo zs.length (gz zs))) ∧ w = w' := by
  generalize hn : zs.length = n at *
  have HN := Lib.hid hn
  have HB := Lib.hid hb
  clear hn hb
  go_enter Tryd.func36, Tryd.ntmps36
  go_wp2_with fail
  go_loopg [3, 8] n (fun gg s3 s8 wr => ∃ k : Nat, k ≤ n ∧ n - k ≤ gg ∧ s8 = .int .i64 k ∧ s3 = .int .i64 (sumTo k (gz zs)) ∧ w = wr)
  case atStart => exact ⟨0, by omega, by omega, rfl, rfl, rfl⟩
  case round =>
    obtain ⟨k, hk, hg, rfl, rfl, rfl⟩ := hrel
    by_cases hlt : k < n
    · have hltz : (k : Int) < (n : Int) := by omega
      obtain ⟨rfl, hbb⟩ := hA (by omega)
      have q := hz k (by rw [HN.out]; omega)
      obtain ⟨h1, h2⟩ := HB.out k (by omega)
      obtain ⟨h3, h4⟩ := HB.out (k + 1) (by omega)
      have HS : Hid (sumTo (k + 1) (gz zs) = sumTo k (gz zs) + gz zs k) := rfl
      rw [HS.out] at h3 h4
      clear hz HB hA
      generalize sumTo k (gz zs) = s at *
      generalize gz zs k = z at *
      go_wp2_with fail
      go_roundg (n - (k + 1))
      case measure => omega
      case rel => exact ⟨k + 1, by omega, by omega, by go_num, by rw [HS.out], rfl⟩
    · have hltz : ¬ (k : Int) < (n : Int) := by omega
      have he : k = n := by omega
      subst he
      go_wp2_with fail
      go_ret
      exact ⟨rfl, rfl⟩
set_option maxRecDepth 100000 in
set_option maxHeartbeats 2000000 in
theorem checkFill_any (l : List (Int × Int)) (len : Int) (A : Option Addr) (b off c : Nat) (w : World) (hA : Lies A l.length w.heap.size b off) (hz : FsAt w b off l) (hm : l.length ≤ 9223372036854775807) :
    Calls Tryd.prog 34 #[.slice A l.length c, .int .i64 len] w fun e w' => e = .returned (.int .i64 (checkSt l len)) ∧ Below w.heap.size w w' := by
  have HC : Hid (checkSt l len = if 12 < l.length then 8 else if (fstE (stErr l) l.length).2 ≠ 0 then (fstE (stErr l) l.length).2 else if win len 0 300 = false then 2 else 0) := rfl
  generalize hn : l.length = n at *
  have HN := Lib.hid hn
  clear hn
  by_cases h12 : 12 < n
  · have hz12 : (12 : Int) < (n : Int) := by omega
    go_enter Tryd.func34, Tryd.ntmps34
    go_wp2_with fail
    go_ret
    exact ⟨ret_int (by rw [HC.out, if_pos h12]), Below.refl _ _⟩
  · have hz12 : ¬ (12 : Int) < (n : Int) := by omega
    have HC2 : Hid (checkSt l len = if (fstE (stErr l) n).2 ≠ 0 then (fstE (stErr l) n).2 else if win len 0 300 = false then 2 else 0) := by show _ = _; rw [HC.out, if_neg h12]
    clear HC
    go_enter Tryd.func34, Tryd.ntmps34
    go_wp2_with fail
    go_loopg [12] n (fun gg s12 wr => ∃ k : Nat, k ≤ n ∧ n - k ≤ gg ∧ s12 = .int .i64 k ∧ Hid (Below w.heap.size w wr) ∧ w.heap.size ≤ wr.heap.size ∧ Hid (∀ j, j < k → stErr l j = 0))
    case atStart => exact ⟨0, by omega, by omega, rfl, Below.refl _ _, Nat.le_refl _, fun j hj => absurd hj (Nat.not_lt_zero _)⟩
    case round =>
      obtain ⟨k, hk, hg, rfl, BW, hzw, E⟩ := hrel
      by_cases hlt : k < n
      · have hltz : (k : Int) < (n : Int) := by omega
        obtain ⟨rfl, hbb⟩ := hA (by omega)
        have hz' := hz.below BW.out (fun _ => hbb)
        obtain ⟨q0, q1⟩ := hz' k (by rw [HN.out]; omega)
        have hbw : b < wr.heap.size := by omega
        have SE : Hid (stErr l k = if win (gf l k).1 1 300 = false ∨ win (gf l k).2 0 100 = false then 2 else if 0 < k ∧ (gf l k).1 ≤ (gf l (k - 1)).1 then 9 else 0) := rfl
        have hprev : Hid (0 < k → wr.cell? ⟨b, off + (k - 1) * 2, none⟩ = some (.int .i64 (gf l (k - 1)).1)) := fun h0 => (hz' (k - 1) (by rw [HN.out]; omega)).1
        clear hz hz' hA
        generalize gf l k = p at *
        generalize (gf l (k - 1)).1 = pv at *
        go_wp2_with fail
        refine (within_any _ _ _ _).mono ?_
        rintro e w' ⟨rfl, rfl⟩
        cases hq1 : win p.1 1 300 with
        | false =>
          go_wp2_with fail
          go_ret
          refine ⟨ret_int ?_, BW.out.alloc hzw _⟩
          have hs : stErr l k = 2 := by rw [SE.out, if_pos (Or.inl hq1)]
          rw [HC2.out, fstE_hit (by rw [hs]; decide) E.out hlt, hs]
          rfl
        | true =>
          go_wp2_with fail
          refine (within_any _ _ _ _).mono ?_
          rintro e w' ⟨rfl, rfl⟩
          cases hq2 : win p.2 0 100 with
          | false =>
            go_wp2_with fail
            go_ret
            refine ⟨ret_int ?_, BW.out.alloc hzw _⟩
            have hs : stErr l k = 2 := by rw [SE.out, if_pos (Or.inr hq2)]
            rw [HC2.out, fstE_hit (by rw [hs]; decide) E.out hlt, hs]
            rfl
          | true =>
            have SE2 : Hid (stErr l k = if 0 < k ∧ p.1 ≤ pv then 9 else 0) := by show _ = _; rw [SE.out, if_neg (by rw [hq1, hq2]; decide)]
            clear SE
            by_cases hk0 : 0 < k
            · have hkz : (0 : Int) < (k : Int) := by omega
              have qp := hprev.out hk0
              have i1 : (0 : Int) ≤ (k : Int) - 1 := by omega
              have i1' : (1 : Int) ≤ (k : Int) := by omega
              have i2 : (k : Int) - 1 < (n : Int) := by omega
              have i3 : ((k : Int) - 1).toNat = k - 1 := by omega
              have i4 : IntKind.i64.wrap ((k : Int) - 1) = (k : Int) - 1 := IntWalk.i64_in _ (by omega)
              clear hprev
              by_cases hle : p.1 ≤ pv
              · go_wp2_with fail
                go_quiet (fail)
                go_wp2_with fail
                go_ret
                refine ⟨ret_int ?_, ?_⟩
                · have hs : stErr l k = 9 := by rw [SE2.out, if_pos ⟨hk0, hle⟩]
                  rw [HC2.out, fstE_hit (by rw [hs]; decide) E.out hlt, hs]
                  rfl
                · have hbb2 := BW.out.alloc hzw (Obj.cells #[.int .i64 p.1, .int .i64 p.2] 49)
                  exact ⟨hbb2.os, hbb2.tape, hbb2.output, hbb2.size, hbb2.block⟩
              · go_wp2_with fail
                go_quiet (fail)
                go_wp2_with fail
                go_roundg (n - (k + 1))
                case measure => omega
                case rel =>
                  have hbb2 := BW.out.alloc hzw (Obj.cells #[.int .i64 p.1, .int .i64 p.2] 49)
                  refine ⟨k + 1, by omega, by omega, by go_num, ⟨hbb2.os, hbb2.tape, hbb2.output, hbb2.size, hbb2.block⟩, by simp; omega, (show ∀ j, _ from fun j hj => ?_)⟩
                  by_cases e : j = k
                  · rw [e, SE2.out, if_neg (fun hh => by have := hh.2; omega)]
                  · exact E.out j (by omega)
            · have hkz : decide ((0 : Int) < (k : Int)) = false := by simp; omega
              have hk0' : k = 0 := by omega
              clear hprev
              go_wp2_with fail
              go_quiet (fail)
              go_wp2_with fail
              go_roundg (n - (k + 1))
              case measure => omega
              case rel =>
                have hbb2 := BW.out.alloc hzw (Obj.cells #[.int .i64 p.1, .int .i64 p.2] 49)
                refine ⟨k + 1, by omega, by omega, by first | go_num | (congr 1; omega), ⟨hbb2.os, hbb2.tape, hbb2.output, hbb2.size, hbb2.block⟩, by simp; omega, (show ∀ j, _ from fun j hj => ?_)⟩
                by_cases e : j = k
                · rw [e, SE2.out, if_neg (fun hh => hk0 hh.1)]
                · exact E.out j (by omega)
      · have hltz : ¬ (k : Int) < (n : Int) := by omega
        have he : k = n := by omega
        subst he
        go_wp2_with fail
        refine (within_any _ _ _ _).mono ?_
        rintro e w' ⟨rfl, rfl⟩
        cases hq : win len 0 300 with
        | false =>
          go_wp2_with fail
          go_ret
          exact ⟨ret_int (by rw [HC2.out, fstE_none E.out, if_neg (by decide), if_pos hq]), BW.out⟩
        | true =>
          go_wp2_with fail
          go_ret
          exact ⟨ret_int (by rw [HC2.out, fstE_none E.out, if_neg (by decide), if_neg (by rw [hq]; decide)]), BW.out⟩
def clErr (l : List (Int × Int)) (cs : List Int) (i : Nat) : Int := if win (gz cs i) 0 (gf l i).2 = false then 20 else 0
def fillSum (l : List (Int × Int)) (cs : List Int) (k : Nat) : Int := sumTo k (fun i => gz cs i * (gf l i).1)
def checkFl (l : List (Int × Int)) (len : Int) (cs : List Int) : Int × Int :=
  if checkSt l len ≠ 0 then (0, checkSt l len)
  else if cs.length ≠ l.length then (0, 10)
  else if (fstE (clErr l cs) l.length).2 ≠ 0 then (0, 20)
  else if fillSum l cs l.length ≠ len then (0, 23)
  else (sumTo cs.length (gz cs), 0)
/-- A right stock, and a right length. -/
structure StOk (l : List (Int × Int)) (len : Int) : Prop where
  few : l.length ≤ 12
  s : ∀ i, i < l.length → 1 ≤ (gf l i).1 ∧ (gf l i).1 ≤ 300
  c : ∀ i, i < l.length → 0 ≤ (gf l i).2 ∧ (gf l i).2 ≤ 100
  up : ∀ i, 0 < i → i < l.length → (gf l (i - 1)).1 < (gf l i).1
  len0 : 0 ≤ len
  len1 : len ≤ 300
theorem checkSt_zero {l : List (Int × Int)} {len : Int} (h : checkSt l len = 0) : StOk l len := by
  unfold checkSt at h
  by_cases h1 : 12 < l.length
  · rw [if_pos h1] at h; cases h
  · rw [if_neg h1] at h
    by_cases h2 : (fstE (stErr l) l.length).2 ≠ 0
    · rw [if_pos h2] at h; exact absurd h h2
    · rw [if_neg h2] at h
      by_cases h3 : win len 0 300 = false
      · rw [if_pos h3] at h; cases h
      · have hz := fstE_zero (by omega : (fstE (stErr l) l.length).2 = 0)
        have hw := win_t.1 (by simpa using h3 : win len 0 300 = true)
        have hh : ∀ i, i < l.length → (1 ≤ (gf l i).1 ∧ (gf l i).1 ≤ 300) ∧ (0 ≤ (gf l i).2 ∧ (gf l i).2 ≤ 100) ∧ (0 < i → (gf l (i - 1)).1 < (gf l i).1) := fun i hi => by
          have := hz i hi
          unfold stErr at this
          by_cases a : win (gf l i).1 1 300 = false ∨ win (gf l i).2 0 100 = false
          · rw [if_pos a] at this; cases this
          · rw [if_neg a] at this
            simp only [not_or, Bool.not_eq_false] at a
            by_cases b : 0 < i ∧ (gf l i).1 ≤ (gf l (i - 1)).1
            · rw [if_pos b] at this; cases this
            · exact ⟨win_t.1 a.1, win_t.1 a.2, fun h0 => by omega⟩
        exact ⟨by omega, fun i hi => (hh i hi).1, fun i hi => (hh i hi).2.1, fun i h0 hi => (hh i hi).2.2 h0, hw.1, hw.2⟩
theorem mul_bound {a b A B : Int} (h0 : 0 ≤ a) (h1 : a ≤ A) (h2 : 0 ≤ b) (h3 : b ≤ B) : 0 ≤ a * b ∧ a * b ≤ A * B :=
  ⟨Int.mul_nonneg h0 h2, Int.mul_le_mul h1 h3 h2 (by omega)⟩
set_option maxRecDepth 100000 in
set_option maxHeartbeats 2000000 in
theorem checkFilling_any (l : List (Int × Int)) (len : Int) (cs : List Int) (A A2 : Option Addr) (b off c b2 off2 c2 : Nat) (w : World) (hA : Lies A l.length w.heap.size b off) (hz : FsAt w b off l) (hm : l.length ≤ 9223372036854775807)
    (hA2 : Lies A2 cs.length w.heap.size b2 off2) (hz2 : ZsAt w b2 off2 cs) (hm2 : cs.length ≤ 9223372036854775807) :
    Calls Tryd.prog 14 #[.slice A l.length c, .int .i64 len, .slice A2 cs.length c2] w fun e w' => e = .returned (.tuple #[.int .i64 (checkFl l len cs).1, .int .i64 (checkFl l len cs).2]) ∧ Below w.heap.size w w' := by
  have hc := checkFill_any l len A b off c w hA hz hm
  have HC : Hid (checkFl l len cs = if checkSt l len ≠ 0 then (0, checkSt l len) else if cs.length ≠ l.length then (0, 10) else if (fstE (clErr l cs) l.length).2 ≠ 0 then (0, 20) else if fillSum l cs l.length ≠ len then (0, 23) else (sumTo cs.length (gz cs), 0)) := rfl
  go_enter Tryd.func14, Tryd.ntmps14
  go_wp2_with fail
  refine hc.mono ?_
  rintro e w1 ⟨rfl, b1⟩
  have HB1 := Lib.hid b1
  clear hc b1
  by_cases hE : checkSt l len = 0
  · have hok := checkSt_zero hE
    have h1 := bne_f hE
    have HC2 : Hid (checkFl l len cs = if cs.length ≠ l.length then (0, 10) else if (fstE (clErr l cs) l.length).2 ≠ 0 then (0, 20) else if fillSum l cs l.length ≠ len then (0, 23) else (sumTo cs.length (gz cs), 0)) := by show _ = _; rw [HC.out, if_neg (by omega)]
    clear hE HC
    generalize checkSt l len = e0 at *
    by_cases hl : cs.length = l.length
    · have hl2 : ((cs.length : Int) != (l.length : Int)) = false := bne_f (by omega)
      have HC3 : Hid (checkFl l len cs = if (fstE (clErr l cs) l.length).2 ≠ 0 then (0, 20) else if fillSum l cs l.length ≠ len then (0, 23) else (sumTo cs.length (gz cs), 0)) := by show _ = _; rw [HC2.out, if_neg (by omega)]
      clear HC2
      have HL := Lib.hid hl
      clear hl
      have hfew := hok.few
      have HOK := Lib.hid hok
      have hlen0 := hok.len0
      have hlen1 := hok.len1
      clear hok
      go_wp2_with fail
      go_loopg [9, 25] l.length (fun gg s9 s25 wr => ∃ k : Nat, k ≤ l.length ∧ l.length - k ≤ gg ∧ s25 = .int .i64 k ∧ s9 = .int .i64 (fillSum l cs k) ∧ 0 ≤ fillSum l cs k ∧ fillSum l cs k ≤ k * 30000 ∧ Hid (Below w.heap.size w wr) ∧ w.heap.size ≤ wr.heap.size ∧ Hid (∀ j, j < k → clErr l cs j = 0))
      case atStart => exact ⟨0, by omega, by omega, rfl, rfl, Int.le_refl _, Int.le_refl _, HB1.out, HB1.out.size, fun j hj => absurd hj (Nat.not_lt_zero _)⟩
      case round =>
        obtain ⟨k, hk, hg, rfl, rfl, s0, s1, BW, hzw, E⟩ := hrel
        clear HB1 hl2 h1
        by_cases hlt : k < l.length
        · have hltz : (k : Int) < (l.length : Int) := by omega
          have hltz2 : (k : Int) < (cs.length : Int) := by have := HL.out; omega
          have hk0 : (0 : Int) ≤ (k : Int) := by omega
          obtain ⟨rfl, hbb⟩ := hA (by omega)
          obtain ⟨rfl, hbb2⟩ := hA2 (by rw [HL.out]; omega)
          obtain ⟨q0, q1⟩ := (hz.below BW.out (fun _ => hbb)) k hlt
          have q2 := (hz2.below BW.out hbb2) k (by rw [HL.out]; omega)
          have hbw : b < wr.heap.size := by omega
          have hbw2 : b2 < wr.heap.size := by omega
          have hs := HOK.out.s k hlt
          have hcc := HOK.out.c k hlt
          have SE : Hid (clErr l cs k = if win (gz cs k) 0 (gf l k).2 = false then 20 else 0) := rfl
          have SS : Hid (fillSum l cs (k + 1) = fillSum l cs k + gz cs k * (gf l k).1) := rfl
          clear hz hz2 hA hA2
          generalize gf l k = p at *
          generalize gz cs k = z at *
          generalize fillSum l cs k = s at *
          obtain ⟨hs1, hs2⟩ := hs
          obtain ⟨hc1, hc2'⟩ := hcc
          go_wp2_with fail
          go_quiet ((go_at_call 35; exact Calls.quiet_of_same ((within_any _ _ _ _).mono fun _ _ ⟨h1, h2⟩ => ⟨h1, h2.symm⟩)))
          generalize hq : win z 0 p.2 = q
          have HQ := Lib.hid hq
          clear hq
          cases q with
          | false =>
            go_wp2_with fail
            go_ret2
            have hsx : clErr l cs k = 20 := by rw [SE.out, if_pos HQ.out]
            rw [HC3.out, if_pos (by rw [fstE_hit (by rw [hsx]; decide) E.out hlt, hsx]; show (20 : Int) ≠ 0; decide)]
            have hbb3 := BW.out.alloc hzw (Obj.cells #[.int .i64 p.1, .int .i64 p.2] 49)
            exact ⟨rfl, hbb3.os, hbb3.tape, hbb3.output, hbb3.size, hbb3.block⟩
          | true =>
            obtain ⟨z0, z1⟩ := win_t.1 HQ.out
            obtain ⟨m0, m1⟩ := mul_bound z0 (Int.le_trans z1 hc2') (by omega : (0 : Int) ≤ p.1) hs2
            have e1 : IntKind.i64.wrap (z * p.1) = z * p.1 := IntWalk.i64_in _ (by omega)
            have e2 : IntKind.i64.wrap (s + z * p.1) = s + z * p.1 := IntWalk.i64_in _ (by omega)
            go_wp2_with fail
            go_quiet (fail)
            go_wp2_with fail
            go_roundg (l.length - (k + 1))
            case measure => omega
            case rel =>
              have hbb3 := BW.out.alloc hzw (Obj.cells #[.int .i64 p.1, .int .i64 p.2] 49)
              refine ⟨k + 1, by omega, by omega, by go_num, by rw [SS.out], by rw [SS.out]; omega, by rw [SS.out]; omega, ⟨hbb3.os, hbb3.tape, hbb3.output, hbb3.size, hbb3.block⟩, by simp; omega, (show ∀ j, _ from fun j hj => ?_)⟩
              by_cases e : j = k
              · rw [e, SE.out, if_neg (by rw [HQ.out]; decide)]
              · exact E.out j (by omega)
        · have hltz : ¬ (k : Int) < (l.length : Int) := by omega
          have he : k = l.length := by omega
          subst he
          have HC4 : Hid (checkFl l len cs = if fillSum l cs l.length ≠ len then (0, 23) else (sumTo cs.length (gz cs), 0)) := by show _ = _; rw [HC3.out, if_neg (by rw [fstE_none E.out]; decide)]
          clear HC3
          have hcz : ∀ j, j < cs.length → 0 ≤ gz cs j ∧ gz cs j ≤ 100 := fun j hj => by
            have h6 := E.out j (by have := HL.out; omega)
            have h7 := (HOK.out.c j (by have := HL.out; omega)).2
            unfold clErr at h6
            by_cases a : win (gz cs j) 0 (gf l j).2 = false
            · rw [if_pos a] at h6; cases h6
            · have := win_t.1 (by simpa using a : win (gz cs j) 0 (gf l j).2 = true)
              omega
          have hsb : ∀ k, k ≤ cs.length → 0 ≤ sumTo k (gz cs) ∧ sumTo k (gz cs) ≤ k * 100 := fun k => by
            induction k with
            | zero => intro _; simp [sumTo]
            | succ k ih => intro hk; have := ih (by omega); have := hcz k (by omega); simp only [sumTo]; omega
          have hcs := sum_any cs A2 b2 off2 c2 wr (hA2.mono hzw) (fun j hj => (hz2.below BW.out (hA2 (by omega)).2) j hj) (by have := HL.out; omega) (fun k hk => by have := hsb k hk; have := HL.out; omega)
          have HCS := Lib.hid hcs
          clear hcs hcz hsb hz hz2 hA hA2 E
          by_cases hs : fillSum l cs l.length = len
          · have hs2 : (fillSum l cs l.length != len) = false := bne_f hs
            have HS := Lib.hid hs
            clear hs
            generalize fillSum l cs l.length = s at *
            go_wp2_with fail
            refine HCS.out.mono ?_
            rintro e w3 ⟨rfl, rfl⟩
            go_wp2_with fail
            go_ret2
            rw [HC4.out, if_neg (by rw [HS.out]; simp)]
            exact ⟨rfl, BW.out⟩
          · have hs2 : (fillSum l cs l.length != len) = true := bne_t hs
            have HS := Lib.hid hs
            clear hs HCS
            generalize fillSum l cs l.length = s at *
            go_wp2_with fail
            go_ret2
            rw [HC4.out, if_pos HS.out]
            exact ⟨rfl, BW.out⟩
    · have hl2 : ((cs.length : Int) != (l.length : Int)) = true := bne_t (by omega)
      have HL := Lib.hid hl
      clear hl
      go_wp2_with fail
      go_ret2
      rw [HC2.out, if_pos HL.out]
      exact ⟨rfl, HB1.out⟩
  · have h1 := bne_t hE
    have HE := Lib.hid hE
    clear hE
    generalize checkSt l len = e0 at *
    go_wp2_with fail
    go_ret2
    rw [HC.out, if_pos HE.out]
    exact ⟨rfl, HB1.out⟩
end Go.Proofs.YtlfeoofchebbkaaDoor
