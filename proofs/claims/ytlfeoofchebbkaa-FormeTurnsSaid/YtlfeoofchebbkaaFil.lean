/- FormeFillings: the walk. -/
import Derived.Test.YtlfeoofchebbkaaAwk
namespace Go.Proofs.Ytlfeoofchebbkaa
set_option linter.unusedSimpArgs false
set_option linter.unusedVariables false
open Go.RowKit
theorem FsAt.mono' {w : World} {B : Nat} {A : Option Addr} {b off : Nat} {l : List (Int × Int)} {w' : World} (hA : Lies A l.length B b off) (h : FsAt w b off l) (hb : Below B w w') : FsAt w' b off l := h.below hb fun h0 => (hA h0).2
theorem ZsAt.mono' {w : World} {B : Nat} {A : Option Addr} {b off : Nat} {zs : List Int} {w' : World} (hA : Lies A zs.length B b off) (h : ZsAt w b off zs) (hb : Below B w w') : ZsAt w' b off zs := fun j hj => (h.below hb (hA (by omega)).2) j hj
set_option maxHeartbeats 2000000 in
theorem fillings_any (l : List (Int × Int)) (len : Int) (cs : List Int) (A A2 : Option Addr) (b off c b2 off2 c2 : Nat) (w : World) (hA : Lies A l.length w.heap.size b off) (hz : FsAt w b off l)
    (hA2 : Lies A2 cs.length w.heap.size b2 off2) (hz2 : ZsAt w b2 off2 cs) :
    Calls Try.prog 3 #[.slice A l.length c, .int .i64 len, .slice A2 cs.length c2] w fun e w' => e = .returned (.bool true) ∧ Below w.heap.size w w' := by
  have HA := Lib.hid hA
  have HZ := Lib.hid hz
  have HA2 := Lib.hid hA2
  have HZ2 := Lib.hid hz2
  clear hA hz hA2 hz2
  go_enter Try.func3, Try.ntmps3
  go_wp2_with fail
  refine (awake_any _).mono ?_
  rintro e w1 ⟨rfl, b1⟩
  have HB1 := Lib.hid b1
  clear b1
  go_wp2_with fail
  refine (brief_any _ _ _ _).mono ?_
  rintro e w' ⟨rfl, rfl⟩
  cases hq : briefB l.length with
  | false =>
    go_wp2_with fail
    go_ret
    exact ⟨rfl, HB1.out⟩
  | true =>
    have hfew : l.length ≤ 14 := by unfold briefB at hq; have := of_decide_eq_true hq; omega
    clear hq
    by_cases h15 : 15 < cs.length
    · have h15z : (15 : Int) < (cs.length : Int) := by omega
      go_wp2_with fail
      go_ret
      exact ⟨rfl, HB1.out⟩
    · have h15z : ¬ (15 : Int) < (cs.length : Int) := by omega
      go_wp2_with fail
      refine (stocked_any l A b off c _ (HA.out.mono HB1.out.size) (HZ.out.mono' HA.out HB1.out) (by omega)).mono ?_
      rintro e w2 ⟨A', b', c', rfl, hA', hz', b2⟩
      have HB2 := Lib.hid (HB1.out.trans (b2.mono HB1.out.size))
      have HA' := Lib.hid hA'
      have HZ' := Lib.hid hz'
      clear hA' hz' b2 HB1
      go_wp2_with fail
      refine (copyInts_any cs A2 _ off2 c2 _ (HA2.out.mono HB2.out.size) (HZ2.out.mono' HA2.out HB2.out) (by omega)).mono ?_
      rintro e w3 ⟨A'', b'', c'', rfl, hA'', hz'', b3⟩
      have HB3 := Lib.hid (HB2.out.trans (b3.mono HB2.out.size))
      have HA3 := Lib.hid (HA'.out.mono b3.size)
      have HZ3 := Lib.hid (HZ'.out.mono' HA'.out b3)
      have HA'' := Lib.hid hA''
      have HZ'' := Lib.hid hz''
      clear hA'' hz'' b3 HB2 HA' HZ'
      go_wp2_with fail
      refine (checkFilling_any l len cs _ _ _ _ _ _ _ _ _ HA3.out HZ3.out (by omega) HA''.out HZ''.out (by omega)).mono ?_
      rintro e w4 ⟨rfl, b4⟩
      have HB4 := Lib.hid (HB3.out.trans (b4.mono HB3.out.size))
      clear b4 HB3 HA3 HZ3 HA'' HZ''
      have HF0 := Lib.hid (fun h => checkFl_ref (l := l) (len := len) cs h)
      have HF1 := Lib.hid (fun h => checkFl_bad (l := l) (len := len) cs h)
      have HOK := Lib.hid (fun h => checkSt_zero (l := l) (len := len) h)
      generalize checkFl l len cs = q at *
      go_wp2_with fail
      refine (refStock_any l len A b off c _ (HA.out.mono HB4.out.size) (HZ.out.mono' HA.out HB4.out) (by omega)).mono ?_
      rintro e w5 ⟨rfl, b5⟩
      have HB5 := Lib.hid (HB4.out.trans (b5.mono HB4.out.size))
      clear b5 HB4
      by_cases hs : checkSt l len = 0
      · have hok := HOK.out hs
        obtain rfl := HF0.out hs
        rw [hs]
        clear HF1 HF0 HOK hs
        have HOK := Lib.hid hok
        clear hok
        go_wp2_with fail
        refine (refFilling_any l len cs A A2 b off c _ off2 c2 _ (HA.out.mono HB5.out.size) (HZ.out.mono' HA.out HB5.out) (HA2.out.mono HB5.out.size) (HZ2.out.mono' HA2.out HB5.out) (by omega) HOK.out).mono ?_
        rintro e w6 ⟨rfl, b6⟩
        have HB6 := Lib.hid (HB5.out.trans (b6.mono HB5.out.size))
        clear b6 HB5 HOK
        generalize refFl l len cs = q at *
        go_wp2_with fail
        go_ret
        exact ⟨ret_bool (by simp), HB6.out⟩
      · have hs2 : (checkSt l len == 0) = false := by simpa using hs
        have hq := HF1.out hs
        subst hq
        clear HF0 HF1 HOK hs
        generalize checkSt l len = s at *
        go_wp2_with fail
        go_ret
        exact ⟨ret_bool (by simp), HB5.out⟩
