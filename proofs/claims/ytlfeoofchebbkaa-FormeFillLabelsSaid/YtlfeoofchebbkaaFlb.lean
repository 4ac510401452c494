/- FormeFillLabels: the walk. -/
import Derived.Test.YtlfeoofchebbkaaClb
import Derived.Test.YtlfeoofchebbkaaRlb
import Derived.Test.YtlfeoofchebbkaaFil
namespace Go.Proofs.Ytlfeoofchebbkaa
set_option linter.unusedSimpArgs false
set_option linter.unusedVariables false
open Go.RowKit
set_option maxHeartbeats 2000000 in
theorem fillLabels_any (l : List (Int × Int)) (len : Int) (ls : List (List Int)) (A Al : Option Addr) (b off c bl ol cl : Nat) (w : World) (hA : Lies A l.length w.heap.size b off) (hz : FsAt w b off l)
    (hAl : Lies Al ls.length w.heap.size bl ol) (hr : 0 < ls.length → RowsAt w w.heap.size bl ol ls) (hml : ls.length ≤ 9223372036854775807) :
    Calls Try.prog 10 #[.slice A l.length c, .int .i64 len, .slice Al ls.length cl] w fun e w' => e = .returned (.bool true) ∧ Below w.heap.size w w' := by
  have HA := Lib.hid hA
  have HZ := Lib.hid hz
  have HAl := Lib.hid hAl
  have HR : Hid (∀ W, Below w.heap.size w W → 0 < ls.length → RowsAt W W.heap.size bl ol ls) := (show ∀ W, _ from fun W hb h => ((hr h).below hb (Nat.le_refl _) (hAl h).2).mono hb.size)
  clear hA hz hAl hr
  go_enter Try.func10, Try.ntmps10
  go_wp2_with fail
  refine (awake_any _).mono ?_
  rintro e w1 ⟨rfl, b1⟩
  have HB1 := Lib.hid b1
  clear b1
  go_wp2_with fail
  refine (brief_any _ _ _ _).mono ?_
  rintro e w' ⟨rfl, rfl⟩
  cases hq : briefB l.length with
  | false =>
    go_wp2_with fail
    go_ret
    exact ⟨rfl, HB1.out⟩
  | true =>
    have hfew : l.length ≤ 14 := by unfold briefB at hq; have := of_decide_eq_true hq; omega
    clear hq
    go_wp2_with fail
    refine (narrow_any ls Al bl ol cl _ (HAl.out.mono HB1.out.size) (HR.out _ HB1.out) hml).mono ?_
    rintro e w' ⟨rfl, rfl⟩
    cases hq : narB ls with
    | false =>
      go_wp2_with fail
      go_ret
      exact ⟨rfl, HB1.out⟩
    | true =>
      obtain ⟨hn1, hn2⟩ := narB_t hq
      clear hq
      have HN1 := Lib.hid hn1
      clear hn1
      go_wp2_with fail
      refine (stocked_any l A b off c _ (HA.out.mono HB1.out.size) (HZ.out.mono' HA.out HB1.out) (by omega)).mono ?_
      rintro e w2 ⟨A', b', c', rfl, hA', hz', b2⟩
      have HB2 := Lib.hid (HB1.out.trans (b2.mono HB1.out.size))
      have HA' := Lib.hid hA'
      have HZ' := Lib.hid hz'
      clear hA' hz' b2 HB1
      go_wp2_with fail
      refine (copyLists_any ls Al bl ol cl _ (HAl.out.mono HB2.out.size) (HR.out _ HB2.out) (by omega) (fun i hi => Nat.le_trans (HN1.out i hi) (by omega))).mono ?_
      rintro e w3 ⟨v, rfl, ⟨A'', b'', c'', rfl, hA'', hr'', -⟩, b3⟩
      have HB3 := Lib.hid (HB2.out.trans (b3.mono HB2.out.size))
      have HA3 := Lib.hid (HA'.out.mono b3.size)
      have HZ3 := Lib.hid (HZ'.out.mono' HA'.out b3)
      have HA'' := Lib.hid hA''
      have HR'' := Lib.hid hr''
      clear hA'' hr'' b3 HB2 HA' HZ'
      go_wp2_with fail
      refine (checkFillLabels_any l len ls _ _ _ _ _ _ _ _ _ HA3.out HZ3.out (by omega) HA''.out HR''.out (by omega)).mono ?_
      rintro e w4 ⟨rfl, b4⟩
      have HB4 := Lib.hid (HB3.out.trans (b4.mono HB3.out.size))
      clear b4 HB3 HA3 HZ3 HA'' HR''
      have HF : Hid (ckC l len ls = if checkSt l len ≠ 0 then (0, checkSt l len) else ckl l len.toNat ls) := rfl
      generalize ckC l len ls = q at *
      go_wp2_with fail
      refine (refStock_any l len A b off c _ (HA.out.mono HB4.out.size) (HZ.out.mono' HA.out HB4.out) (by omega)).mono ?_
      rintro e w5 ⟨rfl, b5⟩
      have HB5 := Lib.hid (HB4.out.trans (b5.mono HB4.out.size))
      clear b5 HB4
      by_cases hs : checkSt l len = 0
      · have hq : q = ckl l len.toNat ls := by have := HF.out; rw [if_neg (by rw [hs]; decide)] at this; exact this
        have hok := st_ok hs
        subst hq
        rw [hs]
        clear HF hs
        have HOK := Lib.hid hok
        clear hok
        go_wp2_with fail
        refine (refLabels_any l len len.toNat ls A Al b off c bl ol cl _ HOK.out (HA.out.mono HB5.out.size) (HZ.out.mono' HA.out HB5.out) (HAl.out.mono HB5.out.size) (HR.out _ HB5.out) (by omega) (fun i hi => Nat.le_trans (HN1.out i hi) (by omega))).mono ?_
        rintro e w6 ⟨rfl, b6⟩
        have HB6 := Lib.hid (HB5.out.trans (b6.mono HB5.out.size))
        clear b6 HB5 HOK
        generalize ckl l len.toNat ls = q at *
        go_wp2_with fail
        go_ret
        exact ⟨ret_bool (by simp), HB6.out⟩
      · have hs2 : (checkSt l len == 0) = false := by simpa using hs
        have hq : q = (0, checkSt l len) := by have := HF.out; rw [if_pos hs] at this; exact this
        subst hq
        clear HF hs
        generalize checkSt l len = s at *
        go_wp2_with fail
        go_ret
        exact ⟨ret_bool (by simp), HB5.out⟩
end Go.Proofs.Ytlfeoofchebbkaa
