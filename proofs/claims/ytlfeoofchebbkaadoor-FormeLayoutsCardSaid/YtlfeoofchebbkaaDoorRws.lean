/- ref.within, ref.sum. -/
import Derived.Test.YtlfeoofchebbkaaDoorLyt
namespace Go.Proofs.YtlfeoofchebbkaaDoor
set_option linter.unusedSimpArgs false
set_option linter.unusedVariables false
open Go.RowKit
theorem refWithin_any (zs : List Int) (lo hi : Int) (A : Option Addr) (b off c : Nat) (w : World) (hA : Lies A zs.length w.heap.size b off) (hz : ZsAt w b off zs) (hm : zs.length ≤ 1000000) :
    Calls Tryd.prog 22 #[.slice A zs.length c, .int .i64 lo, .int .i64 hi] w fun e w' => e = .returned (.bool (zs.all fun x => win x lo hi)) ∧ w = w' := by
  have HT : Hid ((∀ j, j < zs.length → win (gz zs j) lo hi = true) → (zs.all fun x => win x lo hi) = true) := (show _ → _ from fun h => List.all_eq_true.2 fun x hx => by
    obtain ⟨i, hi, rfl⟩ := List.getElem_of_mem hx
    have := h i hi
    rwa [show gz zs i = zs[i] by unfold gz; simp [List.getD_eq_getElem?_getD, hi]] at this)
  have HF : Hid (∀ j, j < zs.length → win (gz zs j) lo hi = false → (zs.all fun x => win x lo hi) = false) := (show ∀ j, _ from fun j hj h => by
    rw [List.all_eq_false]
    refine ⟨gz zs j, by unfold gz; simp [List.getD_eq_getElem?_getD, hj], by rw [h]; simp⟩)
  generalize (zs.all fun x => win x lo hi) = res at *
  generalize hn : zs.length = n at *
  have HN := Lib.hid hn
  clear hn
  go_enter Tryd.func22, Tryd.ntmps22
  go_wp2_with fail
  go_loopg [7] n (fun gg s7 wr => ∃ k : Nat, k ≤ n ∧ n - k ≤ gg ∧ s7 = .int .i64 k ∧ Hid (∀ j, j < k → win (gz zs j) lo hi = true) ∧ w = wr)
  case atStart => exact ⟨0, by omega, by omega, rfl, (show ∀ j, j < 0 → _ from fun j h => by omega), rfl⟩
  case round =>
    obtain ⟨k, hk, hgk, rfl, HL, rfl⟩ := hrel
    by_cases hlt : k < n
    · have hltz : (k : Int) < (n : Int) := by omega
      have hk0 : (0 : Int) ≤ (k : Int) := by omega
      obtain ⟨rfl, hb⟩ := hA (by omega)
      have x1 := hz k (by rw [HN.out]; exact hlt)
      have HFk := Lib.hid (HF.out k hlt)
      have HGS : Hid (win (gz zs k) lo hi = true → ∀ j, j < k + 1 → win (gz zs j) lo hi = true) := (show _ → _ from fun h j hj => by
        by_cases e : j = k
        · subst e; exact h
        · exact HL.out j (by omega))
      clear hz
      generalize gz zs k = u at *
      go_wp2_with fail
      refine (within49_any u lo hi w).mono ?_
      rintro e w1 ⟨rfl, rfl⟩
      cases hq : win u lo hi with
      | true =>
        have HQ := Lib.hid (HGS.out hq)
        clear hq
        go_wp2_with fail
        go_roundg (n - (k + 1))
        case measure => omega
        case rel => exact ⟨k + 1, by omega, by omega, by go_num, HQ.out, rfl⟩
      | false =>
        have HQ := Lib.hid (HFk.out hq)
        clear hq
        go_wp2_with fail
        go_ret
        exact ⟨congrArg (fun z => Ending.returned (.bool z)) HQ.out.symm, rfl⟩
    · have hltz : ¬ (k : Int) < (n : Int) := by omega
      have HQ := Lib.hid (HT.out fun j hj => HL.out j (by omega))
      go_wp2_with fail
      go_ret
      exact ⟨congrArg (fun z => Ending.returned (.bool z)) HQ.out.symm, rfl⟩
theorem refSum_any (zs : List Int) (A : Option Addr) (b off c : Nat) (w : World) (hA : Lies A zs.length w.heap.size b off) (hz : ZsAt w b off zs) (hm : zs.length ≤ 1000000)
    (hb : ∀ k, k ≤ zs.length → -4000000000000000000 ≤ sumTo k (gz zs) ∧ sumTo k (gz zs) ≤ 4000000000000000000) :
    Calls Tryd.prog 23 #[.slice A zs.length c] w fun e w' => e = .returned (.int .i64 (sumTo zs.length (gz zs))) ∧ w = w' := by
  have HS : Hid (∀ k, sumTo (k + 1) (gz zs) = sumTo k (gz zs) + gz zs k) := (show ∀ k, _ from fun k => rfl)
  have HBS := Lib.hid hb
  clear hb
  generalize hn : zs.length = n at *
  have HN := Lib.hid hn
  clear hn
  go_enter Tryd.func23, Tryd.ntmps23
  go_wp2_with fail
  go_loopg [3, 4] n (fun gg s3 s4 wr => ∃ k : Nat, k ≤ n ∧ n - k ≤ gg ∧ s4 = .int .i64 k ∧ s3 = .int .i64 (sumTo k (gz zs)) ∧ w = wr)
  case atStart => exact ⟨0, by omega, by omega, rfl, rfl, rfl⟩
  case round =>
    obtain ⟨k, hk, hgk, rfl, rfl, rfl⟩ := hrel
    by_cases hlt : k < n
    · have hltz : (k : Int) < (n : Int) := by omega
      have hk0 : (0 : Int) ≤ (k : Int) := by omega
      obtain ⟨rfl, hb⟩ := hA (by omega)
      have x1 := hz k (by rw [HN.out]; exact hlt)
      have h1 := HBS.out (k + 1) (by omega)
      have HSk := Lib.hid (HS.out k)
      rw [HSk.out] at h1
      have e1 : IntKind.i64.wrap (sumTo k (gz zs) + gz zs k) = sumTo k (gz zs) + gz zs k := IntWalk.i64_in _ (by omega)
      clear hz h1
      go_wp2_with fail
      go_roundg (n - (k + 1))
      case measure => omega
      case rel => exact ⟨k + 1, by omega, by omega, by go_num, by rw [HSk.out], rfl⟩
    · have hltz : ¬ (k : Int) < (n : Int) := by omega
      have he : k = n := by omega
      subst he
      go_wp2_with fail
      go_ret
      exact ⟨rfl, rfl⟩
end Go.Proofs.YtlfeoofchebbkaaDoor
