/- checkPlaces: the error of the places of breaks. -/
import Derived.Test.YtefjhhgfkdkfaaaLne
namespace Go.Proofs.Ytefjhhgfkdkfaaa
set_option linter.unusedSimpArgs false
set_option linter.unusedVariables false
open Go.RowKit
/-- The place ahead of break j. -/
def befB (bs : List Int) : Nat → Int
  | 0 => 0
  | j + 1 => gz bs j
def ckE (last : Int) (bs : List Int) (j : Nat) : Int := if win (gz bs j) 0 last = false then 6 else if gz bs j ≤ befB bs j then 9 else 0
def cpErr (last : Int) (bs : List Int) : Int := if (fstE (ckE last bs) bs.length).2 ≠ 0 then (fstE (ckE last bs) bs.length).2 else if befB bs bs.length ≠ last then 10 else 0
theorem cpErr_hit {last : Int} {bs : List Int} {j : Nat} (hj : j < bs.length) (h0 : ∀ i, i < j → ckE last bs i = 0) {x : Int} (hx : ckE last bs j = x) (hn : x ≠ 0) : cpErr last bs = x := by
  subst hx
  unfold cpErr
  rw [fstE_hit hn h0 hj]
  exact if_pos hn
theorem cpErr_end {last : Int} {bs : List Int} (h0 : ∀ i, i < bs.length → ckE last bs i = 0) : cpErr last bs = if befB bs bs.length ≠ last then 10 else 0 := by
  unfold cpErr
  rw [fstE_none h0]
  exact if_neg (fun h => h rfl)
set_option maxRecDepth 100000 in
set_option maxHeartbeats 4000000 in
theorem checkPlaces_any (last : Nat) (bs : List Int) (v : Value) (w : World) (hv : IV w bs v) (hl : last ≤ 1000000) :
    Calls Try.prog 85 #[.int .i64 last, v] w fun e w' => e = .returned (.int .i64 (cpErr last bs)) ∧ w' = w := by
  obtain ⟨A, b0, o0, c, rfl, hA, hz, hc1, hc2⟩ := hv.open
  have HV := Lib.hid hv
  have HW := Lib.hid (fun n W => within44_any n 0 (last : Int) W)
  have HHIT : Hid (∀ j x, j < bs.length → (∀ i, i < j → ckE last bs i = 0) → ckE last bs j = x → x ≠ 0 → x = cpErr last bs) := (show ∀ j x, _ from fun j x h1 h2 h3 h4 => (cpErr_hit h1 h2 h3 h4).symm)
  have HEND : Hid ((∀ i, i < bs.length → ckE last bs i = 0) → cpErr last bs = if befB bs bs.length ≠ last then 10 else 0) := cpErr_end
  have HE : Hid (∀ j, ckE last bs j = if win (gz bs j) 0 last = false then 6 else if gz bs j ≤ befB bs j then 9 else 0) := (show ∀ j, _ from fun j => rfl)
  have HBS : Hid (∀ j, befB bs (j + 1) = gz bs j) := (show ∀ j, _ from fun j => rfl)
  have HB0 : Hid (befB bs 0 = 0) := rfl
  clear hv hz hA
  generalize hn : bs.length = n at *
  have HN := Lib.hid hn
  clear hn
  go_enter Try.func85, Try.ntmps85
  go_wp2_with fail
  go_loopg [10, 5, 7] n (fun gg s10 s5 _ wr => ∃ k : Nat, k ≤ n ∧ n - k ≤ gg ∧ s10 = .int .i64 k ∧ s5 = .int .i64 (befB bs k) ∧ Hid (∀ i, i < k → ckE last bs i = 0) ∧ w = wr)
  case atStart => exact ⟨0, by omega, by omega, rfl, by rw [HB0.out], (show ∀ i, _ from fun i hi => absurd hi (Nat.not_lt_zero _)), rfl⟩
  case round =>
    obtain ⟨k, hk, hg, rfl, rfl, H0, rfl⟩ := hrel
    by_cases hlt : k < n
    · have hltz : (k : Int) < (n : Int) := by omega
      have hV := HV.out
      rw [← HN.out] at hV
      obtain ⟨b, off, rfl, hb, zz⟩ := hV.at (k := k) (by rw [HN.out]; exact hlt)
      have HEK := Lib.hid (HE.out k)
      have HH := Lib.hid (fun x => HHIT.out k x hlt H0.out)
      have HB1 := Lib.hid (HBS.out k)
      have HWK := Lib.hid (fun W => HW.out (gz bs k) W)
      clear hV
      generalize gz bs k = z at *
      generalize befB bs k = bf at *
      cases hw : win z 0 (last : Int) with
      | false =>
        have HF := Lib.hid (HH.out 6 (by rw [HEK.out, if_pos hw]) (by decide))
        rw [hw] at HWK
        clear hw
        go_wp2_with ((go_at_call 44; (with_reducible refine (HWK.out _).mono ?_); rintro e w' ⟨rfl, rfl⟩))
        go_ret
        exact ⟨ret_int HF.out, rfl⟩
      | true =>
        have HEK2 : Hid (ckE last bs k = if z ≤ bf then 9 else 0) := by show _ = _; rw [HEK.out, if_neg (by rw [hw]; decide)]
        rw [hw] at HWK
        clear hw HEK
        by_cases hle : z ≤ bf
        · have HF := Lib.hid (HH.out 9 (by rw [HEK2.out, if_pos hle]) (by decide))
          go_wp2_with ((go_at_call 44; (with_reducible refine (HWK.out _).mono ?_); rintro e w' ⟨rfl, rfl⟩))
          go_ret
          exact ⟨ret_int HF.out, rfl⟩
        · have H1 : Hid (∀ i, i < k + 1 → ckE last bs i = 0) := (show ∀ i, _ from fun i hi => by
            by_cases e : i = k
            · subst e; rw [HEK2.out, if_neg hle]
            · exact H0.out i (by omega))
          go_wp2_with ((go_at_call 44; (with_reducible refine (HWK.out _).mono ?_); rintro e w' ⟨rfl, rfl⟩))
          go_roundg (n - (k + 1))
          case measure => omega
          case rel => exact ⟨k + 1, by omega, by omega, by go_num, by rw [HB1.out], H1.out, rfl⟩
    · have hltz : ¬ (k : Int) < (n : Int) := by omega
      have hke : k = n := by omega
      subst hke
      have HF := Lib.hid (HEND.out H0.out)
      clear hltz hlt
      generalize befB bs k = bf at *
      by_cases he : bf = (last : Int)
      · have HF2 : Hid (0 = cpErr last bs) := by show _ = _; rw [HF.out, if_neg (fun h => h he)]
        clear HF
        subst he
        go_wp2_with fail
        go_ret
        exact ⟨ret_int HF2.out, rfl⟩
      · have heb := bne_t he
        have HF2 : Hid (10 = cpErr last bs) := by show _ = _; rw [HF.out, if_pos he]
        clear HF
        go_wp2_with fail
        go_ret
        exact ⟨ret_int HF2.out, rfl⟩
end Go.Proofs.Ytefjhhgfkdkfaaa
