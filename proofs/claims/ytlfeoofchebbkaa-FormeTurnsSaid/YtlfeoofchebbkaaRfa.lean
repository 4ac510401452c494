/- ref.CheckForme computes what CheckForme computes. -/
import Derived.Test.YtlfeoofchebbkaaRgt

namespace Go.Proofs.Ytlfeoofchebbkaa
set_option linter.unusedSimpArgs false
set_option linter.unusedVariables false
open Go.RowKit
theorem withinB_any (n lo hi : Int) (w : World) : Calls Try.prog 49 #[.int .i64 n, .int .i64 lo, .int .i64 hi] w fun e w' => e = .returned (.bool (win n lo hi)) ∧ w = w' := by
  go_enter Try.func49, Try.ntmps49
  go_wp2
  all_goals go_ret
  all_goals exact ⟨ret_bool (by unfold win; first | exact decide_eq_decide.2 (by omega) | exact (decide_eq_false (by omega)).symm), rfl⟩
theorem isKind_any (n : Int) (w : World) : Calls Try.prog 106 #[.int .i64 n] w fun e w' => e = .returned (.bool (win n 1 4)) ∧ w = w' := by
  go_enter Try.func106, Try.ntmps106
  go_wp2_with (go_at_call 49; refine (withinB_any _ _ _ _).mono ?_; rintro e w' ⟨rfl, rfl⟩)
  go_ret
  exact ⟨rfl, rfl⟩
theorem overlap_any (p q : Piece) (w : World) : Calls Try.prog 107 #[.agg (pcs p), .agg (pcs q)] w fun e w' => e = .returned (.bool (meetB p q)) ∧ Below w.heap.size w w' := by
  go_enter Try.func107, Try.ntmps107
  go_wp2
  all_goals go_ret
  all_goals exact ⟨ret_bool (by unfold meetB; first | exact decide_eq_decide.2 (by omega) | exact (decide_eq_false (by omega)).symm), ((Below.refl _ _).alloc (Nat.le_refl _) _).alloc (by simp) _⟩
theorem meetB_comm (p q : Piece) : meetB p q = meetB q p := by
  unfold meetB; exact decide_eq_decide.2 ⟨fun ⟨a, b, c, d⟩ => ⟨b, a, d, c⟩, fun ⟨a, b, c, d⟩ => ⟨b, a, d, c⟩⟩
set_option maxHeartbeats 1000000 in
theorem find_any (ps : List Piece) (s : ByteArray) (A : Option Addr) (b off c : Nat) (w : World) (hA : Lies A ps.length w.heap.size b off) (hps : PsAt w b off ps) (hm : ps.length ≤ 9223372036854775807) :
    Calls Try.prog 78 #[.slice A ps.length c, .string s] w fun e w' => e = .returned (.int .i64 (idx (fun j => nmEq (gp ps j).name s) ps.length)) ∧ w = w' := by
  generalize hn : ps.length = n at *
  have HN := Lib.hid hn
  clear hn
  go_enter Try.func78, Try.ntmps78
  go_wp2_with fail
  go_loopg [5] n (fun gg s5 wr => ∃ k : Nat, k ≤ n ∧ n - k ≤ gg ∧ s5 = .int .i64 k ∧ w = wr ∧ Hid (∀ j, j < k → nmEq (gp ps j).name s = false))
  case atStart => exact ⟨0, by omega, by omega, rfl, rfl, fun j hj => absurd hj (Nat.not_lt_zero _)⟩
  case round =>
    obtain ⟨k, hk, hg, rfl, rfl, E⟩ := hrel
    by_cases hlt : k < n
    · have hltz : (k : Int) < (n : Int) := by omega
      obtain ⟨rfl, hbb⟩ := hA (by omega)
      obtain ⟨c0, -, -, -, -, -⟩ := hps k (by rw [HN.out]; omega)
      have HG : Hid (∀ j, j = k → nmEq (gp ps j).name s = nmEq (gp ps k).name s) := (show ∀ j, _ from fun j e => by rw [e])
      have HG2 : Hid (nmEq (gp ps k).name s = ((gp ps k).name.toList == s.toList)) := rfl
      clear hps hA
      generalize hq : ((gp ps k).name.toList == s.toList) = q at *
      generalize hy : nmEq (gp ps k).name s = v at *
      generalize (gp ps k).name = nm at *
      have HV := Lib.hid hy
      clear hy
      cases q with
      | true =>
        go_wp2_with fail
        go_ret
        exact ⟨ret_int (by rw [idx_hit (k := k) ((HG.out k rfl).trans HG2.out) E.out hlt]), rfl⟩
      | false =>
        go_wp2_with fail
        go_roundg (n - (k + 1))
        case measure => omega
        case rel =>
          refine ⟨k + 1, by omega, by omega, by go_num, rfl, (show ∀ j, _ from fun j hj => ?_)⟩
          by_cases e : j = k
          · exact (HG.out j e).trans HG2.out
          · exact E.out j (by omega)
    · have hltz : ¬ (k : Int) < (n : Int) := by omega
      have he : k = n := by omega
      subst he
      go_wp2_with fail
      go_ret
      exact ⟨ret_int (by rw [idx_none E.out]), rfl⟩
theorem nmb_get {s : ByteArray} {k : Nat} (h : k < s.size) : nmb s k = ((s[k]'h).toNat : Int) := by
  unfold nmb
  have h2 : k < s.data.toList.length := h
  rw [List.getD_eq_getElem?_getD, List.getElem?_eq_getElem h2]
  rfl
theorem nmB_hit {s : ByteArray} {k : Nat} (h : k < s.size) (c : Int) (hc : nmb s k = c) (hb : badc k c) : false = isNm s := isNm_false h (by rw [hc]; exact hb)
set_option maxHeartbeats 2000000 in
theorem isNameB_any (s : ByteArray) (w : World) (hs : s.size ≤ 9223372036854775807) : Calls Try.prog 105 #[.string s] w fun e w' => e = .returned (.bool (isNm s)) ∧ w = w' := by
  by_cases h1 : 1 ≤ s.size
  · by_cases h12 : s.size ≤ 12
    · have h1z : ¬ (s.size : Int) < 1 := by omega
      have h12z : ¬ (12 : Int) < (s.size : Int) := by omega
      have HALL : Hid ((∀ j, j < s.size → ¬ badc j (nmb s j)) → isNm s = true) := fun h => by rw [isNm_all h]; exact decide_eq_true ⟨by omega, h12⟩
      go_enter Try.func105, Try.ntmps105
      go_wp2_with fail
      go_loopg [3, 4, 5] s.size (fun gg s3 s4 s5 wr => ∃ k : Nat, k ≤ s.size ∧ s.size - k ≤ gg ∧ s3 = .int .i64 k ∧ w = wr ∧ Hid (∀ j, j < k → ¬ badc j (nmb s j)))
      case atStart => exact ⟨0, Nat.zero_le _, by omega, rfl, rfl, fun j hj => absurd hj (Nat.not_lt_zero _)⟩
      case round =>
        obtain ⟨k, hk, hg, rfl, rfl, E⟩ := hrel
        by_cases hlt : k < s.size
        · have hltz : (k : Int) < (s.size : Int) := by omega
          have HB : Hid (∀ j, ¬ badc k (nmb s k) → j < k + 1 → ¬ badc j (nmb s j)) := (show ∀ j, _ from fun j h0 hj => by
            by_cases e : j = k
            · rw [e]; exact h0
            · exact E.out j (by omega))
          have HF : Hid (badc k (nmb s k) → isNm s = false) := fun h => (isNm_false hlt h).symm
          have HN := Lib.hid (nmb_get hlt)
          by_cases hk0 : k = 0
          · have hkz : ((k : Int) == 0) = true := by simp [hk0]
            have HK := Lib.hid hk0
            clear hk0
            go_wp2_with fail
            all_goals try simp only [Bool.or_eq_true, Bool.and_eq_true, Bool.or_eq_false_iff, Bool.and_eq_false_iff, beq_iff_eq, beq_eq_false_iff_ne, bne_iff_ne, bne_eq_false_iff_eq, decide_eq_true_eq, decide_eq_false_iff_not, ne_eq, Bool.not_eq_true', Bool.not_eq_false'] at *
            all_goals first
              | (go_ret; exact ⟨ret_bool (HF.out (by rw [HN.out]; unfold badc; have := HK.out; omega)).symm, rfl⟩)
              | (go_roundg (s.size - (k + 1))
                 case measure => omega
                 case rel => exact ⟨k + 1, by omega, by omega, by first | go_num | (congr 1; omega), rfl, (show ∀ j, _ from fun j hj => HB.out j (by rw [HN.out]; unfold badc; have := HK.out; omega) hj)⟩)
          · have hkz : ((k : Int) == 0) = false := by simp [hk0]
            have HK := Lib.hid hk0
            clear hk0
            go_wp2_with fail
            all_goals try simp only [Bool.or_eq_true, Bool.and_eq_true, Bool.or_eq_false_iff, Bool.and_eq_false_iff, beq_iff_eq, beq_eq_false_iff_ne, bne_iff_ne, bne_eq_false_iff_eq, decide_eq_true_eq, decide_eq_false_iff_not, ne_eq, Bool.not_eq_true', Bool.not_eq_false'] at *
            all_goals first
              | (go_ret; exact ⟨ret_bool (HF.out (by rw [HN.out]; unfold badc; have := HK.out; omega)).symm, rfl⟩)
              | (go_roundg (s.size - (k + 1))
                 case measure => omega
                 case rel => exact ⟨k + 1, by omega, by omega, by first | go_num | (congr 1; omega), rfl, (show ∀ j, _ from fun j hj => HB.out j (by rw [HN.out]; unfold badc; have := HK.out; omega) hj)⟩)
        · have hltz : ¬ (k : Int) < (s.size : Int) := by omega
          have he : k = s.size := by omega
          subst he
          go_wp2_with fail
          go_ret
          exact ⟨ret_bool (HALL.out E.out).symm, rfl⟩
    · have h1z : ¬ (s.size : Int) < 1 := by omega
      have h12z : (12 : Int) < (s.size : Int) := by omega
      have HF : Hid (isNm s = false) := decide_eq_false fun h => h12 h.2.2
      go_enter Try.func105, Try.ntmps105
      go_wp2_with fail
      go_ret
      exact ⟨ret_bool HF.out.symm, rfl⟩
  · have h1z : (s.size : Int) < 1 := by omega
    have HF : Hid (isNm s = false) := decide_eq_false fun h => h1 (by omega)
    go_enter Try.func105, Try.ntmps105
    go_wp2_with fail
    go_ret
    exact ⟨ret_bool HF.out.symm, rfl⟩
theorem idx_le {pr : Nat → Bool} : ∀ {n : Nat}, 0 ≤ idx pr n → idx pr n < n := by
  intro n
  induction n with
  | zero => intro h; simp [idx] at h
  | succ n ih =>
    intro h
    simp only [idx] at h ⊢
    by_cases h1 : idx pr n = -1
    · rw [if_pos h1] at h ⊢
      by_cases h2 : pr n = true
      · rw [if_pos h2]; omega
      · rw [if_neg h2] at h; omega
    · rw [if_neg h1] at h ⊢
      have := ih h
      omega
theorem idx_same {pr : Nat → Bool} {m : Nat} (h : 0 ≤ idx pr m) : ∀ {n : Nat}, m ≤ n → idx pr n = idx pr m := by
  intro n
  induction n with
  | zero => intro hn; have : m = 0 := by omega
            subst this; rfl
  | succ n ih =>
    intro hn
    by_cases e : m = n + 1
    · rw [e]
    · have := ih (by omega)
      simp only [idx]
      rw [this, if_neg (by omega)]
theorem nmEq_self (s : ByteArray) : nmEq s s = true := by unfold nmEq; exact beq_self_eq_true _
/-- The first piece of this name is an earlier one, or the piece itself. -/
theorem find_first (ps : List Piece) (k : Nat) (hk : k < ps.length) : (0 ≤ idx (fun j => nmEq (gp ps j).name (gp ps k).name) k ∧ idx (fun j => nmEq (gp ps j).name (gp ps k).name) ps.length < (k : Int)) ∨
    (idx (fun j => nmEq (gp ps j).name (gp ps k).name) k < 0 ∧ idx (fun j => nmEq (gp ps j).name (gp ps k).name) ps.length = (k : Int)) := by
  by_cases h : 0 ≤ idx (fun j => nmEq (gp ps j).name (gp ps k).name) k
  · left
    exact ⟨h, by rw [idx_same h (by omega)]; exact idx_le h⟩
  · right
    exact ⟨by omega, idx_hit (k := k) (nmEq_self _) (idx_neg h) hk⟩
end Go.Proofs.Ytlfeoofchebbkaa
