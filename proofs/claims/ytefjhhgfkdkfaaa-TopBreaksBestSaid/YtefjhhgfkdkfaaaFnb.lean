/- isName, IsName: which texts are names. -/
import Derived.Test.YtefjhhgfkdkfaaaFna
namespace Go.Proofs.Ytefjhhgfkdkfaaa
set_option linter.unusedSimpArgs false
set_option linter.unusedVariables false
open Go.RowKit
theorem conv_bytes (s : ByteArray) (w : World) : ∃ (W : World) (c : Nat), (convert 9 201 (.string s)).run Try.prog w = .ok (.slice (some ⟨w.heap.size, 0, none⟩) s.size c) W ∧ Below w.heap.size w W ∧ w.heap.size < W.heap.size ∧
    ∀ j, j < s.size → W.cell? ⟨w.heap.size, j, none⟩ = some (.int .u8 (nmb s j)) := by
  refine ⟨_, _, Lib.run_convert_string_bytes w 9 201 5 s Try.underlying9 Try.underlying201 Try.underlying5, ⟨?_, ?_, ?_, ?_, ?_⟩, ?_, ?_⟩
  · unfold Lib.bytesWorld World.freeze; split <;> rfl
  · unfold Lib.bytesWorld World.freeze; split <;> rfl
  · unfold Lib.bytesWorld World.freeze; split <;> rfl
  · rw [Lib.bytesWorld_size]; omega
  · exact fun k hk => Lib.bytesWorld_at_old w 5 s k hk
  · rw [Lib.bytesWorld_size]; omega
  · intro j hj; rw [Lib.bytesWorld_cell w 5 s j hj]; rfl
set_option maxHeartbeats 1000000 in
theorem isName_any (s : ByteArray) (w : World) (hs : s.size ≤ 9223372036854775807) : Calls Try.prog 140 #[.string s] w fun e w' => e = .returned (.bool (isNm s)) ∧ Below w.heap.size w w' := by
  obtain ⟨W, c, hconv, hb, hz, hcell⟩ := conv_bytes s w
  go_enter Try.func140, Try.ntmps140
  go_wp2_with fail
  have HC := Lib.hid hcell
  clear hcell hconv hz
  go_loopg [9] s.size (fun gg s9 wr => ∃ k : Nat, k ≤ s.size ∧ s.size - k ≤ gg ∧ s9 = .int .i64 k ∧ W = wr ∧ Aside (∀ j, j < k → ¬ badc j (nmb s j)))
  case atStart => exact ⟨0, Nat.zero_le _, by omega, rfl, rfl, fun j hj => absurd hj (Nat.not_lt_zero _)⟩
  case round =>
    obtain ⟨k, hk, hg, rfl, rfl, A⟩ := hrel
    by_cases hlt : k < s.size
    · have hltz : (k : Int) < (s.size : Int) := by omega
      have c1 := HC.out k hlt
      have hr := nmb_range s k
      clear HC
      generalize hch : nmb s k = ch at *
      have HCH := Lib.hid hch
      clear hch
      go_wp2
      all_goals try simp only [Bool.or_eq_true, Bool.and_eq_true, Bool.or_eq_false_iff, Bool.and_eq_false_iff, beq_iff_eq, beq_eq_false_iff_ne, bne_iff_ne, bne_eq_false_iff_eq, decide_eq_true_eq, decide_eq_false_iff_not, ne_eq, Bool.not_eq_true', Bool.not_eq_false'] at *
      all_goals first
        | (go_ret; exact ⟨ret_bool (isNm_false hlt (by rw [HCH.out]; unfold badc; omega)), hb⟩)
        | (go_roundg (s.size - (k + 1))
           case measure => omega
           case rel =>
             refine ⟨k + 1, by omega, by omega, by first | go_num | (congr 1; omega), rfl, (show Aside _ from fun j hj => ?_)⟩
             by_cases e : j = k
             · rw [e, HCH.out]; unfold badc; omega
             · exact A.out j (by omega))
    · have hltz : ¬ (k : Int) < (s.size : Int) := by omega
      have he : k = s.size := by omega
      have hall : Aside (isNm s = decide (0 < s.size ∧ s.size ≤ 12)) := isNm_all fun j hj => A.out j (by omega)
      clear A HC hlt hltz hk hg
      subst he
      by_cases h0 : s.size = 0
      · have h1 : s.toList = [] := bytes_nil.2 h0
        have H0 := Lib.hid h0
        clear h0
        go_wp2
        go_ret
        exact ⟨ret_bool (by rw [hall]; symm; rw [decide_eq_false_iff_not, H0.out]; omega), hb⟩
      · have h1 : s.toList.isEmpty = false := by rw [Bool.eq_false_iff]; intro hh; exact h0 (bytes_nil.1 (List.isEmpty_iff.1 hh))
        have h2 : ¬ s.toList = [] := fun hh => h0 (bytes_nil.1 hh)
        go_wp2
        all_goals go_ret
        all_goals exact ⟨ret_bool (by rw [hall]; first | exact decide_eq_decide.2 (by omega) | (simp only [h1, Bool.not_false, Bool.true_and]; exact decide_eq_decide.2 (by omega))), hb⟩
theorem nmB_hit {s : ByteArray} {k : Nat} (h : k < s.size) (c : Int) (hc : nmb s k = c) (hb : badc k c) : false = isNm s := isNm_false h (by rw [hc]; exact hb)
set_option maxHeartbeats 2000000 in
theorem isNameB_any (s : ByteArray) (w : World) (hs : s.size ≤ 9223372036854775807) : Calls Try.prog 121 #[.string s] w fun e w' => e = .returned (.bool (isNm s)) ∧ w = w' := by
  by_cases h1 : 1 ≤ s.size
  · by_cases h12 : s.size ≤ 12
    · have h1z : ¬ (s.size : Int) < 1 := by omega
      have h12z : ¬ (12 : Int) < (s.size : Int) := by omega
      have HALL : Hid ((∀ j, j < s.size → ¬ badc j (nmb s j)) → isNm s = true) := fun h => by rw [isNm_all h]; exact decide_eq_true ⟨by omega, h12⟩
      go_enter Try.func121, Try.ntmps121
      go_wp2_with fail
      go_loopg [3, 4, 5] s.size (fun gg s3 s4 s5 wr => ∃ k : Nat, k ≤ s.size ∧ s.size - k ≤ gg ∧ s3 = .int .i64 k ∧ w = wr ∧ Hid (∀ j, j < k → ¬ badc j (nmb s j)))
      case atStart => exact ⟨0, Nat.zero_le _, by omega, rfl, rfl, fun j hj => absurd hj (Nat.not_lt_zero _)⟩
      case round =>
        obtain ⟨k, hk, hg, rfl, rfl, E⟩ := hrel
        by_cases hlt : k < s.size
        · have hltz : (k : Int) < (s.size : Int) := by omega
          have HB : Hid (∀ j, ¬ badc k (nmb s k) → j < k + 1 → ¬ badc j (nmb s j)) := (show ∀ j, _ from fun j h0 hj => by
            by_cases e : j = k
            · rw [e]; exact h0
            · exact E.out j (by omega))
          have HF : Hid (badc k (nmb s k) → isNm s = false) := fun h => (isNm_false hlt h).symm
          have HN := Lib.hid (nmb_get hlt)
          by_cases hk0 : k = 0
          · have hkz : ((k : Int) == 0) = true := by simp [hk0]
            have HK := Lib.hid hk0
            clear hk0
            go_wp2_with fail
            all_goals try simp only [Bool.or_eq_true, Bool.and_eq_true, Bool.or_eq_false_iff, Bool.and_eq_false_iff, beq_iff_eq, beq_eq_false_iff_ne, bne_iff_ne, bne_eq_false_iff_eq, decide_eq_true_eq, decide_eq_false_iff_not, ne_eq, Bool.not_eq_true', Bool.not_eq_false'] at *
            all_goals first
              | (go_ret; exact ⟨ret_bool (HF.out (by rw [HN.out]; unfold badc; have := HK.out; omega)).symm, rfl⟩)
              | (go_roundg (s.size - (k + 1))
                 case measure => omega
                 case rel => exact ⟨k + 1, by omega, by omega, by first | go_num | (congr 1; omega), rfl, (show ∀ j, _ from fun j hj => HB.out j (by rw [HN.out]; unfold badc; have := HK.out; omega) hj)⟩)
          · have hkz : ((k : Int) == 0) = false := by simp [hk0]
            have HK := Lib.hid hk0
            clear hk0
            go_wp2_with fail
            all_goals try simp only [Bool.or_eq_true, Bool.and_eq_true, Bool.or_eq_false_iff, Bool.and_eq_false_iff, beq_iff_eq, beq_eq_false_iff_ne, bne_iff_ne, bne_eq_false_iff_eq, decide_eq_true_eq, decide_eq_false_iff_not, ne_eq, Bool.not_eq_true', Bool.not_eq_false'] at *
            all_goals first
              | (go_ret; exact ⟨ret_bool (HF.out (by rw [HN.out]; unfold badc; have := HK.out; omega)).symm, rfl⟩)
              | (go_roundg (s.size - (k + 1))
                 case measure => omega
                 case rel => exact ⟨k + 1, by omega, by omega, by first | go_num | (congr 1; omega), rfl, (show ∀ j, _ from fun j hj => HB.out j (by rw [HN.out]; unfold badc; have := HK.out; omega) hj)⟩)
        · have hltz : ¬ (k : Int) < (s.size : Int) := by omega
          have he : k = s.size := by omega
          subst he
          go_wp2_with fail
          go_ret
          exact ⟨ret_bool (HALL.out E.out).symm, rfl⟩
    · have h1z : ¬ (s.size : Int) < 1 := by omega
      have h12z : (12 : Int) < (s.size : Int) := by omega
      have HF : Hid (isNm s = false) := decide_eq_false fun h => h12 h.2.2
      go_enter Try.func121, Try.ntmps121
      go_wp2_with fail
      go_ret
      exact ⟨ret_bool HF.out.symm, rfl⟩
  · have h1z : (s.size : Int) < 1 := by omega
    have HF : Hid (isNm s = false) := decide_eq_false fun h => h1 (by omega)
    go_enter Try.func121, Try.ntmps121
    go_wp2_with fail
    go_ret
    exact ⟨ret_bool HF.out.symm, rfl⟩
end Go.Proofs.Ytefjhhgfkdkfaaa
