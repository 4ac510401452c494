/- Names; a list of texts that does not hold a text. -/
import Derived.Test.YtcocplaloajbdaaCho
namespace Go.Proofs.Ytcocplaloajbdaa
set_option linter.unusedSimpArgs false
set_option linter.unusedVariables false
open Go.RowKit
def nmb (s : ByteArray) (k : Nat) : Int := ((s.data.toList.getD k 0).toNat : Int)
theorem nmb_range (s : ByteArray) (k : Nat) : 0 ≤ nmb s k ∧ nmb s k ≤ 255 := by
  unfold nmb; have := (s.data.toList.getD k 0).toNat_lt; omega
def badc (k : Nat) (c : Int) : Prop := ¬ (97 ≤ c ∧ c ≤ 122) ∧ ¬ (65 ≤ c ∧ c ≤ 90) ∧ (k = 0 ∨ (c ≠ 45 ∧ (c < 48 ∨ 57 < c)))
instance (k : Nat) (c : Int) : Decidable (badc k c) := by unfold badc; exact inferInstance
theorem conv_bytes (s : ByteArray) (w : World) : ∃ (W : World) (c : Nat), (convert 9 55 (.string s)).run Try.prog w = .ok (.slice (some ⟨w.heap.size, 0, none⟩) s.size c) W ∧ Below w.heap.size w W ∧ w.heap.size < W.heap.size ∧
    ∀ j, j < s.size → W.cell? ⟨w.heap.size, j, none⟩ = some (.int .u8 (nmb s j)) := by
  refine ⟨_, _, Lib.run_convert_string_bytes w 9 55 5 s Try.underlying9 Try.underlying55 Try.underlying5, ⟨?_, ?_, ?_, ?_, ?_⟩, ?_, ?_⟩
  · unfold Lib.bytesWorld World.freeze; split <;> rfl
  · unfold Lib.bytesWorld World.freeze; split <;> rfl
  · unfold Lib.bytesWorld World.freeze; split <;> rfl
  · rw [Lib.bytesWorld_size]; omega
  · exact fun k hk => Lib.bytesWorld_at_old w 5 s k hk
  · rw [Lib.bytesWorld_size]; omega
  · intro j hj; rw [Lib.bytesWorld_cell w 5 s j hj]; rfl
theorem bytes_nil {s : ByteArray} : s.toList = [] ↔ s.size = 0 := by
  rw [ByteArray.toList_eq, List.eq_nil_iff_length_eq_zero]; exact Iff.rfl
set_option maxHeartbeats 1000000 in
/-- A right name. -/
theorem isName_yes (s : ByteArray) (w : World) (h0 : 0 < s.size) (h12 : s.size ≤ 12) (hall : ∀ k, k < s.size → ¬ badc k (nmb s k)) : Calls Try.prog 23 #[.string s] w fun e w' => e = .returned (.bool true) ∧ Below w.heap.size w w' := by
  obtain ⟨W, c, hconv, hb, hz, hcell⟩ := conv_bytes s w
  have h1 : s.toList.isEmpty = false := by rw [Bool.eq_false_iff]; intro hh; have := bytes_nil.1 (List.isEmpty_iff.1 hh); omega
  have h2 : ¬ s.toList = [] := fun hh => by have := bytes_nil.1 hh; omega
  have h3 : ¬ (12 : Int) < (s.size : Int) := by omega
  have HA := Lib.hid hall
  have HB := Lib.hid hb
  clear hall hb
  go_enter Try.func23, Try.ntmps23
  go_wp2_with fail
  have HC := Lib.hid hcell
  clear hcell hconv hz h1 h2
  go_loopg [15] s.size (fun gg s9 wr => ∃ k : Nat, k ≤ s.size ∧ s.size - k ≤ gg ∧ s9 = .int .i64 k ∧ W = wr)
  case atStart => exact ⟨0, Nat.zero_le _, by omega, rfl, rfl⟩
  case round =>
    obtain ⟨k, hk, hg, rfl, rfl⟩ := hrel
    by_cases hlt : k < s.size
    · have hltz : (k : Int) < (s.size : Int) := by omega
      have c1 := HC.out k hlt
      have hr := nmb_range s k
      have hbd := HA.out k hlt
      clear HC
      generalize hch : nmb s k = ch at *
      clear hch
      unfold badc at hbd
      go_wp2
      all_goals try simp only [Bool.or_eq_true, Bool.and_eq_true, Bool.or_eq_false_iff, Bool.and_eq_false_iff, beq_iff_eq, beq_eq_false_iff_ne, bne_iff_ne, bne_eq_false_iff_eq, decide_eq_true_eq, decide_eq_false_iff_not, ne_eq, Bool.not_eq_true', Bool.not_eq_false'] at *
      all_goals first
        | (exfalso; omega)
        | (go_roundg (s.size - (k + 1))
           case measure => omega
           case rel => exact ⟨k + 1, by omega, by omega, by first | go_num | (congr 1; omega), rfl⟩)
    · have hltz : ¬ (k : Int) < (s.size : Int) := by omega
      go_wp2
      go_ret
      exact ⟨rfl, HB.out⟩
set_option maxHeartbeats 1000000 in
theorem index_no (f : Nat → ByteArray) (s : ByteArray) (b off n c : Nat) (w : World) (hc : ∀ j, j < n → w.cell? ⟨b, off + j, none⟩ = some (.string (f j))) (hne : ∀ j, j < n → (s.toList == (f j).toList) = false) (hn : n ≤ 100) :
    Calls Try.prog 27 #[.slice (some ⟨b, off, none⟩) n c, .string s] w fun e w' => e = .returned (.int .i64 (-1)) ∧ w = w' := by
  have HC := Lib.hid hc
  have HN := Lib.hid hne
  clear hc hne
  go_enter Try.func27, Try.ntmps27
  go_wp2_with fail
  go_loopg [8] n (fun gg s8 wr => ∃ k : Nat, k ≤ n ∧ n - k ≤ gg ∧ s8 = .int .i64 k ∧ w = wr)
  case atStart => exact ⟨0, Nat.zero_le _, by omega, rfl, rfl⟩
  case round =>
    obtain ⟨k, hk, hg, rfl, rfl⟩ := hrel
    by_cases hlt : k < n
    · have hltz : (k : Int) < (n : Int) := by omega
      have c0 := HC.out k hlt
      have n0 := HN.out k hlt
      generalize f k = t at *
      go_wp2_with fail
      go_roundg (n - (k + 1))
      case measure => omega
      case rel => exact ⟨k + 1, by omega, by omega, by go_num, rfl⟩
    · have hltz : ¬ (k : Int) < (n : Int) := by omega
      go_wp2_with fail
      go_ret
      exact ⟨rfl, rfl⟩
theorem contains_no (f : Nat → ByteArray) (s : ByteArray) (b off n c : Nat) (w : World) (hc : ∀ j, j < n → w.cell? ⟨b, off + j, none⟩ = some (.string (f j))) (hne : ∀ j, j < n → (s.toList == (f j).toList) = false) (hn : n ≤ 100) :
    Calls Try.prog 24 #[.slice (some ⟨b, off, none⟩) n c, .string s] w fun e w' => e = .returned (.bool false) ∧ w = w' := by
  have HC := Lib.hid (fun w hc => index_no f s b off n c w hc hne hn)
  have H := Lib.hid hc
  clear hc hne
  go_enter Try.func24, Try.ntmps24
  go_wp2_with fail
  refine (HC.out _ H.out).mono ?_
  rintro e w' ⟨rfl, rfl⟩
  go_wp2_with fail
  go_ret
  exact ⟨rfl, rfl⟩
end Go.Proofs.Ytcocplaloajbdaa
