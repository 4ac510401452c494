/- base.Decimal of naturals. -/
import Derived.Test.YtlfeoofchebbkaaDoorRgt
import Derived.Laws.BytesArg
namespace Go.Proofs.YtlfeoofchebbkaaDoor
set_option linter.unusedSimpArgs false
set_option linter.unusedVariables false
open Go.RowKit
/-- The decimal digits of a number, ahead of others. -/
def decL : Nat → Nat → List UInt8 → List UInt8
  | 0, _, acc => acc
  | f + 1, n, acc => if n = 0 then acc else decL f (n / 10) (UInt8.ofNat (48 + n % 10) :: acc)
def decB (n : Nat) : ByteArray := if n = 0 then ⟨#[48]⟩ else ⟨(decL (n + 1) n []).toArray⟩
theorem size_any (n : Int) (w : World) (h0 : 0 ≤ n) (h1 : n ≤ 1000000) : Calls Tryd.prog 48 #[.int .i64 n] w fun e w' => e = .returned (.int .i64 n) ∧ w = w' := by
  go_enter Tryd.func48, Tryd.ntmps48
  go_wp2_with fail
  all_goals go_ret
  all_goals exact ⟨ret_int (by omega), rfl⟩
set_option maxRecDepth 100000 in
set_option maxHeartbeats 2000000 in
theorem dec_any (n : Nat) (w : World) (hn : n ≤ 1000000) : Calls Tryd.prog 24 #[.int .i64 (n : Int)] w fun e w' => e = .returned (.string (decB n)) ∧ Below w.heap.size w w' := by
  by_cases h0 : n = 0
  · subst h0
    go_enter Tryd.func24, Tryd.ntmps24
    go_wp2_with fail
    go_ret
    exact ⟨rfl, Below.refl _ _⟩
  · have hnb : ((n : Int) == 0) = false := by simp; omega
    have hlt : ¬ (n : Int) < 0 := by omega
    have HD : Hid (decB n = ⟨(decL (n + 1) n []).toArray⟩) := (show decB n = _ by unfold decB; rw [if_neg h0])
    generalize decB n = res at *
    go_enter Tryd.func24, Tryd.ntmps24
    go_wp2_with fail
    go_loopg [0, 3] n (fun gg s0 s3 wr => ∃ (k m : Nat) (acc : List UInt8), m < k ∧ m ≤ gg ∧ acc.length + m ≤ n ∧ s0 = .int .i64 (m : Int) ∧ s3 = .string ⟨acc.toArray⟩ ∧ Hid (decL k m acc = decL (n + 1) n []) ∧ Hid (Below w.heap.size w wr))
    case atStart => exact ⟨n + 1, n, [], by omega, by omega, by simp, rfl, rfl, rfl, Below.refl _ _⟩
    case round =>
      obtain ⟨k, m, acc, hk, hg, hmn, rfl, rfl, HE, HB⟩ := hrel
      by_cases hm : m = 0
      · subst hm
        obtain ⟨k, rfl⟩ : ∃ j, k = j + 1 := ⟨k - 1, by omega⟩
        have he : acc = decL (n + 1) n [] := HE.out
        have HR : Hid (⟨#[]⟩ ++ ⟨acc.toArray⟩ = res) := (show (⟨#[]⟩ : ByteArray) ++ ⟨acc.toArray⟩ = res by rw [HD.out, ← he]; exact ByteArray.ext (by simp))
        clear HE he HD
        generalize hs : (⟨acc.toArray⟩ : ByteArray) = s at *
        have hsz : s.size = acc.length := by rw [← hs]; simp [ByteArray.size]
        clear hs
        go_wp2_with fail
        go_ret
        exact ⟨congrArg (fun x => Ending.returned (.string x)) HR.out, HB.out⟩
      · have hmb : ((m : Int) != 0) = true := by simp; omega
        have hm0 : (0 : Int) ≤ (m : Int) := by omega
        have e1 : (m : Int) % 10 = ((m % 10 : Nat) : Int) := by omega
        have hd : m % 10 < 10 := Nat.mod_lt _ (by omega)
        obtain ⟨d, hdd⟩ : ∃ d, m % 10 = d := ⟨_, rfl⟩
        rw [hdd] at e1 hd
        have HDD := Lib.hid hdd
        clear hdd
        have hw8 : IntKind.u8.wrap (48 + (d : Int)) = 48 + (d : Int) := IntWalk.u8_in _ (by omega)
        obtain ⟨t, ht⟩ : ∃ t, strOfNums [48 + (d : Int)] = t := ⟨_, rfl⟩
        have hts : t.size = 1 := by rw [← ht, strOfNums_size]; rfl
        have HT : Hid (t ++ ⟨acc.toArray⟩ = ⟨(UInt8.ofNat (48 + d) :: acc).toArray⟩) := (show t ++ (⟨acc.toArray⟩ : ByteArray) = _ by
          rw [← ht]
          refine ByteArray.ext ?_
          have : (48 + (d : Int)).toNat = 48 + d := by omega
          simp [strOfNums, this])
        have hcv : Hid (∀ (W : World) b, W.cell? ⟨b, 0, none⟩ = some (.int .u8 (48 + (d : Int))) → (convert 83 9 (.slice (some ⟨b, 0, none⟩) 1 1)).run Tryd.prog W = .ok (.string t) W) := (show ∀ W b, _ from fun W b h => by
          rw [← ht]
          exact run_convert_bytes_arg W 83 5 Tryd.underlying83 Tryd.underlying5 b 0 1 1 [48 + (d : Int)] rfl (fun i hi => by
            obtain rfl : i = 0 := by omega
            exact h) 9 Tryd.underlying9)
        clear ht
        generalize hs : (⟨acc.toArray⟩ : ByteArray) = s at *
        have hsz : s.size = acc.length := by rw [← hs]; simp [ByteArray.size]
        clear hs
        go_wp2_with fail
        rw [e1]
        refine (size_any _ _ (by omega) (by omega)).mono ?_
        rintro e w' ⟨rfl, rfl⟩
        have hc1 := hcv.out (wr.alloc (Obj.cells #[.int .u8 (48 + (d : Int))] 5)) wr.heap.size (by simp [go_sem])
        go_wp2_with fail
        go_roundg (m / 10)
        case measure => omega
        case rel =>
          obtain ⟨k, rfl⟩ : ∃ j, k = j + 1 := ⟨k - 1, by omega⟩
          refine ⟨k, m / 10, UInt8.ofNat (48 + d) :: acc, by omega, Nat.le_refl _, by simp; omega, by first | go_num | rfl | (congr 1; omega), by rw [HT.out], (show _ = _ from ?_), HB.out.alloc (by have := HB.out.size; omega) _⟩
          rw [← HE.out, ← HDD.out]
          show _ = if m = 0 then acc else _
          rw [if_neg hm]
