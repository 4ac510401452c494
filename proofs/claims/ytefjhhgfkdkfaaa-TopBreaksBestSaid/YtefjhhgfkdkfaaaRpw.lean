/- slices.Repeat of one way. -/
import Derived.Test.YtefjhhgfkdkfaaaBml
import Derived.Test.YtefjhhgfkdkfaaaCpw
import Derived.Test.YtefjhhgfkdkfaaaSlc
import Derived.Laws.MakeOwn
import Derived.StillTailTactics
import Derived.Deep.RegionHeld3
namespace Go.Proofs.Ytefjhhgfkdkfaaa
set_option linter.unusedSimpArgs false
set_option linter.unusedVariables false
open Go.RowKit
/-- m times the pair x, y, cell by cell. -/
def rp (x y : Int) : Nat → List Value
  | 0 => []
  | m + 1 => .int .i64 x :: .int .i64 y :: rp x y m
theorem rp_len (x y : Int) : ∀ m, (rp x y m).length = m * 2
  | 0 => rfl
  | m + 1 => by simp only [rp, List.length_cons, rp_len x y m]; omega
theorem rp_add (x y : Int) : ∀ m q, rp x y (m + q) = rp x y m ++ rp x y q
  | 0, q => by rw [Nat.zero_add]; rfl
  | m + 1, q => by rw [show m + 1 + q = (m + q) + 1 by omega]; simp only [rp, List.cons_append, rp_add x y m q]
theorem rp_one (x y : Int) : ∀ m, ∀ v ∈ rp x y m, v.oneCell' = true
  | 0, v, h => by simp [rp] at h
  | m + 1, v, h => by
    simp only [rp, List.mem_cons] at h
    rcases h with h | h | h
    · rw [h]; rfl
    · rw [h]; rfl
    · exact rp_one x y m v h
theorem rp_get (x y : Int) : ∀ m j, j < m → (rp x y m)[j * 2]? = some (.int .i64 x) ∧ (rp x y m)[j * 2 + 1]? = some (.int .i64 y)
  | 0, j, h => by omega
  | m + 1, 0, _ => ⟨rfl, rfl⟩
  | m + 1, j + 1, h => by
    have := rp_get x y m j (by omega)
    rw [show (j + 1) * 2 = j * 2 + 1 + 1 by omega]
    simpa [rp] using this
/-- m pairs, then zeros, n pairs in all. -/
def rpz (x y : Int) (m n : Nat) : List Value := rp x y m ++ List.replicate ((n - m) * 2) (.int .i64 0)
theorem rpz_len {x y : Int} {m n : Nat} (h : m ≤ n) : (rpz x y m n).length = n * 2 := by
  unfold rpz; rw [List.length_append, rp_len, List.length_replicate]; omega
theorem rpz_full (x y : Int) (n : Nat) : rpz x y n n = rp x y n := by simp [rpz]
theorem rpz_zero (x y : Int) (n : Nat) : rpz x y 0 n = List.replicate (n * 2) (.int .i64 0) := by simp [rpz, rp]
theorem rpz_pre {x y : Int} {m n q j : Nat} (hq : q ≤ m) (hj : j < q * 2) : (rpz x y m n)[j]? = (rp x y q)[j]? := by
  unfold rpz
  rw [List.getElem?_append_left (by rw [rp_len]; omega), show m = q + (m - q) by omega, rp_add, List.getElem?_append_left (by rw [rp_len]; exact hj)]
theorem rpz_splice {x y : Int} {m q n : Nat} (h : m + q ≤ n) : splice (rpz x y m n) (m * 2) (rp x y q) = rpz x y (m + q) n := by
  unfold splice rpz
  have h1 := rp_len x y m
  have h2 := rp_len x y q
  rw [List.take_append_of_le_length (by omega), List.take_of_length_le (by omega), rp_add, List.append_assoc, List.drop_append, List.drop_of_length_le (by rw [h1, h2]; omega), List.nil_append, h1, h2, List.drop_replicate,
    show (n - m) * 2 - (m * 2 + q * 2 - m * 2) = (n - (m + q)) * 2 by omega]
theorem info106 : (Try.prog.info? 106).map (fun i => (i.zero, i.size, i.bytes)) = some (some (.agg #[.int .i64 0, .int .i64 0]), 2, 16) := by kernel_rfl
theorem made_pair (k : Nat) : madeCells (Value.agg #[.int .i64 0, .int .i64 0]).cells k = (List.replicate k (Value.int .i64 0)).toArray := by
  apply Array.ext'
  apply List.ext_getElem?
  intro j
  by_cases hj : j < k
  · have h2 : j % 2 = 0 ∨ j % 2 = 1 := by omega
    rcases h2 with h2 | h2 <;> simp [madeCells, Value.cells, hj, h2]
  · simp [madeCells, Value.cells, hj]
def RpPost (w : World) (x y : Int) (n : Nat) (e : Ending) (w' : World) : Prop :=
  e = .returned (.slice (some ⟨w.heap.size, 0, none⟩) n n) ∧ w'.heap[w.heap.size]? = some (.cells (rp x y n).toArray 106 (0, 0)) ∧ Below w.heap.size w w'
set_option maxRecDepth 100000 in
set_option maxHeartbeats 4000000 in
theorem repeatW_any (x y : Int) (n b off c : Nat) (w : World) (hx : w.cell? ⟨b, off, none⟩ = some (.int .i64 x)) (hy : w.cell? ⟨b, off + 1, none⟩ = some (.int .i64 y)) (hn : n ≤ 1000000) :
    Calls Try.prog 46 #[.slice (some ⟨b, off, none⟩) 1 c, .int .i64 n] w (RpPost w x y n) := by
  have hbw := block_lt_of_cell hx
  have HM : Hid (∀ W, Calls Try.prog 89 #[.int .u64 1, .int .u64 n] W fun e w' => e = .returned (.tuple #[.int .u64 0, .int .u64 n]) ∧ w' = W) := (show ∀ W, _ from fun W => by
    have h := Try.bits_Mul 1 n (by omega) (by omega) W
    have e1 : 1 * n / 18446744073709551616 = 0 := Nat.div_eq_of_lt (by omega)
    have e2 : 1 * n % 18446744073709551616 = n := by rw [Nat.one_mul]; exact Nat.mod_eq_of_lt (by omega)
    rw [e1, e2] at h
    exact h)
  have HFN : Hid (∀ W, W.heap[w.heap.size]? = some (.cells (rpz x y n n).toArray 106 (0, 0)) → Below w.heap.size w W → RpPost w x y n (.returned (.slice (some ⟨w.heap.size, 0, none⟩) n n)) W) := (show ∀ W, _ from fun W hg hb => ⟨rfl, by rw [rpz_full] at hg; exact hg, hb⟩)
  obtain ⟨i1, hi1, hz1, hy1, hx1⟩ := info_parts info106
  have hmk : ∀ W : World, (Instr.makeSlice 103 (.int .i64 (n : Int)) (.int .i64 (n : Int))).run Try.prog W = .ok (.slice (some ⟨W.heap.size, 0, none⟩) n n) (W.alloc (.cells (List.replicate (n * 2) (Value.int .i64 0)).toArray 106)) := fun W => by
    have := run_makeSlice (P := Try.prog) (w := W) 103 106 i1 _ Try.underlying103 hi1 hz1 .i64 .i64 (n : Int) (n : Int) (by omega) (Int.le_refl _) (by rw [hy1]; simp; omega) (by rw [hx1]; omega) (by omega)
    rw [made_pair, hy1] at this
    simpa using this
  have hb0 := below_new w (Obj.cells (List.replicate (n * 2) (Value.int .i64 0)).toArray 106)
  have hxc := (hb0.cell (p := ⟨b, off, none⟩) hbw).trans hx
  have hyc := (hb0.cell (p := ⟨b, off + 1, none⟩) hbw).trans hy
  obtain ⟨m0, hm0⟩ : ∃ m0, m0 = min 1 n := ⟨_, rfl⟩
  obtain ⟨cs, hcs⟩ : ∃ cs, cs = rp x y m0 := ⟨_, rfl⟩
  obtain ⟨r0, hr0⟩ : ∃ r0, r0 = rpz x y 0 n := ⟨_, rfl⟩
  have HG0 : Hid ((w.alloc (Obj.cells (List.replicate (n * 2) (Value.int .i64 0)).toArray 106)).heap[w.heap.size]? = some (.cells r0.toArray 106 (0, 0))) := by
    show _ = _
    rw [heap_alloc_new w _, hr0, rpz_zero]
  have HMN : Hid (m0 = Nat.min 1 n) := hm0
  have HQ1 : Hid (cs.length = m0 * 2) := by show _ = _; rw [hcs, rp_len]
  have HFIT : Hid (0 + cs.length ≤ r0.length) := by show _ ≤ _; rw [hr0, hcs, rpz_len (Nat.zero_le _), rp_len]; omega
  have HPOS : Hid (∀ j v, cs[j]? = some v → (w.alloc (Obj.cells (List.replicate (n * 2) (Value.int .i64 0)).toArray 106)).cell? ((⟨b, off, none⟩ : Addr).add j) = some v) := (show ∀ j v, _ from fun j v h => by
    have hadd : (⟨b, off, none⟩ : Addr).add j = ⟨b, off + j, none⟩ := by unfold Addr.add; split <;> simp_all
    rw [hadd]
    have hj : j < m0 * 2 := by
      rcases Nat.lt_or_ge j (m0 * 2) with h' | h'
      · exact h'
      · rw [List.getElem?_eq_none (by rw [HQ1.out]; exact h')] at h; cases h
    have hg := rp_get x y m0 0 (by omega)
    rw [hcs] at h
    have h01 : j = 0 ∨ j = 1 := by omega
    rcases h01 with e | e
    · subst e; rw [hg.1] at h; rw [← h]; exact hxc
    · subst e; rw [hg.2] at h; rw [← h]; exact hyc)
  have HSP : Hid (splice r0 0 cs = rpz x y m0 n) := by show _ = _; have := rpz_splice (x := x) (y := y) (m := 0) (q := m0) (n := n) (by omega); rw [Nat.zero_add, Nat.zero_mul] at this; rw [hr0, hcs]; exact this
  have HR0 : Hid (∀ v ∈ cs, v.oneCell' = true) := by show ∀ v ∈ cs, _; rw [hcs]; exact rp_one x y _
  have HM0 := Lib.hid hm0
  clear hcs hr0 hm0 hxc hyc
  go_enter Try.func46, Try.ntmps46
  go_wp2_with fail
  refine (HM.out _).mono ?_
  rintro e w' ⟨rfl, rfl⟩
  go_wp2_with ((refine wpList_copyW rfl (.tmp 31) (.tmp 32) 103 103 rfl 106 2 m0 Try.underlying103 (by kernel_rfl) (some ⟨w'.heap.size, 0, none⟩) (some ⟨b, off, none⟩) n n 1 c (by rfl) (by rfl) w'.heap.size 0 r0 106 HG0.out cs HMN.out HQ1.out (fun _ => ⟨rfl, _, rfl, HPOS.out⟩) HFIT.out HR0.out w'.heap.size w' hb0 (Nat.le_refl _) ?_); intro w2 hw2 hb2; rw [HSP.out] at hw2; have HW2 := Lib.hid hw2.out; have HB2 := Lib.hid hb2; clear hw2 hb2)
  clear hmk HPOS HFIT HSP HQ1 HG0 HM hb0 hx hy hbw HR0 HMN
  have hsz := HB2.out.size
  generalize w'.heap.size = g at *
  go_loopg [8] n (fun gg s8 wr => ∃ m : Nat, m ≤ n ∧ n - m ≤ gg ∧ (0 < n → 0 < m) ∧ s8 = .int .i64 m ∧ Hid (wr.heap[g]? = some (.cells (rpz x y m n).toArray 106 (0, 0))) ∧ Hid (Below g w' wr))
  case atStart => exact ⟨m0, by have := HM0.out; omega, by omega, by have := HM0.out; omega, by simp, HW2.out, HB2.out⟩
  case round =>
    obtain ⟨m, hm, hg, h0, rfl, HG, HB⟩ := hrel
    by_cases hlt : m < n
    · have hltz : (m : Int) < (n : Int) := by omega
      have hm0 : (0 : Int) ≤ (m : Int) := by omega
      obtain ⟨q, hqe⟩ : ∃ q, q = min m (n - m) := ⟨_, rfl⟩
      obtain ⟨cs, hcs⟩ : ∃ cs, cs = rp x y q := ⟨_, rfl⟩
      obtain ⟨r0, hr0⟩ : ∃ r0, r0 = rpz x y m n := ⟨_, rfl⟩
      have hq1 : 1 ≤ q := by have := h0 (by omega); omega
      have hq2 : m + q ≤ n := by omega
      have HG1 : Hid (wr.drew.heap[g]? = some (.cells r0.toArray 106 (0, 0))) := by show wr.heap[g]? = _; rw [hr0]; exact HG.out
      have HMN : Hid (q = Nat.min m (n - m)) := hqe
      have HQ1 : Hid (cs.length = q * 2) := by show _ = _; rw [hcs, rp_len]
      have HFIT : Hid (m * 2 + cs.length ≤ r0.length) := by show _ ≤ _; rw [hr0, hcs, rpz_len hm, rp_len]; omega
      have HPOS : Hid (∀ j v, cs[j]? = some v → wr.drew.cell? ((⟨g, 0, none⟩ : Addr).add j) = some v) := (show ∀ j v, _ from fun j v h => by
        have hj : j < q * 2 := by
          rcases Nat.lt_or_ge j (q * 2) with h' | h'
          · exact h'
          · rw [List.getElem?_eq_none (by rw [HQ1.out]; exact h')] at h; cases h
        rw [show (⟨g, 0, none⟩ : Addr).add j = ⟨g, 0 + j, none⟩ by unfold Addr.add; split <;> simp_all]
        show wr.cell? ⟨g, 0 + j, none⟩ = _
        rw [cell_of_row wr g (0 + j) (rpz x y m n).toArray 106 (0, 0) HG.out, List.getElem?_toArray, Nat.zero_add, rpz_pre (q := q) (by omega) hj, ← hcs]
        exact h)
      have HSP : Hid (splice r0 (m * 2) cs = rpz x y (m + q) n) := by show _ = _; rw [hr0, hcs]; exact rpz_splice (by omega)
      have HR0 : Hid (∀ v ∈ cs, v.oneCell' = true) := by show ∀ v ∈ cs, _; rw [hcs]; exact rp_one x y _
      have HBd : Hid (Below g w' wr.drew) := HB.out.drew
      clear hcs hr0 hqe HG HB h0
      have hmn : (m : Int) ≤ (n : Int) := by omega
      have hnm2 : ¬ n = m := by omega
      go_wp2_with fail
      go_region_held3 (fun _ => True) (trivial) ((refine step_copyW rfl (.tmp 41) (.tmp 44) 103 103 rfl 106 2 q Try.underlying103 (by kernel_rfl) (some ⟨g, m * 2, none⟩) (some ⟨g, 0, none⟩) (n - m) (n - m) m n (by rfl) (by rfl) g (m * 2) r0 106 HG1.out cs HMN.out HQ1.out (fun _ => ⟨rfl, _, rfl, HPOS.out⟩) HFIT.out HR0.out g w' HBd.out (Nat.le_refl _) ?_; intro w2 hw2 hb2; rw [HSP.out] at hw2; have HW2 := Lib.hid hw2.out; have HB2 := Lib.hid hb2; clear hw2 hb2))
      go_wp2_with fail
      go_roundg (n - (m + q))
      case measure => omega
      case rel => exact ⟨m + q, by omega, by omega, by omega, by rw [IntWalk.i64_in ((m : Int) + (q : Int)) (by omega)]; go_num, HW2.out, HB2.out⟩
    · have hltz : ¬ (m : Int) < (n : Int) := by omega
      have he : m = n := by omega
      subst he
      have HF := Lib.hid (HFN.out wr HG.out HB.out)
      go_wp2_with fail
      go_ret
      exact HF.out
end Go.Proofs.Ytefjhhgfkdkfaaa
