/- slices.Repeat of one number. -/
import Derived.Test.YtlfeoofchebbkaaBml
import Derived.Test.YtlfeoofchebbkaaRow
import Derived.Laws.CopyOwn
import Derived.StillTailTactics
import Derived.Deep.RegionHeld3
namespace Go.Proofs.Ytlfeoofchebbkaa
set_option linter.unusedSimpArgs false
set_option linter.unusedVariables false
open Go.RowKit
/-- m times x, then zeros, n in all. -/
def repL (x : Int) (m n : Nat) : List Value := List.replicate m (.int .i64 x) ++ List.replicate (n - m) (.int .i64 0)
theorem repL_len {x : Int} {m n : Nat} (h : m ≤ n) : (repL x m n).length = n := by simp [repL]; omega
theorem repL_zero (x : Int) (n : Nat) : repL x 0 n = List.replicate n (.int .i64 0) := by simp [repL]
theorem repL_full (x : Int) (n : Nat) : repL x n n = List.replicate n (.int .i64 x) := by simp [repL]
theorem repL_get {x : Int} {m n j : Nat} (h : j < m) : (repL x m n)[j]? = some (.int .i64 x) := by
  unfold repL
  rw [List.getElem?_append_left (by simpa using h)]
  simp [h]
theorem repL_splice {x : Int} {m q n : Nat} (h : m + q ≤ n) : splice (repL x m n) m (List.replicate q (.int .i64 x)) = repL x (m + q) n := by
  unfold splice repL
  have e : n - m - (m + q - m) = n - (m + q) := by omega
  simp [List.take_append, List.drop_append, e, ← List.append_assoc, List.replicate_append_replicate]
  omega
theorem repL_one (x : Int) (m : Nat) : ∀ v ∈ List.replicate m (Value.int .i64 x), v.oneCell' = true := fun v hv => by
  rw [(List.mem_replicate.1 hv).2]; rfl
/-- What lies in the new row. -/
theorem rep_own {W : World} {B g : Nat} {x : Int} {n : Nat} {t : TypeId} (hg : W.heap[g]? = some (.cells (repL x n n).toArray t (0, 0))) (hB : B ≤ g) : IntsOwn W B (List.replicate n x) (.slice (some ⟨g, 0, none⟩) n n) := by
  have hlen : (List.replicate n x).length = n := by simp
  have hrow : rowG W g (List.replicate n x).length (fun j => .int .i64 (gz (List.replicate n x) j)) := ⟨_, t, hg, by simp [repL], fun j hj => by
    rw [hlen] at hj
    rw [List.getElem?_toArray, repL_get hj]
    simp [gz, List.getD_eq_getElem?_getD, hj]⟩
  exact ⟨some ⟨g, 0, none⟩, g, n, by rw [hlen], by omega, fun _ => ⟨rfl, hrow.lt⟩, ZsAt.of_row hrow, fun _ => ⟨hB, hrow⟩⟩
set_option maxRecDepth 100000 in
set_option maxHeartbeats 4000000 in
theorem repeat_any (x : Int) (n b off c : Nat) (w : World) (hx : w.cell? ⟨b, off, none⟩ = some (.int .i64 x)) (hn : n ≤ 1000000) :
    Calls Try.prog 116 #[.slice (some ⟨b, off, none⟩) 1 c, .int .i64 n] w (CopyPost w (List.replicate n x)) := by
  have hbw := block_lt_of_cell hx
  have HM : Hid (∀ W, Calls Try.prog 139 #[.int .u64 1, .int .u64 n] W fun e w' => e = .returned (.tuple #[.int .u64 0, .int .u64 n]) ∧ w' = W) := (show ∀ W, _ from fun W => by
    have h := Try.bits_Mul 1 n (by omega) (by omega) W
    have e1 : 1 * n / 18446744073709551616 = 0 := Nat.div_eq_of_lt (by omega)
    have e2 : 1 * n % 18446744073709551616 = n := by rw [Nat.one_mul]; exact Nat.mod_eq_of_lt (by omega)
    rw [e1, e2] at h
    exact h)
  have HFN : Hid (∀ W, W.heap[w.heap.size]? = some (.cells (repL x n n).toArray 3 (0, 0)) → Below w.heap.size w W → CopyPost w (List.replicate n x) (.returned (.slice (some ⟨w.heap.size, 0, none⟩) n n)) W) := (show ∀ W, _ from fun W hg hb => ⟨_, rfl, rep_own hg (Nat.le_refl _), hb⟩)
  have hmk := run_make_row' (P := Try.prog) 23 3 (.int .i64 0) 8 Try.underlying23 Try.info3 rfl .i64 .i64 n (by omega) (by omega)
  have hb0 := below_new w (Obj.cells (madeCells #[Value.int IntKind.i64 0] n) 3)
  have hxc := ((below_new w (Obj.cells (madeCells #[Value.int IntKind.i64 0] n) 3)).cell hbw).trans hx
  obtain ⟨cs, hcs⟩ : ∃ cs, cs = List.replicate (min 1 n) (Value.int .i64 x) := ⟨_, rfl⟩
  obtain ⟨r0, hr0⟩ : ∃ r0, r0 = repL x 0 n := ⟨_, rfl⟩
  obtain ⟨m0, hm0⟩ : ∃ m0, m0 = min 1 n := ⟨_, rfl⟩
  have HG0 : Hid ((w.alloc (Obj.cells (madeCells #[Value.int IntKind.i64 0] n) 3)).heap[w.heap.size]? = some (.cells r0.toArray 3 (0, 0))) := by
    show _ = _
    rw [heap_alloc_new w _, hr0, repL_zero, ← toList_madeCells_one, Array.toArray_toList]
  have HLEN : Hid (cs.length = m0) := by show _ = _; rw [hcs, hm0]; simp
  have HQ1 : Hid (cs.length = Nat.min 1 n) := by show _ = _; rw [hcs]; simp
  have HFIT : Hid (0 + cs.length ≤ r0.length) := by show _ ≤ _; rw [hr0, hcs, repL_len (Nat.zero_le _)]; simp; omega
  have HPOS : Hid (∀ j v, cs[j]? = some v → (w.alloc (Obj.cells (madeCells #[Value.int IntKind.i64 0] n) 3)).cell? ((⟨b, off, none⟩ : Addr).add j) = some v) := (show ∀ j v, _ from fun j v h => by
    rw [hcs, List.getElem?_replicate] at h
    split at h
    · have : j = 0 := by omega
      subst this
      injection h with h
      subst h
      exact hxc
    · cases h)
  have HSP : Hid (splice r0 0 cs = repL x m0 n) := by show _ = _; have := repL_splice (x := x) (m := 0) (q := min 1 n) (n := n) (by omega); rw [Nat.zero_add] at this; rw [hr0, hcs, hm0]; exact this
  have HR0 : Hid (∀ v ∈ cs, v.oneCell' = true) := by show ∀ v ∈ cs, _; rw [hcs]; exact repL_one x _
  have HM0 := Lib.hid hm0
  have HR1 := Lib.hid (repL_one x)
  clear hcs hr0 hm0 hxc
  go_enter Try.func116, Try.ntmps116
  go_wp2_with fail
  refine (HM.out _).mono ?_
  rintro e w' ⟨rfl, rfl⟩
  go_wp2_with ((refine wpList_copy_splice rfl (.tmp 31) (.tmp 32) 23 23 rfl 3 Try.underlying23 (by kernel_rfl) (some ⟨w'.heap.size, 0, none⟩) (some ⟨b, off, none⟩) n n 1 c (by rfl) (by rfl) w'.heap.size 0 r0 3 HG0.out cs HQ1.out (fun _ => ⟨rfl, _, rfl, HPOS.out⟩) HFIT.out HR0.out w'.heap.size w' hb0 (Nat.le_refl _) ?_); intro w2 hw2 hb2; rw [HSP.out] at hw2; have HW2 := Lib.hid hw2.out; have HB2 := Lib.hid hb2; rw [HLEN.out]; clear hw2 hb2)
  clear hmk HPOS HFIT HSP HQ1 HG0 HM hb0 hx hbw HR0 HLEN
  have hsz := HB2.out.size
  generalize w'.heap.size = g at *
  go_loopg [8] n (fun gg s8 wr => ∃ m : Nat, m ≤ n ∧ n - m ≤ gg ∧ (0 < n → 0 < m) ∧ s8 = .int .i64 m ∧ Hid (wr.heap[g]? = some (.cells (repL x m n).toArray 3 (0, 0))) ∧ Hid (Below g w' wr))
  case atStart => exact ⟨m0, by have := HM0.out; omega, by omega, by have := HM0.out; omega, by simp, HW2.out, HB2.out⟩
  case round =>
    obtain ⟨m, hm, hg, h0, rfl, HG, HB⟩ := hrel
    by_cases hlt : m < n
    · have hltz : (m : Int) < (n : Int) := by omega
      have hm0 : (0 : Int) ≤ (m : Int) := by omega
      obtain ⟨cs, hcs⟩ : ∃ cs, cs = List.replicate (min m (n - m)) (Value.int .i64 x) := ⟨_, rfl⟩
      obtain ⟨r0, hr0⟩ : ∃ r0, r0 = repL x m n := ⟨_, rfl⟩
      obtain ⟨q, hqe⟩ : ∃ q, q = min m (n - m) := ⟨_, rfl⟩
      have hq1 : 1 ≤ q := by have := h0 (by omega); omega
      have hq2 : m + q ≤ n := by omega
      have HG1 : Hid (wr.drew.heap[g]? = some (.cells r0.toArray 3 (0, 0))) := by show wr.heap[g]? = _; rw [hr0]; exact HG.out
      have HLEN : Hid (cs.length = q) := by show _ = _; rw [hcs, hqe]; simp
      have HQ1 : Hid (cs.length = Nat.min m (n - m)) := by show _ = _; rw [hcs]; simp
      have HFIT : Hid (m + cs.length ≤ r0.length) := by show _ ≤ _; rw [hr0, hcs, repL_len hm]; simp; omega
      have HPOS : Hid (∀ j v, cs[j]? = some v → wr.drew.cell? ((⟨g, 0, none⟩ : Addr).add j) = some v) := (show ∀ j v, _ from fun j v h => by
        rw [hcs, List.getElem?_replicate] at h
        split at h
        · injection h with h
          subst h
          rw [show (⟨g, 0, none⟩ : Addr).add j = ⟨g, 0 + j, none⟩ by unfold Addr.add; split <;> simp_all]
          show wr.cell? ⟨g, 0 + j, none⟩ = _
          rw [cell_of_row wr g (0 + j) (repL x m n).toArray 3 (0, 0) HG.out, List.getElem?_toArray, repL_get (by omega)]
        · cases h)
      have HSP : Hid (splice r0 m cs = repL x (m + q) n) := by show _ = _; rw [hr0, hcs, hqe]; exact repL_splice (by omega)
      have HR0 : Hid (∀ v ∈ cs, v.oneCell' = true) := by show ∀ v ∈ cs, _; rw [hcs]; exact repL_one x _
      have HBd : Hid (Below g w' wr.drew) := HB.out.drew
      clear hcs hr0 hqe HG HB h0
      have hmn : (m : Int) ≤ (n : Int) := by omega
      have hnm2 : ¬ n = m := by omega
      go_wp2_with fail
      go_region_held3 (fun _ => True) (trivial) ((refine step_copy_splice rfl (.tmp 41) (.tmp 44) 23 23 rfl 3 Try.underlying23 (by kernel_rfl) (some ⟨g, m, none⟩) (some ⟨g, 0, none⟩) (n - m) (n - m) m n (by rfl) (by rfl) g m r0 3 HG1.out cs HQ1.out (fun _ => ⟨rfl, _, rfl, HPOS.out⟩) HFIT.out HR0.out g w' HBd.out (Nat.le_refl _) ?_; intro w2 hw2 hb2; rw [HSP.out] at hw2; have HW2 := Lib.hid hw2.out; have HB2 := Lib.hid hb2; rw [HLEN.out]; clear hw2 hb2))
      go_wp2_with fail
      go_roundg (n - (m + q))
      case measure => omega
      case rel => exact ⟨m + q, by omega, by omega, by omega, by rw [IntWalk.i64_in ((m : Int) + (q : Int)) (by omega)]; go_num, HW2.out, HB2.out⟩
    · have hltz : ¬ (m : Int) < (n : Int) := by omega
      have he : m = n := by omega
      subst he
      have HF := Lib.hid (HFN.out wr HG.out HB.out)
      go_wp2_with fail
      go_ret
      exact HF.out
end Go.Proofs.Ytlfeoofchebbkaa
