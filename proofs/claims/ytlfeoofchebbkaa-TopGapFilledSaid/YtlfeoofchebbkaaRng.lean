/- The iterator 'choices' of a size's counts keeps its contract. -/
import Derived.RangeFuncNested
import Derived.RangeFuncBound
import Derived.RangeFuncCalls
import Derived.RangeFuncLeaves
import Derived.Shelf.Abstract
import Derived.Shelf.RegionOpen
import Derived.WalkKit
import Derived.OwnWalkIn
import Derived.TacticsInMore
import Derived.LoopNIn
import Derived.LoopIn
import Derived.IntWalk
import Derived.Test.YtlfeoofchebbkaaProg
namespace Go.Proofs.Ytlfeoofchebbkaa
set_option linter.unusedSimpArgs false
set_option linter.unusedVariables false
open Go.RowKit Go.Shelf
attribute [local go_sem] Oper.semAt_some
/-- The numbers below j, each at most M. -/
def fins (M : Nat) : (j : Nat) → j ≤ M + 1 → List (Fin (M + 1))
  | 0, _ => []
  | j + 1, h => fins M j (by omega) ++ [⟨j, by omega⟩]
theorem fins_len {M : Nat} : ∀ {j : Nat} (h : j ≤ M + 1), (fins M j h).length = j := by
  intro j
  induction j with
  | zero => intro h; rfl
  | succ j ih => intro h; simp [fins, ih]
abbrev encC (s r M : Nat) (k : Fin (M + 1)) : Array Value := #[.int .i64 (k.val : Int), .int .i64 ((r : Int) - (k.val : Int) * (s : Int))]
/-- The two captured blocks lie as they lay. -/
def KpC (bx bl : Nat) (A B : World) : Prop := B.heap[bx]? = A.heap[bx]? ∧ B.heap[bl]? = A.heap[bl]?
theorem kpC_t {bx bl : Nat} {A B C : World} (h : KpC bx bl A B) (k : KpC bx bl B C) : KpC bx bl A C := ⟨k.1.trans h.1, k.2.trans h.2⟩
theorem cell_blk {A B : World} {b o : Nat} (h : B.heap[b]? = A.heap[b]?) : B.cell? ⟨b, o, none⟩ = A.cell? ⟨b, o, none⟩ := by
  simp only [World.cell?, h]
theorem ch_in {s c r M j : Nat} (hM : ∀ k : Nat, k ≤ M ↔ (k ≤ c ∧ k * s ≤ r)) (hs : s ≤ 1000000) (hc : c ≤ 1000000) (hr : r ≤ 1000000) (h : j ≤ M + 1) (hj : j ≤ M) :
    (j : Int) ≤ (c : Int) ∧ (j : Int) * (s : Int) ≤ (r : Int) ∧ wrap64 ((j : Int) * (s : Int)) = (j : Int) * (s : Int) ∧ wrap64 ((r : Int) - (j : Int) * (s : Int)) = (r : Int) - (j : Int) * (s : Int) ∧ wrap64 ((j : Int) + 1) = (j : Int) + 1 ∧ (fins M j h).length < M + 1 := by
  obtain ⟨h1, h2⟩ := (hM j).1 hj
  rw [fins_len, ← Int.natCast_mul]
  generalize j * s = x at *
  exact ⟨by omega, by omega, IntWalk.wrap64_in _ (by omega), IntWalk.wrap64_in _ (by omega), IntWalk.wrap64_in _ (by omega), by omega⟩
theorem ch_out {s c r M j : Nat} (hM : ∀ k : Nat, k ≤ M ↔ (k ≤ c ∧ k * s ≤ r)) (hs : s ≤ 1000000) (hc : c ≤ 1000000) (hr : r ≤ 1000000) (h : j ≤ M + 1) (hj : ¬ j ≤ M) :
    ((j : Int) ≤ (c : Int) ∧ ¬ (j : Int) * (s : Int) ≤ (r : Int) ∧ wrap64 ((j : Int) * (s : Int)) = (j : Int) * (s : Int)) ∨ ¬ (j : Int) ≤ (c : Int) := by
  by_cases hjc : j ≤ c
  · have h2 : ¬ j * s ≤ r := fun h => hj ((hM j).2 ⟨hjc, h⟩)
    have hjs : j * s ≤ 1000000 * 1000000 := Nat.mul_le_mul (by omega) hs
    rw [← Int.natCast_mul]
    generalize j * s = x at *
    exact .inl ⟨by omega, by omega, IntWalk.wrap64_in _ (by omega)⟩
  · exact .inr (by omega)
theorem fins_end {M j : Nat} (h : j ≤ M + 1) (hj : ¬ j ≤ M) : fins M j h = fins M (M + 1) (Nat.le_refl _) := by
  have e : j = M + 1 := by omega
  subst e
  rfl
set_option maxRecDepth 100000 in
set_option maxHeartbeats 2000000 in
theorem choices_stops (s c r M bx bl : Nat) (w : World) (hM : ∀ k : Nat, k ≤ M ↔ (k ≤ c ∧ k * s ≤ r)) (hs : s ≤ 1000000) (hc : c ≤ 1000000) (hr : r ≤ 1000000)
    (hx0 : w.cell? ⟨bx, 0, none⟩ = some (.int .i64 (s : Int))) (hx1 : w.cell? ⟨bx, 1, none⟩ = some (.int .i64 (c : Int))) (hl : w.cell? ⟨bl, 0, none⟩ = some (.int .i64 (r : Int))) (hbx : bx < w.heap.size) (hbl : bl < w.heap.size) (n : Nat) (hn : 1 ≤ n) :
    SeqStopsK Fence.wide n Try.prog 140 #[.pointer (some ⟨bx, 0, none⟩), .pointer (some ⟨bl, 0, none⟩)] (encC s r M) (KpC bx bl) (fun xs => xs = fins M (M + 1) (Nat.le_refl _)) (fun _ => True) (M + 1) w := fun l J Jx W hW hJ hJx hY h0 => by
  have x0 : W.cell? ⟨bx, 0, none⟩ = some (.int .i64 (s : Int)) := (hW.cell (p := ⟨bx, 0, none⟩) hbx).trans hx0
  have x1 : W.cell? ⟨bx, 1, none⟩ = some (.int .i64 (c : Int)) := (hW.cell (p := ⟨bx, 1, none⟩) hbx).trans hx1
  have x2 : W.cell? ⟨bl, 0, none⟩ = some (.int .i64 (r : Int)) := (hW.cell (p := ⟨bl, 0, none⟩) hbl).trans hl
  refine callsIn_of_wp Try.func140 rfl trivial ?_ rfl
  simp only [Try.ntmps140, List.size_toArray, List.length_cons, List.length_nil, Nat.reduceAdd, Nat.reduceSub, Array.replicate_succ, Array.replicate_zero, List.push_toArray, List.append_toArray, List.nil_append, List.cons_append]
  gi_wp2
  gi_loopw [4] (fun s4 wr => ∃ (j : Nat) (h : j ≤ M + 1), s4 = .int .i64 (j : Int) ∧ J (fins M j h) wr ∧ KpC bx bl W wr) (fun s4 wr => M + 1 - (intOf s4).toNat)
  case atStart =>
    exact ⟨0, by omega, rfl, h0, rfl, rfl⟩
  case round =>
    obtain ⟨j, h, rfl, hJs, hK⟩ := hrel
    have y0 : wr.cell? ⟨bx, 0, none⟩ = some (.int .i64 (s : Int)) := (cell_blk hK.1).trans x0
    have y1 : wr.cell? ⟨bx, 1, none⟩ = some (.int .i64 (c : Int)) := (cell_blk hK.1).trans x1
    have y2 : wr.cell? ⟨bl, 0, none⟩ = some (.int .i64 (r : Int)) := (cell_blk hK.2).trans x2
    by_cases hj : j ≤ M
    · obtain ⟨h1z, h2z, e1, e2, e3, hlen⟩ := ch_in hM hs hc hr h hj
      obtain ⟨fn, tmps, assign, body, hy, hR⟩ := hY (fins M j h) ⟨j, Nat.lt_succ_of_le hj⟩ wr hJs hlen
      dsimp only [encC] at hy
      gi_wp2
      refine hR.mono ?_
      rintro e W3 (⟨rfl, hJ3, hk3⟩ | ⟨rfl, hJx3⟩)
      · clear hY hM hlen h2z h1z e1 e2 y0 y1 y2 hJ hJx hR hy hJs
        gi_wp2
        rw [e3]
        refine ⟨⟨j + 1, Nat.succ_le_succ hj, rfl, hJ3, kpC_t hK hk3⟩, ?_⟩
        simp only [intOf, Int.toNat_natCast]
        rw [show (((j : Int) + 1).toNat) = j + 1 by omega]
        omega
      · clear hY hM hlen h2z h1z e1 e2 y0 y1 y2 hJ hJx hR hy hJs
        gi_wp2
        refine bodyPost_ret (results_none rfl _ _ _) rfl ?_
        exact ⟨⟨_, rfl⟩, .inr ⟨_, trivial, hJx3⟩⟩
    · have hout := ch_out hM hs hc hr h hj
      rw [fins_end h hj] at hJs
      clear hY hM hJ hJx
      rcases hout with ⟨h1z, h2z, e1⟩ | h1z
      · gi_wp2
        go_end0
        exact ⟨⟨_, rfl⟩, .inl hJs⟩
      · gi_wp2
        go_end0
        exact ⟨⟨_, rfl⟩, .inl hJs⟩
theorem choices_any (s c r : Int) (w : World) : Calls Try.prog 117 #[.agg #[.int .i64 s, .int .i64 c], .int .i64 r] w fun e w' => e = .returned (.func (.func 140) #[] #[.pointer (some ⟨w.heap.size, 0, none⟩), .pointer (some ⟨w.heap.size + 1, 0, none⟩)]) ∧ (w.alloc (.cells #[.int .i64 s, .int .i64 c] 85)).alloc (.cells #[.int .i64 r] 3) = w' := by
  go_enter Try.func117, Try.ntmps117
  go_wp2
  go_ret
  exact ⟨rfl, rfl⟩
end Go.Proofs.Ytlfeoofchebbkaa
