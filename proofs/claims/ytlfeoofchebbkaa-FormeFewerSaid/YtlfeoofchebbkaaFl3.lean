/- FillLength: what stands while the counts are found, from the last size down. -/
import Derived.Test.YtlfeoofchebbkaaFlp
import Derived.Test.YtlfeoofchebbkaaMrk
import Derived.Test.YtlfeoofchebbkaaHlr
namespace Go.Proofs.Ytlfeoofchebbkaa
set_option linter.unusedSimpArgs false
set_option linter.unusedVariables false
open Go.RowKit
/-- Plain: of the sizes from m on c are taken; r is left. -/
structure Lp3 (l : List (Int × Int)) (L n m r : Nat) (c : Nat → Nat) : Prop where
  mn : m ≤ n
  rL : r ≤ L
  lt : gz (labF l L m) r < 1000000
  ps : gS l c (n - m) m + r = L
  pn : (gN c (n - m) m : Int) + gz (labF l L m) r = gz (labF l L n) L
  pc : ∀ j, m ≤ j → j < n → c j ≤ stC l j
theorem Lp3.start {l : List (Int × Int)} {L n : Nat} (h : gz (labF l L n) L < 1000000) : Lp3 l L n n L (fun _ => 0) :=
  ⟨Nat.le_refl _, Nat.le_refl _, h, by rw [Nat.sub_self]; show 0 + L = L; omega, by rw [Nat.sub_self]; show ((0 : Nat) : Int) + _ = _; omega, fun j h1 h2 => by omega⟩
theorem Lp3.step {l : List (Int × Int)} {L n m r j : Nat} {c : Nat → Nat} (h : Lp3 l L n (m + 1) r c) (h1 : j ≤ stC l m) (h2 : j * stS l m ≤ r) (h3 : gz (labF l L m) (r - j * stS l m) + (j : Int) = gz (labF l L (m + 1)) r) :
    Lp3 l L n m (r - j * stS l m) (fun i => if i = m then j else c i) := by
  have e : n - m = (n - (m + 1)) + 1 := by have := h.mn; omega
  have hs := h.ps
  have hn := h.pn
  have hlt := h.lt
  refine ⟨by have := h.mn; omega, by have := h.rL; omega, by omega, ?_, ?_, fun i hi1 hi2 => ?_⟩
  · rw [e]
    show (if m = m then j else c m) * stS l m + gS l _ (n - (m + 1)) (m + 1) + _ = L
    rw [if_pos rfl, gS_congr (e := c) _ _ (fun i hi => if_neg (by omega))]
    omega
  · rw [e]
    show ((((if m = m then j else c m) + gN _ (n - (m + 1)) (m + 1) : Nat)) : Int) + _ = _
    rw [if_pos rfl, gN_congr (e := c) _ _ (fun i hi => if_neg (by omega))]
    omega
  · show (if i = m then j else c i) ≤ _
    by_cases e2 : i = m
    · rw [if_pos e2, e2]; exact h1
    · rw [if_neg e2]; exact h.pc i (by omega) hi2
theorem Lp3.some {l : List (Int × Int)} {L n m r : Nat} {c : Nat → Nat} (h : Lp3 l L n (m + 1) r c) (hs : 1 ≤ stS l m) : ∃ j, j ≤ stC l m ∧ j * stS l m ≤ r ∧ gz (labF l L m) (r - j * stS l m) + (j : Int) = gz (labF l L (m + 1)) r :=
  lab_step h.rL hs h.lt
theorem Lp3.done {l : List (Int × Int)} {L n r : Nat} {c : Nat → Nat} (h : Lp3 l L n 0 r c) : (∀ i, i < n → c i ≤ stC l i) ∧ fS l c n = L ∧ (fN c n : Int) = gz (labF l L n) L := by
  have hlt := h.lt
  have hr0 : r = 0 := by
    rw [labF_zero h.rL] at hlt
    by_cases e : r = 0
    · exact e
    · rw [if_neg e] at hlt; omega
  subst hr0
  have hs := h.ps
  have hn := h.pn
  rw [Nat.sub_zero, gS_eq] at hs
  rw [Nat.sub_zero, gN_eq, labF_zero (Nat.zero_le _), if_pos rfl] at hn
  exact ⟨fun i hi => h.pc i (Nat.zero_le _) hi, by omega, by omega⟩
/-- The memory while the counts are found: the row of counts, its box, the rest, the size's number, the marks. -/
structure L3 (W0 W : World) (n cg kb : Nat) (kv : Int) (m r : Nat) (c : Nat → Nat) (ds : List Nat) : Prop where
  B : Below cg W0 W
  z : W0.heap.size = cg
  C : rowG W cg n (fun j => .int .i64 (if m ≤ j then (c j : Int) else 0))
  CB : Blk W (cg + 1) 23 #[.slice (some ⟨cg, 0, none⟩) n n]
  RB : Blk W (cg + 2) 3 #[.int .i64 (r : Int)]
  KB : Blk W kb 3 #[.int .i64 kv]
  kb : cg + 3 ≤ kb
  M : Marks cg ds W
theorem L3.kept {W0 W W' : World} {n cg kb m r : Nat} {kv : Int} {c : Nat → Nat} {ds : List Nat} {row : Option Nat} {T : Nat} (h : L3 W0 W n cg kb kv m r c ds) (hT : ∀ D ∈ ds, D < T) (hc : cg ≤ T) (hg : W.grownBy W' row) (hr : ∀ q, row = some q → T ≤ q ∧ ∃ o : Obj, W.heap[q]? = some o ∧ o.isCells = false) : L3 W0 W' n cg kb kv m r c ds := by
  have hk : ∀ k cs t fr, W.heap[k]? = some (Obj.cells cs t fr) → W'.heap[k]? = W.heap[k]? := fun k cs t fr hkk => hg.block k (Array.getElem?_eq_some_iff.1 hkk).1 (fun e => by
    obtain ⟨_, o, ho, hoc⟩ := hr k e.symm
    rw [hkk] at ho
    injection ho with ho
    rw [← ho] at hoc
    cases hoc)
  obtain ⟨cc, ct, hcc, hcn⟩ := h.C
  exact ⟨h.B.grown hg (by have := h.B.size; have := h.z; omega) (fun q e => Nat.le_trans hc (hr q e).1), h.z, h.C.of_block (hk _ _ _ _ hcc), (hk _ _ _ _ h.CB).trans h.CB, (hk _ _ _ _ h.RB).trans h.RB, (hk _ _ _ _ h.KB).trans h.KB, h.kb,
    h.M.kept fun D hD hm => (hg.block D (Array.getElem?_eq_some_iff.1 hD).1 (fun e => by have := (hr D e.symm).1; have := hT D hm; omega)).trans hD⟩
theorem L3.below {W0 W W' : World} {n cg kb m r : Nat} {kv : Int} {c : Nat → Nat} {ds : List Nat} (h : L3 W0 W n cg kb kv m r c ds) (hb : Below W.heap.size W W') : L3 W0 W' n cg kb kv m r c ds :=
  ⟨h.B.trans (hb.mono (by have := h.B.size; have := h.z; omega)), h.z, h.C.of_block (hb.block _ h.C.lt), (hb.block _ h.CB.lt).trans h.CB, (hb.block _ h.RB.lt).trans h.RB, (hb.block _ h.KB.lt).trans h.KB, h.kb, h.M.below hb (Nat.le_refl _)⟩
/-- The count of a size is stored, and what it leaves. -/
theorem L3.found {W0 W : World} {n cg kb m r j q : Nat} {kv : Int} {c : Nat → Nat} {ds : List Nat} (h : L3 W0 W n cg kb kv (m + 1) r c ds) : L3 W0 ((W.setCell ⟨cg, m, none⟩ (.int .i64 (j : Int))).setCell ⟨cg + 2, 0, none⟩ (.int .i64 (q : Int))) n cg kb kv m q (fun i => if i = m then j else c i) ds := by
  have hkb := h.kb
  obtain ⟨cc, ct, hcc, hcn⟩ := h.C
  have hM1 := h.M.setCell hcc (.int .i64 (j : Int)) (i := m)
  have hRB1 : Blk (W.setCell ⟨cg, m, none⟩ (.int .i64 (j : Int))) (cg + 2) 3 #[.int .i64 (r : Int)] := (Below.heap_setCell _ _ _ _ (by show cg + 2 ≠ cg; omega)).trans h.RB
  refine ⟨(h.B.setCell (p := ⟨cg, m, none⟩) (Nat.le_refl _) _).setCell (p := ⟨cg + 2, 0, none⟩) (by show cg ≤ cg + 2; omega) _, h.z, ?_, ?_, ?_, ?_, h.kb, hM1.setCell hRB1 _⟩
  · refine ((h.C.set m (.int .i64 (j : Int))).setOther (by show cg ≠ cg + 2; omega) _).congr fun i hi => ?_
    by_cases e : i = m
    · subst e; rw [if_pos rfl, if_pos (Nat.le_refl _), if_pos rfl]
    · rw [if_neg e]
      by_cases e2 : m ≤ i
      · rw [if_pos (by omega), if_pos e2, if_neg e]
      · rw [if_neg (by omega), if_neg e2]
  · exact (Below.heap_setCell _ _ _ _ (by show cg + 1 ≠ cg + 2; omega)).trans ((Below.heap_setCell _ _ _ _ (by show cg + 1 ≠ cg; omega)).trans h.CB)
  · exact hRB1.set_ 0 _
  · exact (Below.heap_setCell _ _ _ _ (by show kb ≠ cg + 2; omega)).trans ((Below.heap_setCell _ _ _ _ (by show kb ≠ cg; omega)).trans h.KB)
end Go.Proofs.Ytlfeoofchebbkaa
