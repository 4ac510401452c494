/- For open: what a right task is; a whole row written anew. -/
import Derived.Test.YtefjhhgfkdkfaaaExa
namespace Go.Proofs.Ytefjhhgfkdkfaaa
set_option linter.unusedSimpArgs false
set_option linter.unusedVariables false
open Go.RowKit
theorem lst_in {f : Fnt} {zs : List Int} {sp : Bool} (h : lstErr f zs sp = 0) : InF f zs ∧ ∀ j, j < zs.length → spB f (gz zs j) = sp := by
  have h0 : ∀ j, j < zs.length → srtErr f (gz zs j) sp = 0 := fstE_zero (g := fun j => srtErr f (gz zs j) sp) h
  refine ⟨fun j hj => ?_, fun j hj => ?_⟩
  · have := h0 j hj
    unfold srtErr at this
    split at this
    · omega
    · rename_i hw
      simp [win] at hw
      omega
  · have := h0 j hj
    unfold srtErr at this
    split at this
    · omega
    · split at this
      · assumption
      · omega
/-- A right task. -/
structure TkOk (t : Tsk) : Prop where
  f : (fnErr t.f).2 = 0
  k : (spl t.f.sorts t.f.sorts.length).length ≤ 8
  c : CsOk t.f.sorts.length t.cs
  i12 : t.ind.length ≤ 12
  iIn : InF t.f t.ind
  iSp : ∀ j, j < t.ind.length → spB t.f (gz t.ind j) = true
  w30 : t.words.length ≤ 30
  wd : ∀ k, k < t.words.length → 1 ≤ (gl t.words k).length ∧ (gl t.words k).length ≤ 60 ∧ InF t.f (gl t.words k) ∧ ∀ j, j < (gl t.words k).length → spB t.f (gz (gl t.words k) j) = false
  all : t.ind.length + sumL t.words t.words.length ≤ 200
  me : 1 ≤ t.me ∧ t.me ≤ 1000000
theorem tk_ok {t : Tsk} (h : tkErr t = 0) : TkOk t := by
  unfold tkErr at h
  split at h
  · omega
  rename_i hf
  split at h
  · omega
  rename_i hk
  split at h
  · omega
  rename_i hc
  unfold tk1 at h
  split at h
  · omega
  rename_i hi
  split at h
  · omega
  rename_i hl
  unfold tk2 at h
  split at h
  · omega
  rename_i hw
  split at h
  · omega
  rename_i hws
  unfold tk3 at h
  split at h
  · omega
  rename_i hall
  split at h
  · omega
  rename_i hme
  have hl2 := lst_in (Classical.not_not.1 hl)
  have hw2 : ∀ k, k < t.words.length → wdErr t.f (gl t.words k) = 0 := fstE_zero (g := fun j => wdErr t.f (gl t.words j)) (Classical.not_not.1 hws)
  refine ⟨Classical.not_not.1 hf, ?_, cnt_ok (Classical.not_not.1 hc), by omega, hl2.1, hl2.2, by omega, fun k hk => ?_, by omega, ?_⟩
  · have := Classical.not_not.1 hk
    unfold kiErr at this
    split at this
    · omega
    · omega
  · have := hw2 k hk
    unfold wdErr at this
    split at this
    · omega
    split at this
    · omega
    obtain ⟨h1, h2⟩ := lst_in this
    exact ⟨by omega, by omega, h1, h2⟩
  · simp [win] at hme
    omega
theorem setRow_size (W : World) (g : Nat) (cs : Array Value) : (W.setRow g cs).heap.size = W.heap.size := by simp [World.setRow]
theorem setRow_ne (W : World) (g : Nat) (cs : Array Value) {k : Nat} (h : k ≠ g) : (W.setRow g cs).heap[k]? = W.heap[k]? := by
  simp only [World.setRow, Array.getElem?_modify]
  rw [if_neg (fun e => h e.symm)]
theorem Blk.row {W : World} {g : Nat} {t : TypeId} {old : Array Value} (h : Blk W g t old) (cs : Array Value) : Blk (W.setRow g cs) g t cs := setRow_heap W g old cs t (0, 0) h
theorem Blk.row_ne {W : World} {g k : Nat} {t : TypeId} {old : Array Value} (h : Blk W k t old) (cs : Array Value) (hne : k ≠ g) : Blk (W.setRow g cs) k t old := (setRow_ne W g cs hne).trans h
theorem Below.row {B : Nat} {w W : World} (h : Below B w W) {g : Nat} (hg : B ≤ g) (cs : Array Value) : Below B w (W.setRow g cs) :=
  ⟨h.os, h.tape, h.output, by rw [setRow_size]; exact h.size, fun k hk => (setRow_ne W g cs (by omega)).trans (h.block k hk)⟩
theorem grown_row (W : World) (g : Nat) (cs : Array Value) : W.grownBy (W.setRow g cs) (some g) :=
  ⟨rfl, rfl, rfl, by rw [setRow_size]; exact Nat.le_refl _, fun k hk hne => setRow_ne W g cs (fun e => hne (by rw [e]))⟩
/-- Where a store stands. -/
theorem at_store {ops : Array Oper} {rest : List Oper} {a : Act} {Q : Exit → Act → World → Prop} {P : Program} {w : World} {d : Option Tmp} {t : TypeId} {x v : Operand} {ty : TypeId} {pos : String} {af : Array Edge} {g : Option (Nat × Bool)}
    (h : wpList P ops Q ({ dst := d, op := .store t x v, type := ty, pos := pos, after := af, guard := g } :: rest) a w) : wpList P ops Q ({ dst := d, op := .store t x v, type := ty, pos := pos, after := af, guard := g } :: rest) a w := h
/-- The indent ahead of the words, as a row of lists. -/
theorem LV.cons {W : World} {B : Nat} {z : List Int} {vz : Value} {ls : List (List Int)} {hs : Nat → Value} {v : Value} (hz : IV W z vz) (hl : ∀ i, i < ls.length → IV W (gl ls i) (hs i))
    (h : W.ownsRow B 30 1 v (1 + ls.length) ([vz] ++ (List.range ls.length).map hs)) (hm : ls.length ≤ 1000) : LV W (z :: ls) v := by
  refine ⟨fun j => if j = 0 then vz else hs (j - 1), ?_, fun i hi => ?_⟩
  · rcases h.2 with ⟨_, h0⟩ | ⟨g, cap, cur, e, hB, hh, h1, h2, h3, h4⟩
    · omega
    · subst e
      have hb : Blk W g 30 cur := hh
      refine ⟨some ⟨g, 0, none⟩, g, 0, cap, by rw [List.length_cons, Nat.add_comm], fun _ => ⟨rfl, hb.lt⟩, fun j hj => ?_, by rw [List.length_cons]; omega, by simp only [maxLen] at h2; omega⟩
      simp only [List.length_cons, Nat.mul_one] at hj
      rw [hb.cell (0 + j), Nat.zero_add]
      have hjl : j < cur.size := by omega
      have h5 : (cur.toList.take ((1 + ls.length) * 1))[j]? = ([vz] ++ (List.range ls.length).map hs)[j]? := by rw [h4]
      rw [List.getElem?_take, if_pos (by omega), Array.getElem?_toList] at h5
      rw [h5]
      rcases j with _ | j
      · rfl
      · rw [List.getElem?_append_right (by simp)]
        simp only [List.length_cons, List.length_nil, Nat.zero_add, Nat.add_sub_cancel]
        rw [List.getElem?_map, List.getElem?_range (by omega)]
        simp
  · rcases i with _ | i
    · exact hz
    · have : i < ls.length := by simp at hi; omega
      have h5 := hl i this
      simp only [Nat.add_sub_cancel, Nat.add_eq_zero_iff, Nat.one_ne_zero, and_false, if_false]
      exact h5
end Go.Proofs.Ytefjhhgfkdkfaaa
