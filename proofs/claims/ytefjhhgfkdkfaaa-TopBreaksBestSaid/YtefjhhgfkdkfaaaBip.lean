/- The best breaks with so many lines: plain (a round of steps), and rows of ways of the call's own. -/
import Derived.Test.YtefjhhgfkdkfaaaAsq
import Derived.Test.YtefjhhgfkdkfaaaCpw
namespace Go.Proofs.Ytefjhhgfkdkfaaa
set_option linter.unusedSimpArgs false
set_option linter.unusedVariables false
open Go.RowKit
/-- One step tried. -/
def nxf (p : Nat → Nat) (h : Nat → Nat × Int) (s : Nat × Nat × Nat) : Nat → Nat × Int :=
  if p s.1 < ML ∧ p s.1 + s.2.2 < (h s.2.1).1 then fun x => if x = s.2.1 then (p s.1 + s.2.2, (s.1 : Int)) else h x else h
def allS (t : Tb) (N : Nat) : Nat → List (Nat × Nat × Nat)
  | 0 => []
  | k + 1 => allS t N k ++ stl t k (stp t k (N - 1 - k))
theorem stp_nodup (t : Tb) (i : Nat) : ∀ m, (stp t i m).Nodup
  | 0 => List.nodup_nil
  | m + 1 => by
    have ih := stp_nodup t i m
    unfold stp
    split
    · refine List.nodup_append.2 ⟨ih, by simp, fun x hx y hy e => ?_⟩
      rw [List.mem_singleton.1 hy] at e
      rw [e] at hx
      have := stp_mem.1 hx
      omega
    · exact ih
theorem fold_row {t : Tb} {p : Nat → Nat} {k : Nat} : ∀ (js : List Nat) (h : Nat → Nat × Int), js.Nodup → ∀ x,
    (List.foldl (nxf p) h (stl t k js)) x = if x ∈ js then (if p k < ML ∧ p k + (t k x).getD 0 < (h x).1 then (p k + (t k x).getD 0, (k : Int)) else h x) else h x
  | [], h, _, x => by simp [stl]
  | j :: js, h, hn, x => by
    obtain ⟨h1, h2⟩ := List.nodup_cons.1 hn
    have e : stl t k (j :: js) = (k, j, (t k j).getD 0) :: stl t k js := rfl
    rw [e, List.foldl_cons, fold_row js _ h2 x]
    by_cases ex : x = j
    · subst ex
      rw [if_neg h1, if_pos List.mem_cons_self]
      unfold nxf
      split
      · exact if_pos rfl
      · rfl
    · have e2 : (nxf p h (k, j, (t k j).getD 0)) x = h x := by
        unfold nxf
        split
        · exact if_neg ex
        · rfl
      rw [e2]
      by_cases hm : x ∈ js
      · rw [if_pos hm, if_pos (List.mem_cons_of_mem _ hm)]
      · rw [if_neg hm, if_neg (by simp [ex, hm])]
theorem fold_inS {t : Tb} {p : Nat → Nat} {N D k : Nat} (ht : TbOk t N D) {h : Nat → Nat × Int} (he : ∀ x, x < N → h x = inS t p k x) (hk : k < N) : ∀ x, x < N → (List.foldl (nxf p) h (stl t k (stp t k (N - 1 - k)))) x = inS t p (k + 1) x := fun x hx => by
  rw [fold_row _ _ (stp_nodup t k _) x]
  show _ = (match t k x with | none => inS t p k x | some d => if p k < ML ∧ p k + d < (inS t p k x).1 then (p k + d, (k : Int)) else inS t p k x)
  cases hd : t k x with
  | none =>
    rw [if_neg (fun hm => by have := (stp_mem.1 hm).2.2; rw [hd] at this; cases this)]
    exact he x hx
  | some d =>
    have := ht.up hd
    rw [if_pos (stp_mem.2 ⟨this.1, by omega, by rw [hd]; rfl⟩), he x hx]
    rfl
theorem fold_all {t : Tb} {p : Nat → Nat} {N D : Nat} (ht : TbOk t N D) {h : Nat → Nat × Int} (he : ∀ x, x < N → h x = (ML, -1)) : ∀ k, k ≤ N → ∀ x, x < N → (List.foldl (nxf p) h (allS t N k)) x = inS t p k x
  | 0, _, x, hx => he x hx
  | k + 1, hk, x, hx => by
    show (List.foldl (nxf p) h (allS t N k ++ stl t k (stp t k (N - 1 - k)))) x = _
    rw [List.foldl_append]
    exact fold_inS ht (fun y hy => fold_all ht he k (by omega) y hy) (by omega) x hx
theorem allS_len {t : Tb} {N : Nat} (hN : N ≤ 300) : ∀ k, k ≤ N → (allS t N k).length ≤ k * 300
  | 0, _ => Nat.le_refl _
  | k + 1, hk => by
    have h1 := allS_len (t := t) hN k (by omega)
    have h2 := stp_len t k (N - 1 - k)
    have e : allS t N (k + 1) = allS t N k ++ stl t k (stp t k (N - 1 - k)) := rfl
    rw [e, List.length_append, stl, List.length_map]
    omega
/-- All steps are lines of the table. -/
theorem allS_mem {t : Tb} {N D : Nat} (ht : TbOk t N D) : ∀ k, k ≤ N → ∀ s, s ∈ allS t N k → s.1 < s.2.1 ∧ s.2.1 < N ∧ s.2.2 ≤ D
  | 0, _, s, h => by cases h
  | k + 1, hk, s, h => by
    have e : allS t N (k + 1) = allS t N k ++ stl t k (stp t k (N - 1 - k)) := rfl
    rw [e] at h
    rcases List.mem_append.1 h with h | h
    · exact allS_mem ht k (by omega) s h
    · obtain ⟨j, hj, rfl⟩ := List.mem_map.1 h
      obtain ⟨d, hd⟩ := Option.isSome_iff_exists.1 (stp_mem.1 hj).2.2
      have := ht.up hd
      exact ⟨this.1, this.2.1, by show (t k j).getD 0 ≤ D; rw [hd]; exact this.2.2⟩
def gst (l : List (Nat × Nat × Nat)) (q : Nat) : Nat × Nat × Nat := l.getD q (0, 0, 0)
theorem fold_take {p : Nat → Nat} {h : Nat → Nat × Int} {l : List (Nat × Nat × Nat)} {q : Nat} (hq : q < l.length) : List.foldl (nxf p) h (l.take (q + 1)) = nxf p (List.foldl (nxf p) h (l.take q)) (gst l q) := by
  have e : l.take (q + 1) = l.take q ++ [gst l q] := by
    rw [List.take_add_one, List.getElem?_eq_getElem hq, gst, List.getD_eq_getElem?_getD, List.getElem?_eq_getElem hq]; rfl
  rw [e, List.foldl_append]
  rfl
theorem stc_get : ∀ (l : List (Nat × Nat × Nat)) (q : Nat), q < l.length → (stc l)[q * 3]? = some (.int .i64 ((gst l q).1 : Int)) ∧ (stc l)[q * 3 + 1]? = some (.int .i64 ((gst l q).2.1 : Int)) ∧ (stc l)[q * 3 + 2]? = some (.int .i64 ((gst l q).2.2 : Int))
  | [], q, h => by simp at h
  | p :: l, 0, _ => ⟨rfl, rfl, rfl⟩
  | p :: l, q + 1, h => by
    have e : stc (p :: l) = .int .i64 (p.1 : Int) :: .int .i64 (p.2.1 : Int) :: .int .i64 (p.2.2 : Int) :: stc l := rfl
    have ih := stc_get l q (by simpa using h)
    rw [e, show (q + 1) * 3 = q * 3 + 1 + 1 + 1 by omega, show q * 3 + 1 + 1 + 1 + 1 = (q * 3 + 1) + 1 + 1 + 1 by omega, show q * 3 + 1 + 1 + 1 + 2 = (q * 3 + 2) + 1 + 1 + 1 by omega]
    simpa [gst] using ih
theorem SO.at {W : World} {B : Nat} {l : List (Nat × Nat × Nat)} {A : Option Addr} {c q : Nat} (h : SO W B l (.slice A l.length c)) (hq : q < l.length) :
    ∃ g, A = some ⟨g, 0, none⟩ ∧ g < W.heap.size ∧ W.cell? ⟨g, q * 3, none⟩ = some (.int .i64 ((gst l q).1 : Int)) ∧ W.cell? ⟨g, q * 3 + 1, none⟩ = some (.int .i64 ((gst l q).2.1 : Int)) ∧ W.cell? ⟨g, q * 3 + 2, none⟩ = some (.int .i64 ((gst l q).2.2 : Int)) := by
  obtain ⟨A', b, off, c', he, h1, h2, h3⟩ := rv_of_own h (stc_len l)
  injection he with e1 e2 e3
  subst e1
  obtain ⟨rfl, hb⟩ := h1 (by omega)
  have hoff : off = 0 := by
    rcases h.2 with ⟨hh, _⟩ | ⟨g, cap, cur, hh, _⟩
    · cases hh
    · injection hh with hh; injection hh with hh; injection hh
  subst hoff
  have hg := stc_get l q hq
  refine ⟨b, rfl, hb, ?_, ?_, ?_⟩
  · have := h2 (q * 3) (by omega)
    dsimp only at this
    rw [Nat.zero_add, List.getD_eq_getElem?_getD, hg.1] at this
    exact this
  · have := h2 (q * 3 + 1) (by omega)
    dsimp only at this
    rw [Nat.zero_add, List.getD_eq_getElem?_getD, hg.2.1] at this
    exact this
  · have := h2 (q * 3 + 2) (by omega)
    dsimp only at this
    rw [Nat.zero_add, List.getD_eq_getElem?_getD, hg.2.2] at this
    exact this
/-- A row of n ways of the call's own. -/
def WG (W : World) (B : Nat) (v : Value) (n : Nat) (h : Nat → Nat × Int) : Prop := ∃ g c, v = .slice (some ⟨g, 0, none⟩) n c ∧ B ≤ g ∧ (∃ cur, W.heap[g]? = some (.cells cur 106 (0, 0)) ∧ n * 2 ≤ cur.size ∧ ∀ j, j < n * 2 → cur[j]? = (wcl h n)[j]?)
theorem WG.below {W W' : World} {B n : Nat} {v : Value} {h : Nat → Nat × Int} (s : WG W B v n h) (hb : Below W.heap.size W W') : WG W' B v n h := by
  obtain ⟨g, c, rfl, hB, cur, h1, h2, h3⟩ := s
  exact ⟨g, c, rfl, hB, cur, (hb.block g (Array.getElem?_eq_some_iff.1 h1).1).trans h1, h2, h3⟩
theorem WG.congr {W : World} {B n : Nat} {v : Value} {h h' : Nat → Nat × Int} (s : WG W B v n h) (e : ∀ j, j < n → h j = h' j) : WG W B v n h' := by
  obtain ⟨g, c, rfl, hB, cur, h1, h2, h3⟩ := s
  exact ⟨g, c, rfl, hB, cur, h1, h2, by rw [← wcl_congr n e]; exact h3⟩
theorem WG.base {W : World} {B B' n : Nat} {v : Value} {h : Nat → Nat × Int} (s : WG W B v n h) (hB : B' ≤ B) : WG W B' v n h := by
  obtain ⟨g, c, rfl, h0, h1⟩ := s
  exact ⟨g, c, rfl, Nat.le_trans hB h0, h1⟩
theorem WG.kept {W W' : World} {B n : Nat} {v : Value} {h : Nat → Nat × Int} {row : Option Nat} (s : WG W B v n h) (hg : W.grownBy W' row) (hne : v.ownBlock ≠ row) : WG W' B v n h := by
  obtain ⟨g, c, rfl, hB, cur, h1, h2, h3⟩ := s
  exact ⟨g, c, rfl, hB, cur, (hg.block g (Array.getElem?_eq_some_iff.1 h1).1 hne).trans h1, h2, h3⟩
theorem WG.cells {W : World} {B n g c : Nat} {h : Nat → Nat × Int} (s : WG W B (.slice (some ⟨g, 0, none⟩) n c) n h) {j : Nat} (hj : j < n) :
    W.cell? ⟨g, j * 2, none⟩ = some (.int .i64 (h j).2) ∧ W.cell? ⟨g, j * 2 + 1, none⟩ = some (.int .i64 ((h j).1 : Int)) := by
  obtain ⟨g', c', he, hB, cur, h1, h2, h3⟩ := s
  injection he with e1 e2 e3
  injection e1 with e1
  injection e1 with e1
  subst e1
  have hg := wcl_get h n j hj
  have hb : Blk W g 106 cur := h1
  exact ⟨by rw [hb.cell, h3 _ (by omega)]; exact hg.1, by rw [hb.cell, h3 _ (by omega)]; exact hg.2⟩
theorem WG.blk {W : World} {B n g c : Nat} {h : Nat → Nat × Int} (s : WG W B (.slice (some ⟨g, 0, none⟩) n c) n h) : g < W.heap.size ∧ B ≤ g ∧ (∀ i, W.frozen? ⟨g, i, none⟩ = false) ∧ ∃ cur, W.heap[g]? = some (.cells cur 106 (0, 0)) := by
  obtain ⟨g', c', he, hB, cur, h1, h2, h3⟩ := s
  injection he with e1 e2 e3
  injection e1 with e1
  injection e1 with e1
  subst e1
  have hb : Blk W g 106 cur := h1
  exact ⟨hb.lt, hB, fun i => hb.frozen i, cur, h1⟩
theorem WG.put {W : World} {B n g c : Nat} {h : Nat → Nat × Int} (s : WG W B (.slice (some ⟨g, 0, none⟩) n c) n h) {j : Nat} (hj : j < n) (x : Nat × Int) :
    WG ((W.setCell ⟨g, j * 2, none⟩ (.int .i64 x.2)).setCell ⟨g, j * 2 + 1, none⟩ (.int .i64 (x.1 : Int))) B (.slice (some ⟨g, 0, none⟩) n c) n (fun i => if i = j then x else h i) := by
  obtain ⟨g', c', he, hB, cur, h1, h2, h3⟩ := s
  injection he with e1 e2 e3
  injection e1 with e1
  injection e1 with e1
  subst e1
  have hb : Blk W g 106 cur := h1
  have h4 := Blk.set_ (Blk.set_ hb (j * 2) (.int .i64 x.2)) (j * 2 + 1) (.int .i64 (x.1 : Int))
  refine ⟨g, c, rfl, hB, _, h4, by simpa using h2, fun i hi => ?_⟩
  rw [← wcl_set h x n j hj]
  by_cases e2 : i = j * 2 + 1
  · subst e2
    rw [Array.getElem?_setIfInBounds, if_pos rfl, if_pos (by simp; omega), List.getElem?_set_self (by rw [List.length_set, wcl_len]; omega)]
  · rw [Array.getElem?_setIfInBounds, if_neg (fun e => e2 e.symm), List.getElem?_set_ne (fun e => e2 e.symm)]
    by_cases e3 : i = j * 2
    · subst e3
      rw [Array.getElem?_setIfInBounds, if_pos rfl, if_pos (by omega), List.getElem?_set_self (by rw [wcl_len]; omega)]
    · rw [Array.getElem?_setIfInBounds, if_neg (fun e => e3 e.symm), List.getElem?_set_ne (fun e => e3 e.symm)]
      exact h3 i hi
theorem WG.of_own {W : World} {B n : Nat} {v : Value} {h : Nat → Nat × Int} (hn : 0 < n) (s : W.ownsRow B 106 2 v n (wcl h n)) : WG W B v n h := by
  rcases s.2 with ⟨_, h0⟩ | ⟨g, cap, cur, rfl, hB, hh, hc, _, hs, ht⟩
  · omega
  · refine ⟨g, cap, rfl, hB, cur, hh, by omega, fun j hj => ?_⟩
    rw [← ht, List.getElem?_take, if_pos hj, Array.getElem?_toList]
theorem wcl_one (h : Nat → Nat × Int) : ∀ n, ∀ u ∈ wcl h n, u.oneCell' = true
  | 0, u, hu => by cases hu
  | n + 1, u, hu => by
    simp only [wcl] at hu
    rcases List.mem_append.1 hu with hu | hu
    · exact wcl_one h n u hu
    · simp only [List.mem_cons, List.not_mem_nil, or_false] at hu
      rcases hu with rfl | rfl <;> rfl
def ClwPost (w : World) (n : Nat) (h : Nat → Nat × Int) (e : Ending) (w' : World) : Prop := ∃ v, e = .returned v ∧ WG w' w.heap.size v n h ∧ Below w.heap.size w w'
set_option maxRecDepth 100000 in
theorem cloneW_any (g n : Nat) (h : Nat → Nat × Int) (w : World) (hr : WR w g n h) (h0 : 0 < n) (hn : n ≤ 1000000) : Calls Try.prog 47 #[.slice (some ⟨g, 0, none⟩) n n] w (ClwPost w n h) := by
  have HP : Hid (∀ v w', w'.ownsRow w.heap.size 106 2 v n (wcl h n) → Below w.heap.size w w' → ClwPost w n h (.returned v) w') := (show ∀ v w', _ from fun v w' h hb => ⟨v, rfl, WG.of_own h0 h, hb⟩)
  obtain ⟨i0, hi0, hz0, hz1, hz2⟩ := info_parts info106
  have hl : Lies (some ⟨g, 0, none⟩) n w.heap.size g 0 := fun _ => ⟨rfl, Blk.lt hr⟩
  have HH : Hid (∀ j, j < n * 2 → w.cell? ⟨g, 0 + j, none⟩ = (wcl h n)[j]?) := (show ∀ j, _ from fun j hj => by rw [Blk.cell hr, List.getElem?_toArray, Nat.zero_add])
  have heq : ∀ W, (binOp .eql 103 (.slice (some ⟨g, 0, none⟩) n n) (.slice none 0 0)).run Try.prog W = .ok (.bool false) W := fun W => by
    have := Lib.run_eql_slice_nil W 103 106 (some ⟨g, 0, none⟩) n n 0 0 Try.underlying103
    simpa using this
  have HL := Lib.hid (wcl_len h n)
  have HO1 := Lib.hid (wcl_one h n)
  clear hr
  go_enter Try.func47, Try.ntmps47
  go_wp2_with ((at_builtin
                refine wpList_copy rfl (.tmp 5) (.tmp 6) 103 rfl 106 i0 _ 2 16 Try.underlying103 hi0 hz0 hz1 hz2 rfl (by omega) rfl rfl (some ⟨g, 0, none⟩) g 0 n n _ rfl HL.out hl HH.out HO1.out (by simp only [maxLen]; omega) (by omega) ?_
                intro v1 w1 hown1 hg1
                have HO := Lib.hid hown1
                have HG := Lib.hid hg1
                clear hown1 hg1))
  go_ret
  exact HP.out _ _ HO.out HG.out
end Go.Proofs.Ytefjhhgfkdkfaaa
