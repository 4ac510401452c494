/- Three appends of one statement, in whatever order. -/
import Derived.Test.YtlfeoofchebbkaaApt
namespace Go.Proofs.Ytlfeoofchebbkaa
set_option linter.unusedSimpArgs false
set_option linter.unusedVariables false
open Go.RowKit
theorem put_sort (a : Act) (d d' : Nat) (v v' : Value) (h : d' < d) : (a.put (some d) v).put (some d') v' = (a.put (some d') v').put (some d) v := by
  simp only [Act.put]
  congr 1
  exact Array.setIfInBounds_comm _ _ (by omega)
theorem set_sort (l : Array Bool) (i j : Nat) (b c : Bool) (h : j < i) : (l.setIfInBounds i b).setIfInBounds j c = (l.setIfInBounds j c).setIfInBounds i b := Array.setIfInBounds_comm _ _ (by omega)
theorem ev_ne (a : Act) (d t : Nat) (v : Value) (h : d ≠ t) : (a.put (some d) v).eval (.tmp t) = a.eval (.tmp t) := by
  simp [Act.put, Act.eval, Array.getD_eq_getD_getElem?, h]
theorem ev_eq (a : Act) (d : Nat) (v : Value) (h : d < a.tmps.size) : (a.put (some d) v).eval (.tmp d) = v := by
  simp [Act.put, Act.eval, Array.getD_eq_getD_getElem?, h]
theorem put_size (a : Act) (d : Nat) (v : Value) : (a.put (some d) v).tmps.size = a.tmps.size := by simp [Act.put]
/-- The frame behind a name. -/
theorem wpG_abs {P : Program} {md : Region.Mode} {ops : Array Oper} {Q : Exit → Act → World → Prop} {S : World → Prop} {D : Array Bool → Act → World → Prop} {f : Nat} {ls : Array Bool} {a : Act} {w : World} (h : ∀ a0, a0 = a → wpG P md ops Q S D f ls a0 w) : wpG P md ops Q S D f ls a w := h a rfl
set_option maxHeartbeats 4000000 in
theorem app3A {ops : Array Oper} {Q : Exit → Act → World → Prop} {n : Nat} {L : Array Bool} (a0 : Act) (W0 : World) (base : Nat) (v1 v2 v3 pv bv : Value) (l1 l2 l3 : List Int) (x1 x2 x3 : Int) (S : World → Prop) (PB : Array Bool → Bool)
    (hS : ∀ W, Fr3 W0 W v1 v2 v3 → S W) (hbase : base ≤ W0.heap.size) (n1 : l1.length ≤ 100) (n2 : l2.length ≤ 100) (n3 : l3.length ≤ 100) (hsz : 81 < a0.tmps.size)
    (e1 : a0.eval (.tmp 68) = v1) (y1 : a0.eval (.tmp 69) = .int .i64 x1)
    (e2 : a0.eval (.tmp 73) = v2) (y2 : a0.eval (.tmp 74) = .int .i64 x2)
    (e3 : a0.eval (.tmp 78) = v3)
    (e7 : a0.eval (.tmp 7) = bv)
    (B1 : ∀ (a : Act) (W : World) (K : Act → World → Prop), a.eval (.tmp 69) = .int .i64 x1 → K (a.put (some 70) (.slice (some ⟨W.heap.size, 0, none⟩) 1 1)) (W.alloc (.cells #[.int .i64 x1] 3)) → wpOp Try.prog ops Q 3 K a W)
    (A1 : ∀ (a : Act) (W : World) (K : Act → World → Prop) (u : Value) (b : Nat) (l : List Int), a.eval (.tmp 68) = u → a.eval (.tmp 70) = .slice (some ⟨b, 0, none⟩) 1 1 → W.ownsRow base 3 1 u l.length (l.map (Value.int .i64)) → W.heap[b]? = some (.cells #[.int .i64 x1] 3 (0, 0)) → l.length ≤ 100 → base ≤ W.heap.size →
      (∀ (g cap : Nat) (w' : World), w'.ownsRow base 3 1 (.slice (some ⟨g, 0, none⟩) (l.length + 1) cap) (l.length + 1) (l.map (Value.int .i64) ++ [.int .i64 x1]) → W.grownBy w' u.ownBlock → (u.ownBlock = some g ∨ g = W.heap.size) → K (a.put (some 71) (.slice (some ⟨g, 0, none⟩) (l.length + 1) cap)) w') → wpOp Try.prog ops Q 4 K a W)
    (B2 : ∀ (a : Act) (W : World) (K : Act → World → Prop), a.eval (.tmp 74) = .int .i64 x2 → K (a.put (some 75) (.slice (some ⟨W.heap.size, 0, none⟩) 1 1)) (W.alloc (.cells #[.int .i64 x2] 3)) → wpOp Try.prog ops Q 8 K a W)
    (A2 : ∀ (a : Act) (W : World) (K : Act → World → Prop) (u : Value) (b : Nat) (l : List Int), a.eval (.tmp 73) = u → a.eval (.tmp 75) = .slice (some ⟨b, 0, none⟩) 1 1 → W.ownsRow base 3 1 u l.length (l.map (Value.int .i64)) → W.heap[b]? = some (.cells #[.int .i64 x2] 3 (0, 0)) → l.length ≤ 100 → base ≤ W.heap.size →
      (∀ (g cap : Nat) (w' : World), w'.ownsRow base 3 1 (.slice (some ⟨g, 0, none⟩) (l.length + 1) cap) (l.length + 1) (l.map (Value.int .i64) ++ [.int .i64 x2]) → W.grownBy w' u.ownBlock → (u.ownBlock = some g ∨ g = W.heap.size) → K (a.put (some 76) (.slice (some ⟨g, 0, none⟩) (l.length + 1) cap)) w') → wpOp Try.prog ops Q 9 K a W)
    (B3 : ∀ (a : Act) (W : World) (K : Act → World → Prop), True → K (a.put (some 79) (.slice (some ⟨W.heap.size, 0, none⟩) 1 1)) (W.alloc (.cells #[.int .i64 x3] 3)) → wpOp Try.prog ops Q 12 K a W)
    (A3 : ∀ (a : Act) (W : World) (K : Act → World → Prop) (u : Value) (b : Nat) (l : List Int), a.eval (.tmp 78) = u → a.eval (.tmp 79) = .slice (some ⟨b, 0, none⟩) 1 1 → W.ownsRow base 3 1 u l.length (l.map (Value.int .i64)) → W.heap[b]? = some (.cells #[.int .i64 x3] 3 (0, 0)) → l.length ≤ 100 → base ≤ W.heap.size →
      (∀ (g cap : Nat) (w' : World), w'.ownsRow base 3 1 (.slice (some ⟨g, 0, none⟩) (l.length + 1) cap) (l.length + 1) (l.map (Value.int .i64) ++ [.int .i64 x3]) → W.grownBy w' u.ownBlock → (u.ownBlock = some g ∨ g = W.heap.size) → K (a.put (some 80) (.slice (some ⟨g, 0, none⟩) (l.length + 1) cap)) w') → wpOp Try.prog ops Q 13 K a W)
    (PT : ∀ (f : Nat) (ls : Array Bool) (a : Act) (W : World), PB ls = true → a.eval (.tmp 7) = bv → S W → wpG Try.prog .any ops Q S (TailD Try.prog .any ops Q n) f (ls.setIfInBounds 14 true) (a.put (some 81) pv) W → wpG Try.prog .any ops Q S (TailD Try.prog .any ops Q n) (f + 1) ls a W)
    (r000_0 : Region.ready .any ops L = [3, 8, 12])
    (r001_0 : Region.ready .any ops (L.setIfInBounds 12 true) = [3, 8])
    (r010_0 : Region.ready .any ops (L.setIfInBounds 8 true) = [3, 12])
    (r011_0 : Region.ready .any ops ((L.setIfInBounds 8 true).setIfInBounds 12 true) = [3])
    (r100_0 : Region.ready .any ops (L.setIfInBounds 3 true) = [4, 8, 12])
    (r101_0 : Region.ready .any ops ((L.setIfInBounds 3 true).setIfInBounds 12 true) = [4, 8])
    (r110_0 : Region.ready .any ops ((L.setIfInBounds 3 true).setIfInBounds 8 true) = [4, 12])
    (r111_0 : Region.ready .any ops (((L.setIfInBounds 3 true).setIfInBounds 8 true).setIfInBounds 12 true) = [4])
    (r100_1 : Region.ready .any ops (((L.setIfInBounds 3 true).setIfInBounds 4 true).setIfInBounds 14 true) = [8, 12])
    (r101_1 : Region.ready .any ops ((((L.setIfInBounds 3 true).setIfInBounds 4 true).setIfInBounds 12 true).setIfInBounds 14 true) = [8])
    (r110_1 : Region.ready .any ops ((((L.setIfInBounds 3 true).setIfInBounds 4 true).setIfInBounds 8 true).setIfInBounds 14 true) = [9, 12])
    (r111_1 : Region.ready .any ops (((((L.setIfInBounds 3 true).setIfInBounds 4 true).setIfInBounds 8 true).setIfInBounds 12 true).setIfInBounds 14 true) = [9])
    (r110_2 : Region.ready .any ops (((((L.setIfInBounds 3 true).setIfInBounds 4 true).setIfInBounds 8 true).setIfInBounds 9 true).setIfInBounds 14 true) = [12])
    (r111_2 : Region.ready .any ops ((((((L.setIfInBounds 3 true).setIfInBounds 4 true).setIfInBounds 8 true).setIfInBounds 9 true).setIfInBounds 12 true).setIfInBounds 14 true) = [13])
    (hp00 : PB ((L.setIfInBounds 3 true).setIfInBounds 4 true) = true)
    (hp01 : PB (((L.setIfInBounds 3 true).setIfInBounds 4 true).setIfInBounds 12 true) = true)
    (hp10 : PB (((L.setIfInBounds 3 true).setIfInBounds 4 true).setIfInBounds 8 true) = true)
    (hp11 : PB ((((L.setIfInBounds 3 true).setIfInBounds 4 true).setIfInBounds 8 true).setIfInBounds 12 true) = true)
    (hK : ∀ (W : World) (u1 u2 u3 s1 s2 s3 : Value), Fr3 W0 W v1 v2 v3 → Rw W0 W base v1 u1 (l1 ++ [x1]) → Rw W0 W base v2 u2 (l2 ++ [x2]) → Rw W0 W base v3 u3 (l3 ++ [x3]) → (u1.ownBlock = none ∨ u1.ownBlock ≠ u2.ownBlock) → (u1.ownBlock = none ∨ u1.ownBlock ≠ u3.ownBlock) → (u2.ownBlock = none ∨ u2.ownBlock ≠ u3.ownBlock) → TailD Try.prog .any ops Q n (((((((L.setIfInBounds 3 true).setIfInBounds 4 true).setIfInBounds 8 true).setIfInBounds 9 true).setIfInBounds 12 true).setIfInBounds 13 true).setIfInBounds 14 true) (((((((a0.put (some 70) s1).put (some 71) u1).put (some 75) s2).put (some 76) u2).put (some 79) s3).put (some 80) u3).put (some 81) pv) W)
    (h0 : T3 W0 W0 base v1 v2 v3 v1 v2 v3 l1 l2 l3 false false false x1 x2 x3 undef undef undef) : wpG Try.prog .any ops Q S (TailD Try.prog .any ops Q n) 7 L a0 W0 := by
  have ps71_70 := fun (a : Act) (v v' : Value) => put_sort a 71 70 v v' (by decide)
  have ps75_70 := fun (a : Act) (v v' : Value) => put_sort a 75 70 v v' (by decide)
  have ps75_71 := fun (a : Act) (v v' : Value) => put_sort a 75 71 v v' (by decide)
  have ps76_70 := fun (a : Act) (v v' : Value) => put_sort a 76 70 v v' (by decide)
  have ps76_71 := fun (a : Act) (v v' : Value) => put_sort a 76 71 v v' (by decide)
  have ps76_75 := fun (a : Act) (v v' : Value) => put_sort a 76 75 v v' (by decide)
  have ps79_70 := fun (a : Act) (v v' : Value) => put_sort a 79 70 v v' (by decide)
  have ps79_71 := fun (a : Act) (v v' : Value) => put_sort a 79 71 v v' (by decide)
  have ps79_75 := fun (a : Act) (v v' : Value) => put_sort a 79 75 v v' (by decide)
  have ps79_76 := fun (a : Act) (v v' : Value) => put_sort a 79 76 v v' (by decide)
  have ps80_70 := fun (a : Act) (v v' : Value) => put_sort a 80 70 v v' (by decide)
  have ps80_71 := fun (a : Act) (v v' : Value) => put_sort a 80 71 v v' (by decide)
  have ps80_75 := fun (a : Act) (v v' : Value) => put_sort a 80 75 v v' (by decide)
  have ps80_76 := fun (a : Act) (v v' : Value) => put_sort a 80 76 v v' (by decide)
  have ps80_79 := fun (a : Act) (v v' : Value) => put_sort a 80 79 v v' (by decide)
  have ps81_70 := fun (a : Act) (v v' : Value) => put_sort a 81 70 v v' (by decide)
  have ps81_71 := fun (a : Act) (v v' : Value) => put_sort a 81 71 v v' (by decide)
  have ps81_75 := fun (a : Act) (v v' : Value) => put_sort a 81 75 v v' (by decide)
  have ps81_76 := fun (a : Act) (v v' : Value) => put_sort a 81 76 v v' (by decide)
  have ps81_79 := fun (a : Act) (v v' : Value) => put_sort a 81 79 v v' (by decide)
  have ps81_80 := fun (a : Act) (v v' : Value) => put_sort a 81 80 v v' (by decide)
  have ss4_3 := fun (l : Array Bool) => set_sort l 4 3 true true (by decide)
  have ss8_3 := fun (l : Array Bool) => set_sort l 8 3 true true (by decide)
  have ss8_4 := fun (l : Array Bool) => set_sort l 8 4 true true (by decide)
  have ss9_3 := fun (l : Array Bool) => set_sort l 9 3 true true (by decide)
  have ss9_4 := fun (l : Array Bool) => set_sort l 9 4 true true (by decide)
  have ss9_8 := fun (l : Array Bool) => set_sort l 9 8 true true (by decide)
  have ss12_3 := fun (l : Array Bool) => set_sort l 12 3 true true (by decide)
  have ss12_4 := fun (l : Array Bool) => set_sort l 12 4 true true (by decide)
  have ss12_8 := fun (l : Array Bool) => set_sort l 12 8 true true (by decide)
  have ss12_9 := fun (l : Array Bool) => set_sort l 12 9 true true (by decide)
  have ss13_3 := fun (l : Array Bool) => set_sort l 13 3 true true (by decide)
  have ss13_4 := fun (l : Array Bool) => set_sort l 13 4 true true (by decide)
  have ss13_8 := fun (l : Array Bool) => set_sort l 13 8 true true (by decide)
  have ss13_9 := fun (l : Array Bool) => set_sort l 13 9 true true (by decide)
  have ss13_12 := fun (l : Array Bool) => set_sort l 13 12 true true (by decide)
  have ss14_3 := fun (l : Array Bool) => set_sort l 14 3 true true (by decide)
  have ss14_4 := fun (l : Array Bool) => set_sort l 14 4 true true (by decide)
  have ss14_8 := fun (l : Array Bool) => set_sort l 14 8 true true (by decide)
  have ss14_9 := fun (l : Array Bool) => set_sort l 14 9 true true (by decide)
  have ss14_12 := fun (l : Array Bool) => set_sort l 14 12 true true (by decide)
  have ss14_13 := fun (l : Array Bool) => set_sort l 14 13 true true (by decide)
  have hz70 : 70 < a0.tmps.size := by omega
  have hz75 : 75 < a0.tmps.size := by omega
  have hz79 : 79 < a0.tmps.size := by omega
  have st111_3 : ∀ (W : World) (u1 u2 u3 s1 s2 s3 : Value), T3 W0 W base v1 v2 v3 u1 u2 u3 (l1 ++ [x1]) (l2 ++ [x2]) (l3 ++ [x3]) false false false x1 x2 x3 s1 s2 s3 → wpG Try.prog .any ops Q S (TailD Try.prog .any ops Q n) 0 (((((((L.setIfInBounds 3 true).setIfInBounds 4 true).setIfInBounds 8 true).setIfInBounds 9 true).setIfInBounds 12 true).setIfInBounds 13 true).setIfInBounds 14 true) (((((((a0.put (some 70) s1).put (some 71) u1).put (some 75) s2).put (some 76) u2).put (some 79) s3).put (some 80) u3).put (some 81) pv) W := by
    intro W u1 u2 u3 s1 s2 s3 h
    exact hK W u1 u2 u3 s1 s2 s3 h.fr h.r1 h.r2 h.r3 h.d12 h.d13 h.d23
  have st111_2 : ∀ (W : World) (u1 u2 s1 s2 s3 : Value), T3 W0 W base v1 v2 v3 u1 u2 v3 (l1 ++ [x1]) (l2 ++ [x2]) l3 false false true x1 x2 x3 s1 s2 s3 → wpG Try.prog .any ops Q S (TailD Try.prog .any ops Q n) 1 ((((((L.setIfInBounds 3 true).setIfInBounds 4 true).setIfInBounds 8 true).setIfInBounds 9 true).setIfInBounds 12 true).setIfInBounds 14 true) ((((((a0.put (some 70) s1).put (some 71) u1).put (some 75) s2).put (some 76) u2).put (some 79) s3).put (some 81) pv) W := by
    intro W u1 u2 s1 s2 s3 h
    refine wpG_all r111_2 (by simp) ?_
    intro i hi
    obtain rfl : i = 13 := by simpa using hi
    obtain ⟨b, hb1, hb2, -⟩ := h.w3 rfl
    refine A3 _ _ _ _ b l3 (by (try simp only [ev_ne, ev_eq, put_size, ne_eq, Nat.reduceEqDiff, not_false_eq_true, hz70, hz75, hz79]); exact e3) (by (try simp only [ev_ne, ev_eq, put_size, ne_eq, Nat.reduceEqDiff, not_false_eq_true, hz70, hz75, hz79]); exact hb1) h.r3.own hb2 n3 (Nat.le_trans hbase h.fr.size) ?_
    intro g cap w' hown hg hat
    have h' := h.a3 hown hg hat
    refine ⟨hS _ h'.fr, ?_⟩
    have q := st111_3 _ u1 u2 _ s1 s2 s3 h'
    (try simp only [ps71_70, ps75_70, ps75_71, ps76_70, ps76_71, ps76_75, ps79_70, ps79_71, ps79_75, ps79_76, ps80_70, ps80_71, ps80_75, ps80_76, ps80_79, ps81_70, ps81_71, ps81_75, ps81_76, ps81_79, ps81_80, ss4_3, ss8_3, ss8_4, ss9_3, ss9_4, ss9_8, ss12_3, ss12_4, ss12_8, ss12_9, ss13_3, ss13_4, ss13_8, ss13_9, ss13_12, ss14_3, ss14_4, ss14_8, ss14_9, ss14_12, ss14_13])
    exact q
  have st110_2 : ∀ (W : World) (u1 u2 s1 s2 : Value), T3 W0 W base v1 v2 v3 u1 u2 v3 (l1 ++ [x1]) (l2 ++ [x2]) l3 false false false x1 x2 x3 s1 s2 undef → wpG Try.prog .any ops Q S (TailD Try.prog .any ops Q n) 2 (((((L.setIfInBounds 3 true).setIfInBounds 4 true).setIfInBounds 8 true).setIfInBounds 9 true).setIfInBounds 14 true) (((((a0.put (some 70) s1).put (some 71) u1).put (some 75) s2).put (some 76) u2).put (some 81) pv) W := by
    intro W u1 u2 s1 s2 h
    refine wpG_all r110_2 (by simp) ?_
    intro i hi
    obtain rfl : i = 12 := by simpa using hi
    refine B3 _ _ _ trivial ⟨hS _ h.b3.fr, ?_⟩
    have q := st111_2 _ u1 u2 s1 s2 _ h.b3
    (try simp only [ps71_70, ps75_70, ps75_71, ps76_70, ps76_71, ps76_75, ps79_70, ps79_71, ps79_75, ps79_76, ps80_70, ps80_71, ps80_75, ps80_76, ps80_79, ps81_70, ps81_71, ps81_75, ps81_76, ps81_79, ps81_80, ss4_3, ss8_3, ss8_4, ss9_3, ss9_4, ss9_8, ss12_3, ss12_4, ss12_8, ss12_9, ss13_3, ss13_4, ss13_8, ss13_9, ss13_12, ss14_3, ss14_4, ss14_8, ss14_9, ss14_12, ss14_13])
    exact q
  have st111_1 : ∀ (W : World) (u1 s1 s2 s3 : Value), T3 W0 W base v1 v2 v3 u1 v2 v3 (l1 ++ [x1]) l2 l3 false true true x1 x2 x3 s1 s2 s3 → wpG Try.prog .any ops Q S (TailD Try.prog .any ops Q n) 2 (((((L.setIfInBounds 3 true).setIfInBounds 4 true).setIfInBounds 8 true).setIfInBounds 12 true).setIfInBounds 14 true) (((((a0.put (some 70) s1).put (some 71) u1).put (some 75) s2).put (some 79) s3).put (some 81) pv) W := by
    intro W u1 s1 s2 s3 h
    refine wpG_all r111_1 (by simp) ?_
    intro i hi
    obtain rfl : i = 9 := by simpa using hi
    obtain ⟨b, hb1, hb2, -⟩ := h.w2 rfl
    refine A2 _ _ _ _ b l2 (by (try simp only [ev_ne, ev_eq, put_size, ne_eq, Nat.reduceEqDiff, not_false_eq_true, hz70, hz75, hz79]); exact e2) (by (try simp only [ev_ne, ev_eq, put_size, ne_eq, Nat.reduceEqDiff, not_false_eq_true, hz70, hz75, hz79]); exact hb1) h.r2.own hb2 n2 (Nat.le_trans hbase h.fr.size) ?_
    intro g cap w' hown hg hat
    have h' := h.a2 hown hg hat
    refine ⟨hS _ h'.fr, ?_⟩
    have q := st111_2 _ u1 _ s1 s2 s3 h'
    (try simp only [ps71_70, ps75_70, ps75_71, ps76_70, ps76_71, ps76_75, ps79_70, ps79_71, ps79_75, ps79_76, ps80_70, ps80_71, ps80_75, ps80_76, ps80_79, ps81_70, ps81_71, ps81_75, ps81_76, ps81_79, ps81_80, ss4_3, ss8_3, ss8_4, ss9_3, ss9_4, ss9_8, ss12_3, ss12_4, ss12_8, ss12_9, ss13_3, ss13_4, ss13_8, ss13_9, ss13_12, ss14_3, ss14_4, ss14_8, ss14_9, ss14_12, ss14_13])
    exact q
  have st101_1 : ∀ (W : World) (u1 s1 s3 : Value), T3 W0 W base v1 v2 v3 u1 v2 v3 (l1 ++ [x1]) l2 l3 false false true x1 x2 x3 s1 undef s3 → wpG Try.prog .any ops Q S (TailD Try.prog .any ops Q n) 3 ((((L.setIfInBounds 3 true).setIfInBounds 4 true).setIfInBounds 12 true).setIfInBounds 14 true) ((((a0.put (some 70) s1).put (some 71) u1).put (some 79) s3).put (some 81) pv) W := by
    intro W u1 s1 s3 h
    refine wpG_all r101_1 (by simp) ?_
    intro i hi
    obtain rfl : i = 8 := by simpa using hi
    refine B2 _ _ _ (by (try simp only [ev_ne, ev_eq, put_size, ne_eq, Nat.reduceEqDiff, not_false_eq_true, hz70, hz75, hz79]); exact y2) ⟨hS _ h.b2.fr, ?_⟩
    have q := st111_1 _ u1 s1 _ s3 h.b2
    (try simp only [ps71_70, ps75_70, ps75_71, ps76_70, ps76_71, ps76_75, ps79_70, ps79_71, ps79_75, ps79_76, ps80_70, ps80_71, ps80_75, ps80_76, ps80_79, ps81_70, ps81_71, ps81_75, ps81_76, ps81_79, ps81_80, ss4_3, ss8_3, ss8_4, ss9_3, ss9_4, ss9_8, ss12_3, ss12_4, ss12_8, ss12_9, ss13_3, ss13_4, ss13_8, ss13_9, ss13_12, ss14_3, ss14_4, ss14_8, ss14_9, ss14_12, ss14_13])
    exact q
  have st110_1 : ∀ (W : World) (u1 s1 s2 : Value), T3 W0 W base v1 v2 v3 u1 v2 v3 (l1 ++ [x1]) l2 l3 false true false x1 x2 x3 s1 s2 undef → wpG Try.prog .any ops Q S (TailD Try.prog .any ops Q n) 3 ((((L.setIfInBounds 3 true).setIfInBounds 4 true).setIfInBounds 8 true).setIfInBounds 14 true) ((((a0.put (some 70) s1).put (some 71) u1).put (some 75) s2).put (some 81) pv) W := by
    intro W u1 s1 s2 h
    refine wpG_all r110_1 (by simp) ?_
    intro i hi
    rcases (show i = 9 ∨ i = 12 by simpa using hi) with rfl | rfl
    · obtain ⟨b, hb1, hb2, -⟩ := h.w2 rfl
      refine A2 _ _ _ _ b l2 (by (try simp only [ev_ne, ev_eq, put_size, ne_eq, Nat.reduceEqDiff, not_false_eq_true, hz70, hz75, hz79]); exact e2) (by (try simp only [ev_ne, ev_eq, put_size, ne_eq, Nat.reduceEqDiff, not_false_eq_true, hz70, hz75, hz79]); exact hb1) h.r2.own hb2 n2 (Nat.le_trans hbase h.fr.size) ?_
      intro g cap w' hown hg hat
      have h' := h.a2 hown hg hat
      refine ⟨hS _ h'.fr, ?_⟩
      have q := st110_2 _ u1 _ s1 s2 h'
      (try simp only [ps71_70, ps75_70, ps75_71, ps76_70, ps76_71, ps76_75, ps79_70, ps79_71, ps79_75, ps79_76, ps80_70, ps80_71, ps80_75, ps80_76, ps80_79, ps81_70, ps81_71, ps81_75, ps81_76, ps81_79, ps81_80, ss4_3, ss8_3, ss8_4, ss9_3, ss9_4, ss9_8, ss12_3, ss12_4, ss12_8, ss12_9, ss13_3, ss13_4, ss13_8, ss13_9, ss13_12, ss14_3, ss14_4, ss14_8, ss14_9, ss14_12, ss14_13])
      exact q
    · refine B3 _ _ _ trivial ⟨hS _ h.b3.fr, ?_⟩
      have q := st111_1 _ u1 s1 s2 _ h.b3
      (try simp only [ps71_70, ps75_70, ps75_71, ps76_70, ps76_71, ps76_75, ps79_70, ps79_71, ps79_75, ps79_76, ps80_70, ps80_71, ps80_75, ps80_76, ps80_79, ps81_70, ps81_71, ps81_75, ps81_76, ps81_79, ps81_80, ss4_3, ss8_3, ss8_4, ss9_3, ss9_4, ss9_8, ss12_3, ss12_4, ss12_8, ss12_9, ss13_3, ss13_4, ss13_8, ss13_9, ss13_12, ss14_3, ss14_4, ss14_8, ss14_9, ss14_12, ss14_13])
      exact q
  have st100_1 : ∀ (W : World) (u1 s1 : Value), T3 W0 W base v1 v2 v3 u1 v2 v3 (l1 ++ [x1]) l2 l3 false false false x1 x2 x3 s1 undef undef → wpG Try.prog .any ops Q S (TailD Try.prog .any ops Q n) 4 (((L.setIfInBounds 3 true).setIfInBounds 4 true).setIfInBounds 14 true) (((a0.put (some 70) s1).put (some 71) u1).put (some 81) pv) W := by
    intro W u1 s1 h
    refine wpG_all r100_1 (by simp) ?_
    intro i hi
    rcases (show i = 8 ∨ i = 12 by simpa using hi) with rfl | rfl
    · refine B2 _ _ _ (by (try simp only [ev_ne, ev_eq, put_size, ne_eq, Nat.reduceEqDiff, not_false_eq_true, hz70, hz75, hz79]); exact y2) ⟨hS _ h.b2.fr, ?_⟩
      have q := st110_1 _ u1 s1 _ h.b2
      (try simp only [ps71_70, ps75_70, ps75_71, ps76_70, ps76_71, ps76_75, ps79_70, ps79_71, ps79_75, ps79_76, ps80_70, ps80_71, ps80_75, ps80_76, ps80_79, ps81_70, ps81_71, ps81_75, ps81_76, ps81_79, ps81_80, ss4_3, ss8_3, ss8_4, ss9_3, ss9_4, ss9_8, ss12_3, ss12_4, ss12_8, ss12_9, ss13_3, ss13_4, ss13_8, ss13_9, ss13_12, ss14_3, ss14_4, ss14_8, ss14_9, ss14_12, ss14_13])
      exact q
    · refine B3 _ _ _ trivial ⟨hS _ h.b3.fr, ?_⟩
      have q := st101_1 _ u1 s1 _ h.b3
      (try simp only [ps71_70, ps75_70, ps75_71, ps76_70, ps76_71, ps76_75, ps79_70, ps79_71, ps79_75, ps79_76, ps80_70, ps80_71, ps80_75, ps80_76, ps80_79, ps81_70, ps81_71, ps81_75, ps81_76, ps81_79, ps81_80, ss4_3, ss8_3, ss8_4, ss9_3, ss9_4, ss9_8, ss12_3, ss12_4, ss12_8, ss12_9, ss13_3, ss13_4, ss13_8, ss13_9, ss13_12, ss14_3, ss14_4, ss14_8, ss14_9, ss14_12, ss14_13])
      exact q
  have st111_0 : ∀ (W : World) (s1 s2 s3 : Value), T3 W0 W base v1 v2 v3 v1 v2 v3 l1 l2 l3 true true true x1 x2 x3 s1 s2 s3 → wpG Try.prog .any ops Q S (TailD Try.prog .any ops Q n) 4 (((L.setIfInBounds 3 true).setIfInBounds 8 true).setIfInBounds 12 true) (((a0.put (some 70) s1).put (some 75) s2).put (some 79) s3) W := by
    intro W s1 s2 s3 h
    refine wpG_all r111_0 (by simp) ?_
    intro i hi
    obtain rfl : i = 4 := by simpa using hi
    obtain ⟨b, hb1, hb2, -⟩ := h.w1 rfl
    refine A1 _ _ _ _ b l1 (by (try simp only [ev_ne, ev_eq, put_size, ne_eq, Nat.reduceEqDiff, not_false_eq_true, hz70, hz75, hz79]); exact e1) (by (try simp only [ev_ne, ev_eq, put_size, ne_eq, Nat.reduceEqDiff, not_false_eq_true, hz70, hz75, hz79]); exact hb1) h.r1.own hb2 n1 (Nat.le_trans hbase h.fr.size) ?_
    intro g cap w' hown hg hat
    have h' := h.a1 hown hg hat
    refine ⟨hS _ h'.fr, ?_⟩
    have q := st111_1 _ _ s1 s2 s3 h'
    (try simp only [ps71_70, ps75_70, ps75_71, ps76_70, ps76_71, ps76_75, ps79_70, ps79_71, ps79_75, ps79_76, ps80_70, ps80_71, ps80_75, ps80_76, ps80_79, ps81_70, ps81_71, ps81_75, ps81_76, ps81_79, ps81_80, ss4_3, ss8_3, ss8_4, ss9_3, ss9_4, ss9_8, ss12_3, ss12_4, ss12_8, ss12_9, ss13_3, ss13_4, ss13_8, ss13_9, ss13_12, ss14_3, ss14_4, ss14_8, ss14_9, ss14_12, ss14_13])
    refine PT _ _ _ _ hp11 (by (try simp only [ev_ne, ev_eq, put_size, ne_eq, Nat.reduceEqDiff, not_false_eq_true, hz70, hz75, hz79]); exact e7) (hS _ h'.fr) ?_
    (try simp only [ps71_70, ps75_70, ps75_71, ps76_70, ps76_71, ps76_75, ps79_70, ps79_71, ps79_75, ps79_76, ps80_70, ps80_71, ps80_75, ps80_76, ps80_79, ps81_70, ps81_71, ps81_75, ps81_76, ps81_79, ps81_80, ss4_3, ss8_3, ss8_4, ss9_3, ss9_4, ss9_8, ss12_3, ss12_4, ss12_8, ss12_9, ss13_3, ss13_4, ss13_8, ss13_9, ss13_12, ss14_3, ss14_4, ss14_8, ss14_9, ss14_12, ss14_13])
    exact q
  have st011_0 : ∀ (W : World) (s2 s3 : Value), T3 W0 W base v1 v2 v3 v1 v2 v3 l1 l2 l3 false true true x1 x2 x3 undef s2 s3 → wpG Try.prog .any ops Q S (TailD Try.prog .any ops Q n) 5 ((L.setIfInBounds 8 true).setIfInBounds 12 true) ((a0.put (some 75) s2).put (some 79) s3) W := by
    intro W s2 s3 h
    refine wpG_all r011_0 (by simp) ?_
    intro i hi
    obtain rfl : i = 3 := by simpa using hi
    refine B1 _ _ _ (by (try simp only [ev_ne, ev_eq, put_size, ne_eq, Nat.reduceEqDiff, not_false_eq_true, hz70, hz75, hz79]); exact y1) ⟨hS _ h.b1.fr, ?_⟩
    have q := st111_0 _ _ s2 s3 h.b1
    (try simp only [ps71_70, ps75_70, ps75_71, ps76_70, ps76_71, ps76_75, ps79_70, ps79_71, ps79_75, ps79_76, ps80_70, ps80_71, ps80_75, ps80_76, ps80_79, ps81_70, ps81_71, ps81_75, ps81_76, ps81_79, ps81_80, ss4_3, ss8_3, ss8_4, ss9_3, ss9_4, ss9_8, ss12_3, ss12_4, ss12_8, ss12_9, ss13_3, ss13_4, ss13_8, ss13_9, ss13_12, ss14_3, ss14_4, ss14_8, ss14_9, ss14_12, ss14_13])
    exact q
  have st101_0 : ∀ (W : World) (s1 s3 : Value), T3 W0 W base v1 v2 v3 v1 v2 v3 l1 l2 l3 true false true x1 x2 x3 s1 undef s3 → wpG Try.prog .any ops Q S (TailD Try.prog .any ops Q n) 5 ((L.setIfInBounds 3 true).setIfInBounds 12 true) ((a0.put (some 70) s1).put (some 79) s3) W := by
    intro W s1 s3 h
    refine wpG_all r101_0 (by simp) ?_
    intro i hi
    rcases (show i = 4 ∨ i = 8 by simpa using hi) with rfl | rfl
    · obtain ⟨b, hb1, hb2, -⟩ := h.w1 rfl
      refine A1 _ _ _ _ b l1 (by (try simp only [ev_ne, ev_eq, put_size, ne_eq, Nat.reduceEqDiff, not_false_eq_true, hz70, hz75, hz79]); exact e1) (by (try simp only [ev_ne, ev_eq, put_size, ne_eq, Nat.reduceEqDiff, not_false_eq_true, hz70, hz75, hz79]); exact hb1) h.r1.own hb2 n1 (Nat.le_trans hbase h.fr.size) ?_
      intro g cap w' hown hg hat
      have h' := h.a1 hown hg hat
      refine ⟨hS _ h'.fr, ?_⟩
      have q := st101_1 _ _ s1 s3 h'
      (try simp only [ps71_70, ps75_70, ps75_71, ps76_70, ps76_71, ps76_75, ps79_70, ps79_71, ps79_75, ps79_76, ps80_70, ps80_71, ps80_75, ps80_76, ps80_79, ps81_70, ps81_71, ps81_75, ps81_76, ps81_79, ps81_80, ss4_3, ss8_3, ss8_4, ss9_3, ss9_4, ss9_8, ss12_3, ss12_4, ss12_8, ss12_9, ss13_3, ss13_4, ss13_8, ss13_9, ss13_12, ss14_3, ss14_4, ss14_8, ss14_9, ss14_12, ss14_13])
      refine PT _ _ _ _ hp01 (by (try simp only [ev_ne, ev_eq, put_size, ne_eq, Nat.reduceEqDiff, not_false_eq_true, hz70, hz75, hz79]); exact e7) (hS _ h'.fr) ?_
      (try simp only [ps71_70, ps75_70, ps75_71, ps76_70, ps76_71, ps76_75, ps79_70, ps79_71, ps79_75, ps79_76, ps80_70, ps80_71, ps80_75, ps80_76, ps80_79, ps81_70, ps81_71, ps81_75, ps81_76, ps81_79, ps81_80, ss4_3, ss8_3, ss8_4, ss9_3, ss9_4, ss9_8, ss12_3, ss12_4, ss12_8, ss12_9, ss13_3, ss13_4, ss13_8, ss13_9, ss13_12, ss14_3, ss14_4, ss14_8, ss14_9, ss14_12, ss14_13])
      exact q
    · refine B2 _ _ _ (by (try simp only [ev_ne, ev_eq, put_size, ne_eq, Nat.reduceEqDiff, not_false_eq_true, hz70, hz75, hz79]); exact y2) ⟨hS _ h.b2.fr, ?_⟩
      have q := st111_0 _ s1 _ s3 h.b2
      (try simp only [ps71_70, ps75_70, ps75_71, ps76_70, ps76_71, ps76_75, ps79_70, ps79_71, ps79_75, ps79_76, ps80_70, ps80_71, ps80_75, ps80_76, ps80_79, ps81_70, ps81_71, ps81_75, ps81_76, ps81_79, ps81_80, ss4_3, ss8_3, ss8_4, ss9_3, ss9_4, ss9_8, ss12_3, ss12_4, ss12_8, ss12_9, ss13_3, ss13_4, ss13_8, ss13_9, ss13_12, ss14_3, ss14_4, ss14_8, ss14_9, ss14_12, ss14_13])
      exact q
  have st110_0 : ∀ (W : World) (s1 s2 : Value), T3 W0 W base v1 v2 v3 v1 v2 v3 l1 l2 l3 true true false x1 x2 x3 s1 s2 undef → wpG Try.prog .any ops Q S (TailD Try.prog .any ops Q n) 5 ((L.setIfInBounds 3 true).setIfInBounds 8 true) ((a0.put (some 70) s1).put (some 75) s2) W := by
    intro W s1 s2 h
    refine wpG_all r110_0 (by simp) ?_
    intro i hi
    rcases (show i = 4 ∨ i = 12 by simpa using hi) with rfl | rfl
    · obtain ⟨b, hb1, hb2, -⟩ := h.w1 rfl
      refine A1 _ _ _ _ b l1 (by (try simp only [ev_ne, ev_eq, put_size, ne_eq, Nat.reduceEqDiff, not_false_eq_true, hz70, hz75, hz79]); exact e1) (by (try simp only [ev_ne, ev_eq, put_size, ne_eq, Nat.reduceEqDiff, not_false_eq_true, hz70, hz75, hz79]); exact hb1) h.r1.own hb2 n1 (Nat.le_trans hbase h.fr.size) ?_
      intro g cap w' hown hg hat
      have h' := h.a1 hown hg hat
      refine ⟨hS _ h'.fr, ?_⟩
      have q := st110_1 _ _ s1 s2 h'
      (try simp only [ps71_70, ps75_70, ps75_71, ps76_70, ps76_71, ps76_75, ps79_70, ps79_71, ps79_75, ps79_76, ps80_70, ps80_71, ps80_75, ps80_76, ps80_79, ps81_70, ps81_71, ps81_75, ps81_76, ps81_79, ps81_80, ss4_3, ss8_3, ss8_4, ss9_3, ss9_4, ss9_8, ss12_3, ss12_4, ss12_8, ss12_9, ss13_3, ss13_4, ss13_8, ss13_9, ss13_12, ss14_3, ss14_4, ss14_8, ss14_9, ss14_12, ss14_13])
      refine PT _ _ _ _ hp10 (by (try simp only [ev_ne, ev_eq, put_size, ne_eq, Nat.reduceEqDiff, not_false_eq_true, hz70, hz75, hz79]); exact e7) (hS _ h'.fr) ?_
      (try simp only [ps71_70, ps75_70, ps75_71, ps76_70, ps76_71, ps76_75, ps79_70, ps79_71, ps79_75, ps79_76, ps80_70, ps80_71, ps80_75, ps80_76, ps80_79, ps81_70, ps81_71, ps81_75, ps81_76, ps81_79, ps81_80, ss4_3, ss8_3, ss8_4, ss9_3, ss9_4, ss9_8, ss12_3, ss12_4, ss12_8, ss12_9, ss13_3, ss13_4, ss13_8, ss13_9, ss13_12, ss14_3, ss14_4, ss14_8, ss14_9, ss14_12, ss14_13])
      exact q
    · refine B3 _ _ _ trivial ⟨hS _ h.b3.fr, ?_⟩
      have q := st111_0 _ s1 s2 _ h.b3
      (try simp only [ps71_70, ps75_70, ps75_71, ps76_70, ps76_71, ps76_75, ps79_70, ps79_71, ps79_75, ps79_76, ps80_70, ps80_71, ps80_75, ps80_76, ps80_79, ps81_70, ps81_71, ps81_75, ps81_76, ps81_79, ps81_80, ss4_3, ss8_3, ss8_4, ss9_3, ss9_4, ss9_8, ss12_3, ss12_4, ss12_8, ss12_9, ss13_3, ss13_4, ss13_8, ss13_9, ss13_12, ss14_3, ss14_4, ss14_8, ss14_9, ss14_12, ss14_13])
      exact q
  have st001_0 : ∀ (W : World) (s3 : Value), T3 W0 W base v1 v2 v3 v1 v2 v3 l1 l2 l3 false false true x1 x2 x3 undef undef s3 → wpG Try.prog .any ops Q S (TailD Try.prog .any ops Q n) 6 (L.setIfInBounds 12 true) (a0.put (some 79) s3) W := by
    intro W s3 h
    refine wpG_all r001_0 (by simp) ?_
    intro i hi
    rcases (show i = 3 ∨ i = 8 by simpa using hi) with rfl | rfl
    · refine B1 _ _ _ (by (try simp only [ev_ne, ev_eq, put_size, ne_eq, Nat.reduceEqDiff, not_false_eq_true, hz70, hz75, hz79]); exact y1) ⟨hS _ h.b1.fr, ?_⟩
      have q := st101_0 _ _ s3 h.b1
      (try simp only [ps71_70, ps75_70, ps75_71, ps76_70, ps76_71, ps76_75, ps79_70, ps79_71, ps79_75, ps79_76, ps80_70, ps80_71, ps80_75, ps80_76, ps80_79, ps81_70, ps81_71, ps81_75, ps81_76, ps81_79, ps81_80, ss4_3, ss8_3, ss8_4, ss9_3, ss9_4, ss9_8, ss12_3, ss12_4, ss12_8, ss12_9, ss13_3, ss13_4, ss13_8, ss13_9, ss13_12, ss14_3, ss14_4, ss14_8, ss14_9, ss14_12, ss14_13])
      exact q
    · refine B2 _ _ _ (by (try simp only [ev_ne, ev_eq, put_size, ne_eq, Nat.reduceEqDiff, not_false_eq_true, hz70, hz75, hz79]); exact y2) ⟨hS _ h.b2.fr, ?_⟩
      have q := st011_0 _ _ s3 h.b2
      (try simp only [ps71_70, ps75_70, ps75_71, ps76_70, ps76_71, ps76_75, ps79_70, ps79_71, ps79_75, ps79_76, ps80_70, ps80_71, ps80_75, ps80_76, ps80_79, ps81_70, ps81_71, ps81_75, ps81_76, ps81_79, ps81_80, ss4_3, ss8_3, ss8_4, ss9_3, ss9_4, ss9_8, ss12_3, ss12_4, ss12_8, ss12_9, ss13_3, ss13_4, ss13_8, ss13_9, ss13_12, ss14_3, ss14_4, ss14_8, ss14_9, ss14_12, ss14_13])
      exact q
  have st010_0 : ∀ (W : World) (s2 : Value), T3 W0 W base v1 v2 v3 v1 v2 v3 l1 l2 l3 false true false x1 x2 x3 undef s2 undef → wpG Try.prog .any ops Q S (TailD Try.prog .any ops Q n) 6 (L.setIfInBounds 8 true) (a0.put (some 75) s2) W := by
    intro W s2 h
    refine wpG_all r010_0 (by simp) ?_
    intro i hi
    rcases (show i = 3 ∨ i = 12 by simpa using hi) with rfl | rfl
    · refine B1 _ _ _ (by (try simp only [ev_ne, ev_eq, put_size, ne_eq, Nat.reduceEqDiff, not_false_eq_true, hz70, hz75, hz79]); exact y1) ⟨hS _ h.b1.fr, ?_⟩
      have q := st110_0 _ _ s2 h.b1
      (try simp only [ps71_70, ps75_70, ps75_71, ps76_70, ps76_71, ps76_75, ps79_70, ps79_71, ps79_75, ps79_76, ps80_70, ps80_71, ps80_75, ps80_76, ps80_79, ps81_70, ps81_71, ps81_75, ps81_76, ps81_79, ps81_80, ss4_3, ss8_3, ss8_4, ss9_3, ss9_4, ss9_8, ss12_3, ss12_4, ss12_8, ss12_9, ss13_3, ss13_4, ss13_8, ss13_9, ss13_12, ss14_3, ss14_4, ss14_8, ss14_9, ss14_12, ss14_13])
      exact q
    · refine B3 _ _ _ trivial ⟨hS _ h.b3.fr, ?_⟩
      have q := st011_0 _ s2 _ h.b3
      (try simp only [ps71_70, ps75_70, ps75_71, ps76_70, ps76_71, ps76_75, ps79_70, ps79_71, ps79_75, ps79_76, ps80_70, ps80_71, ps80_75, ps80_76, ps80_79, ps81_70, ps81_71, ps81_75, ps81_76, ps81_79, ps81_80, ss4_3, ss8_3, ss8_4, ss9_3, ss9_4, ss9_8, ss12_3, ss12_4, ss12_8, ss12_9, ss13_3, ss13_4, ss13_8, ss13_9, ss13_12, ss14_3, ss14_4, ss14_8, ss14_9, ss14_12, ss14_13])
      exact q
  have st100_0 : ∀ (W : World) (s1 : Value), T3 W0 W base v1 v2 v3 v1 v2 v3 l1 l2 l3 true false false x1 x2 x3 s1 undef undef → wpG Try.prog .any ops Q S (TailD Try.prog .any ops Q n) 6 (L.setIfInBounds 3 true) (a0.put (some 70) s1) W := by
    intro W s1 h
    refine wpG_all r100_0 (by simp) ?_
    intro i hi
    rcases (show i = 4 ∨ i = 8 ∨ i = 12 by simpa using hi) with rfl | rfl | rfl
    · obtain ⟨b, hb1, hb2, -⟩ := h.w1 rfl
      refine A1 _ _ _ _ b l1 (by (try simp only [ev_ne, ev_eq, put_size, ne_eq, Nat.reduceEqDiff, not_false_eq_true, hz70, hz75, hz79]); exact e1) (by (try simp only [ev_ne, ev_eq, put_size, ne_eq, Nat.reduceEqDiff, not_false_eq_true, hz70, hz75, hz79]); exact hb1) h.r1.own hb2 n1 (Nat.le_trans hbase h.fr.size) ?_
      intro g cap w' hown hg hat
      have h' := h.a1 hown hg hat
      refine ⟨hS _ h'.fr, ?_⟩
      have q := st100_1 _ _ s1 h'
      (try simp only [ps71_70, ps75_70, ps75_71, ps76_70, ps76_71, ps76_75, ps79_70, ps79_71, ps79_75, ps79_76, ps80_70, ps80_71, ps80_75, ps80_76, ps80_79, ps81_70, ps81_71, ps81_75, ps81_76, ps81_79, ps81_80, ss4_3, ss8_3, ss8_4, ss9_3, ss9_4, ss9_8, ss12_3, ss12_4, ss12_8, ss12_9, ss13_3, ss13_4, ss13_8, ss13_9, ss13_12, ss14_3, ss14_4, ss14_8, ss14_9, ss14_12, ss14_13])
      refine PT _ _ _ _ hp00 (by (try simp only [ev_ne, ev_eq, put_size, ne_eq, Nat.reduceEqDiff, not_false_eq_true, hz70, hz75, hz79]); exact e7) (hS _ h'.fr) ?_
      (try simp only [ps71_70, ps75_70, ps75_71, ps76_70, ps76_71, ps76_75, ps79_70, ps79_71, ps79_75, ps79_76, ps80_70, ps80_71, ps80_75, ps80_76, ps80_79, ps81_70, ps81_71, ps81_75, ps81_76, ps81_79, ps81_80, ss4_3, ss8_3, ss8_4, ss9_3, ss9_4, ss9_8, ss12_3, ss12_4, ss12_8, ss12_9, ss13_3, ss13_4, ss13_8, ss13_9, ss13_12, ss14_3, ss14_4, ss14_8, ss14_9, ss14_12, ss14_13])
      exact q
    · refine B2 _ _ _ (by (try simp only [ev_ne, ev_eq, put_size, ne_eq, Nat.reduceEqDiff, not_false_eq_true, hz70, hz75, hz79]); exact y2) ⟨hS _ h.b2.fr, ?_⟩
      have q := st110_0 _ s1 _ h.b2
      (try simp only [ps71_70, ps75_70, ps75_71, ps76_70, ps76_71, ps76_75, ps79_70, ps79_71, ps79_75, ps79_76, ps80_70, ps80_71, ps80_75, ps80_76, ps80_79, ps81_70, ps81_71, ps81_75, ps81_76, ps81_79, ps81_80, ss4_3, ss8_3, ss8_4, ss9_3, ss9_4, ss9_8, ss12_3, ss12_4, ss12_8, ss12_9, ss13_3, ss13_4, ss13_8, ss13_9, ss13_12, ss14_3, ss14_4, ss14_8, ss14_9, ss14_12, ss14_13])
      exact q
    · refine B3 _ _ _ trivial ⟨hS _ h.b3.fr, ?_⟩
      have q := st101_0 _ s1 _ h.b3
      (try simp only [ps71_70, ps75_70, ps75_71, ps76_70, ps76_71, ps76_75, ps79_70, ps79_71, ps79_75, ps79_76, ps80_70, ps80_71, ps80_75, ps80_76, ps80_79, ps81_70, ps81_71, ps81_75, ps81_76, ps81_79, ps81_80, ss4_3, ss8_3, ss8_4, ss9_3, ss9_4, ss9_8, ss12_3, ss12_4, ss12_8, ss12_9, ss13_3, ss13_4, ss13_8, ss13_9, ss13_12, ss14_3, ss14_4, ss14_8, ss14_9, ss14_12, ss14_13])
      exact q
  have st000_0 : ∀ (W : World), T3 W0 W base v1 v2 v3 v1 v2 v3 l1 l2 l3 false false false x1 x2 x3 undef undef undef → wpG Try.prog .any ops Q S (TailD Try.prog .any ops Q n) 7 L a0 W := by
    intro W  h
    refine wpG_all r000_0 (by simp) ?_
    intro i hi
    rcases (show i = 3 ∨ i = 8 ∨ i = 12 by simpa using hi) with rfl | rfl | rfl
    · refine B1 _ _ _ (by (try simp only [ev_ne, ev_eq, put_size, ne_eq, Nat.reduceEqDiff, not_false_eq_true, hz70, hz75, hz79]); exact y1) ⟨hS _ h.b1.fr, ?_⟩
      have q := st100_0 _ _ h.b1
      (try simp only [ps71_70, ps75_70, ps75_71, ps76_70, ps76_71, ps76_75, ps79_70, ps79_71, ps79_75, ps79_76, ps80_70, ps80_71, ps80_75, ps80_76, ps80_79, ps81_70, ps81_71, ps81_75, ps81_76, ps81_79, ps81_80, ss4_3, ss8_3, ss8_4, ss9_3, ss9_4, ss9_8, ss12_3, ss12_4, ss12_8, ss12_9, ss13_3, ss13_4, ss13_8, ss13_9, ss13_12, ss14_3, ss14_4, ss14_8, ss14_9, ss14_12, ss14_13])
      exact q
    · refine B2 _ _ _ (by (try simp only [ev_ne, ev_eq, put_size, ne_eq, Nat.reduceEqDiff, not_false_eq_true, hz70, hz75, hz79]); exact y2) ⟨hS _ h.b2.fr, ?_⟩
      have q := st010_0 _ _ h.b2
      (try simp only [ps71_70, ps75_70, ps75_71, ps76_70, ps76_71, ps76_75, ps79_70, ps79_71, ps79_75, ps79_76, ps80_70, ps80_71, ps80_75, ps80_76, ps80_79, ps81_70, ps81_71, ps81_75, ps81_76, ps81_79, ps81_80, ss4_3, ss8_3, ss8_4, ss9_3, ss9_4, ss9_8, ss12_3, ss12_4, ss12_8, ss12_9, ss13_3, ss13_4, ss13_8, ss13_9, ss13_12, ss14_3, ss14_4, ss14_8, ss14_9, ss14_12, ss14_13])
      exact q
    · refine B3 _ _ _ trivial ⟨hS _ h.b3.fr, ?_⟩
      have q := st001_0 _ _ h.b3
      (try simp only [ps71_70, ps75_70, ps75_71, ps76_70, ps76_71, ps76_75, ps79_70, ps79_71, ps79_75, ps79_76, ps80_70, ps80_71, ps80_75, ps80_76, ps80_79, ps81_70, ps81_71, ps81_75, ps81_76, ps81_79, ps81_80, ss4_3, ss8_3, ss8_4, ss9_3, ss9_4, ss9_8, ss12_3, ss12_4, ss12_8, ss12_9, ss13_3, ss13_4, ss13_8, ss13_9, ss13_12, ss14_3, ss14_4, ss14_8, ss14_9, ss14_12, ss14_13])
      exact q
  exact st000_0 W0 h0
set_option maxHeartbeats 4000000 in
theorem app3B {ops : Array Oper} {Q : Exit → Act → World → Prop} {n : Nat} {L : Array Bool} (a0 : Act) (W0 : World) (base : Nat) (v1 v2 v3 pv bv : Value) (l1 l2 l3 : List Int) (x1 x2 x3 : Int) (S : World → Prop) (PB : Array Bool → Bool)
    (hS : ∀ W, Fr3 W0 W v1 v2 v3 → S W) (hbase : base ≤ W0.heap.size) (n1 : l1.length ≤ 100) (n2 : l2.length ≤ 100) (n3 : l3.length ≤ 100) (hsz : 137 < a0.tmps.size)
    (e1 : a0.eval (.tmp 123) = v1) (y1 : a0.eval (.tmp 124) = .int .i64 x1)
    (e2 : a0.eval (.tmp 128) = v2) (y2 : a0.eval (.tmp 129) = .int .i64 x2)
    (e3 : a0.eval (.tmp 133) = v3) (y3 : a0.eval (.tmp 134) = .int .i64 x3)
    (e7 : a0.eval (.tmp 8) = bv)
    (B1 : ∀ (a : Act) (W : World) (K : Act → World → Prop), a.eval (.tmp 124) = .int .i64 x1 → K (a.put (some 125) (.slice (some ⟨W.heap.size, 0, none⟩) 1 1)) (W.alloc (.cells #[.int .i64 x1] 3)) → wpOp Try.prog ops Q 3 K a W)
    (A1 : ∀ (a : Act) (W : World) (K : Act → World → Prop) (u : Value) (b : Nat) (l : List Int), a.eval (.tmp 123) = u → a.eval (.tmp 125) = .slice (some ⟨b, 0, none⟩) 1 1 → W.ownsRow base 3 1 u l.length (l.map (Value.int .i64)) → W.heap[b]? = some (.cells #[.int .i64 x1] 3 (0, 0)) → l.length ≤ 100 → base ≤ W.heap.size →
      (∀ (g cap : Nat) (w' : World), w'.ownsRow base 3 1 (.slice (some ⟨g, 0, none⟩) (l.length + 1) cap) (l.length + 1) (l.map (Value.int .i64) ++ [.int .i64 x1]) → W.grownBy w' u.ownBlock → (u.ownBlock = some g ∨ g = W.heap.size) → K (a.put (some 126) (.slice (some ⟨g, 0, none⟩) (l.length + 1) cap)) w') → wpOp Try.prog ops Q 4 K a W)
    (B2 : ∀ (a : Act) (W : World) (K : Act → World → Prop), a.eval (.tmp 129) = .int .i64 x2 → K (a.put (some 130) (.slice (some ⟨W.heap.size, 0, none⟩) 1 1)) (W.alloc (.cells #[.int .i64 x2] 3)) → wpOp Try.prog ops Q 8 K a W)
    (A2 : ∀ (a : Act) (W : World) (K : Act → World → Prop) (u : Value) (b : Nat) (l : List Int), a.eval (.tmp 128) = u → a.eval (.tmp 130) = .slice (some ⟨b, 0, none⟩) 1 1 → W.ownsRow base 3 1 u l.length (l.map (Value.int .i64)) → W.heap[b]? = some (.cells #[.int .i64 x2] 3 (0, 0)) → l.length ≤ 100 → base ≤ W.heap.size →
      (∀ (g cap : Nat) (w' : World), w'.ownsRow base 3 1 (.slice (some ⟨g, 0, none⟩) (l.length + 1) cap) (l.length + 1) (l.map (Value.int .i64) ++ [.int .i64 x2]) → W.grownBy w' u.ownBlock → (u.ownBlock = some g ∨ g = W.heap.size) → K (a.put (some 131) (.slice (some ⟨g, 0, none⟩) (l.length + 1) cap)) w') → wpOp Try.prog ops Q 9 K a W)
    (B3 : ∀ (a : Act) (W : World) (K : Act → World → Prop), a.eval (.tmp 134) = .int .i64 x3 → K (a.put (some 135) (.slice (some ⟨W.heap.size, 0, none⟩) 1 1)) (W.alloc (.cells #[.int .i64 x3] 3)) → wpOp Try.prog ops Q 13 K a W)
    (A3 : ∀ (a : Act) (W : World) (K : Act → World → Prop) (u : Value) (b : Nat) (l : List Int), a.eval (.tmp 133) = u → a.eval (.tmp 135) = .slice (some ⟨b, 0, none⟩) 1 1 → W.ownsRow base 3 1 u l.length (l.map (Value.int .i64)) → W.heap[b]? = some (.cells #[.int .i64 x3] 3 (0, 0)) → l.length ≤ 100 → base ≤ W.heap.size →
      (∀ (g cap : Nat) (w' : World), w'.ownsRow base 3 1 (.slice (some ⟨g, 0, none⟩) (l.length + 1) cap) (l.length + 1) (l.map (Value.int .i64) ++ [.int .i64 x3]) → W.grownBy w' u.ownBlock → (u.ownBlock = some g ∨ g = W.heap.size) → K (a.put (some 136) (.slice (some ⟨g, 0, none⟩) (l.length + 1) cap)) w') → wpOp Try.prog ops Q 14 K a W)
    (PT : ∀ (f : Nat) (ls : Array Bool) (a : Act) (W : World), PB ls = true → a.eval (.tmp 8) = bv → S W → wpG Try.prog .any ops Q S (TailD Try.prog .any ops Q n) f (ls.setIfInBounds 15 true) (a.put (some 137) pv) W → wpG Try.prog .any ops Q S (TailD Try.prog .any ops Q n) (f + 1) ls a W)
    (r000_0 : Region.ready .any ops L = [3, 8, 13])
    (r001_0 : Region.ready .any ops (L.setIfInBounds 13 true) = [3, 8])
    (r010_0 : Region.ready .any ops (L.setIfInBounds 8 true) = [3, 13])
    (r011_0 : Region.ready .any ops ((L.setIfInBounds 8 true).setIfInBounds 13 true) = [3])
    (r100_0 : Region.ready .any ops (L.setIfInBounds 3 true) = [4, 8, 13])
    (r101_0 : Region.ready .any ops ((L.setIfInBounds 3 true).setIfInBounds 13 true) = [4, 8])
    (r110_0 : Region.ready .any ops ((L.setIfInBounds 3 true).setIfInBounds 8 true) = [4, 13])
    (r111_0 : Region.ready .any ops (((L.setIfInBounds 3 true).setIfInBounds 8 true).setIfInBounds 13 true) = [4])
    (r100_1 : Region.ready .any ops (((L.setIfInBounds 3 true).setIfInBounds 4 true).setIfInBounds 15 true) = [8, 13])
    (r101_1 : Region.ready .any ops ((((L.setIfInBounds 3 true).setIfInBounds 4 true).setIfInBounds 13 true).setIfInBounds 15 true) = [8])
    (r110_1 : Region.ready .any ops ((((L.setIfInBounds 3 true).setIfInBounds 4 true).setIfInBounds 8 true).setIfInBounds 15 true) = [9, 13])
    (r111_1 : Region.ready .any ops (((((L.setIfInBounds 3 true).setIfInBounds 4 true).setIfInBounds 8 true).setIfInBounds 13 true).setIfInBounds 15 true) = [9])
    (r110_2 : Region.ready .any ops (((((L.setIfInBounds 3 true).setIfInBounds 4 true).setIfInBounds 8 true).setIfInBounds 9 true).setIfInBounds 15 true) = [13])
    (r111_2 : Region.ready .any ops ((((((L.setIfInBounds 3 true).setIfInBounds 4 true).setIfInBounds 8 true).setIfInBounds 9 true).setIfInBounds 13 true).setIfInBounds 15 true) = [14])
    (hp00 : PB ((L.setIfInBounds 3 true).setIfInBounds 4 true) = true)
    (hp01 : PB (((L.setIfInBounds 3 true).setIfInBounds 4 true).setIfInBounds 13 true) = true)
    (hp10 : PB (((L.setIfInBounds 3 true).setIfInBounds 4 true).setIfInBounds 8 true) = true)
    (hp11 : PB ((((L.setIfInBounds 3 true).setIfInBounds 4 true).setIfInBounds 8 true).setIfInBounds 13 true) = true)
    (hK : ∀ (W : World) (u1 u2 u3 s1 s2 s3 : Value), Fr3 W0 W v1 v2 v3 → Rw W0 W base v1 u1 (l1 ++ [x1]) → Rw W0 W base v2 u2 (l2 ++ [x2]) → Rw W0 W base v3 u3 (l3 ++ [x3]) → (u1.ownBlock = none ∨ u1.ownBlock ≠ u2.ownBlock) → (u1.ownBlock = none ∨ u1.ownBlock ≠ u3.ownBlock) → (u2.ownBlock = none ∨ u2.ownBlock ≠ u3.ownBlock) → TailD Try.prog .any ops Q n (((((((L.setIfInBounds 3 true).setIfInBounds 4 true).setIfInBounds 8 true).setIfInBounds 9 true).setIfInBounds 13 true).setIfInBounds 14 true).setIfInBounds 15 true) (((((((a0.put (some 125) s1).put (some 126) u1).put (some 130) s2).put (some 131) u2).put (some 135) s3).put (some 136) u3).put (some 137) pv) W)
    (h0 : T3 W0 W0 base v1 v2 v3 v1 v2 v3 l1 l2 l3 false false false x1 x2 x3 undef undef undef) : wpG Try.prog .any ops Q S (TailD Try.prog .any ops Q n) 7 L a0 W0 := by
  have ps126_125 := fun (a : Act) (v v' : Value) => put_sort a 126 125 v v' (by decide)
  have ps130_125 := fun (a : Act) (v v' : Value) => put_sort a 130 125 v v' (by decide)
  have ps130_126 := fun (a : Act) (v v' : Value) => put_sort a 130 126 v v' (by decide)
  have ps131_125 := fun (a : Act) (v v' : Value) => put_sort a 131 125 v v' (by decide)
  have ps131_126 := fun (a : Act) (v v' : Value) => put_sort a 131 126 v v' (by decide)
  have ps131_130 := fun (a : Act) (v v' : Value) => put_sort a 131 130 v v' (by decide)
  have ps135_125 := fun (a : Act) (v v' : Value) => put_sort a 135 125 v v' (by decide)
  have ps135_126 := fun (a : Act) (v v' : Value) => put_sort a 135 126 v v' (by decide)
  have ps135_130 := fun (a : Act) (v v' : Value) => put_sort a 135 130 v v' (by decide)
  have ps135_131 := fun (a : Act) (v v' : Value) => put_sort a 135 131 v v' (by decide)
  have ps136_125 := fun (a : Act) (v v' : Value) => put_sort a 136 125 v v' (by decide)
  have ps136_126 := fun (a : Act) (v v' : Value) => put_sort a 136 126 v v' (by decide)
  have ps136_130 := fun (a : Act) (v v' : Value) => put_sort a 136 130 v v' (by decide)
  have ps136_131 := fun (a : Act) (v v' : Value) => put_sort a 136 131 v v' (by decide)
  have ps136_135 := fun (a : Act) (v v' : Value) => put_sort a 136 135 v v' (by decide)
  have ps137_125 := fun (a : Act) (v v' : Value) => put_sort a 137 125 v v' (by decide)
  have ps137_126 := fun (a : Act) (v v' : Value) => put_sort a 137 126 v v' (by decide)
  have ps137_130 := fun (a : Act) (v v' : Value) => put_sort a 137 130 v v' (by decide)
  have ps137_131 := fun (a : Act) (v v' : Value) => put_sort a 137 131 v v' (by decide)
  have ps137_135 := fun (a : Act) (v v' : Value) => put_sort a 137 135 v v' (by decide)
  have ps137_136 := fun (a : Act) (v v' : Value) => put_sort a 137 136 v v' (by decide)
  have ss4_3 := fun (l : Array Bool) => set_sort l 4 3 true true (by decide)
  have ss8_3 := fun (l : Array Bool) => set_sort l 8 3 true true (by decide)
  have ss8_4 := fun (l : Array Bool) => set_sort l 8 4 true true (by decide)
  have ss9_3 := fun (l : Array Bool) => set_sort l 9 3 true true (by decide)
  have ss9_4 := fun (l : Array Bool) => set_sort l 9 4 true true (by decide)
  have ss9_8 := fun (l : Array Bool) => set_sort l 9 8 true true (by decide)
  have ss13_3 := fun (l : Array Bool) => set_sort l 13 3 true true (by decide)
  have ss13_4 := fun (l : Array Bool) => set_sort l 13 4 true true (by decide)
  have ss13_8 := fun (l : Array Bool) => set_sort l 13 8 true true (by decide)
  have ss13_9 := fun (l : Array Bool) => set_sort l 13 9 true true (by decide)
  have ss14_3 := fun (l : Array Bool) => set_sort l 14 3 true true (by decide)
  have ss14_4 := fun (l : Array Bool) => set_sort l 14 4 true true (by decide)
  have ss14_8 := fun (l : Array Bool) => set_sort l 14 8 true true (by decide)
  have ss14_9 := fun (l : Array Bool) => set_sort l 14 9 true true (by decide)
  have ss14_13 := fun (l : Array Bool) => set_sort l 14 13 true true (by decide)
  have ss15_3 := fun (l : Array Bool) => set_sort l 15 3 true true (by decide)
  have ss15_4 := fun (l : Array Bool) => set_sort l 15 4 true true (by decide)
  have ss15_8 := fun (l : Array Bool) => set_sort l 15 8 true true (by decide)
  have ss15_9 := fun (l : Array Bool) => set_sort l 15 9 true true (by decide)
  have ss15_13 := fun (l : Array Bool) => set_sort l 15 13 true true (by decide)
  have ss15_14 := fun (l : Array Bool) => set_sort l 15 14 true true (by decide)
  have hz125 : 125 < a0.tmps.size := by omega
  have hz130 : 130 < a0.tmps.size := by omega
  have hz135 : 135 < a0.tmps.size := by omega
  have st111_3 : ∀ (W : World) (u1 u2 u3 s1 s2 s3 : Value), T3 W0 W base v1 v2 v3 u1 u2 u3 (l1 ++ [x1]) (l2 ++ [x2]) (l3 ++ [x3]) false false false x1 x2 x3 s1 s2 s3 → wpG Try.prog .any ops Q S (TailD Try.prog .any ops Q n) 0 (((((((L.setIfInBounds 3 true).setIfInBounds 4 true).setIfInBounds 8 true).setIfInBounds 9 true).setIfInBounds 13 true).setIfInBounds 14 true).setIfInBounds 15 true) (((((((a0.put (some 125) s1).put (some 126) u1).put (some 130) s2).put (some 131) u2).put (some 135) s3).put (some 136) u3).put (some 137) pv) W := by
    intro W u1 u2 u3 s1 s2 s3 h
    exact hK W u1 u2 u3 s1 s2 s3 h.fr h.r1 h.r2 h.r3 h.d12 h.d13 h.d23
  have st111_2 : ∀ (W : World) (u1 u2 s1 s2 s3 : Value), T3 W0 W base v1 v2 v3 u1 u2 v3 (l1 ++ [x1]) (l2 ++ [x2]) l3 false false true x1 x2 x3 s1 s2 s3 → wpG Try.prog .any ops Q S (TailD Try.prog .any ops Q n) 1 ((((((L.setIfInBounds 3 true).setIfInBounds 4 true).setIfInBounds 8 true).setIfInBounds 9 true).setIfInBounds 13 true).setIfInBounds 15 true) ((((((a0.put (some 125) s1).put (some 126) u1).put (some 130) s2).put (some 131) u2).put (some 135) s3).put (some 137) pv) W := by
    intro W u1 u2 s1 s2 s3 h
    refine wpG_all r111_2 (by simp) ?_
    intro i hi
    obtain rfl : i = 14 := by simpa using hi
    obtain ⟨b, hb1, hb2, -⟩ := h.w3 rfl
    refine A3 _ _ _ _ b l3 (by (try simp only [ev_ne, ev_eq, put_size, ne_eq, Nat.reduceEqDiff, not_false_eq_true, hz125, hz130, hz135]); exact e3) (by (try simp only [ev_ne, ev_eq, put_size, ne_eq, Nat.reduceEqDiff, not_false_eq_true, hz125, hz130, hz135]); exact hb1) h.r3.own hb2 n3 (Nat.le_trans hbase h.fr.size) ?_
    intro g cap w' hown hg hat
    have h' := h.a3 hown hg hat
    refine ⟨hS _ h'.fr, ?_⟩
    have q := st111_3 _ u1 u2 _ s1 s2 s3 h'
    (try simp only [ps126_125, ps130_125, ps130_126, ps131_125, ps131_126, ps131_130, ps135_125, ps135_126, ps135_130, ps135_131, ps136_125, ps136_126, ps136_130, ps136_131, ps136_135, ps137_125, ps137_126, ps137_130, ps137_131, ps137_135, ps137_136, ss4_3, ss8_3, ss8_4, ss9_3, ss9_4, ss9_8, ss13_3, ss13_4, ss13_8, ss13_9, ss14_3, ss14_4, ss14_8, ss14_9, ss14_13, ss15_3, ss15_4, ss15_8, ss15_9, ss15_13, ss15_14])
    exact q
  have st110_2 : ∀ (W : World) (u1 u2 s1 s2 : Value), T3 W0 W base v1 v2 v3 u1 u2 v3 (l1 ++ [x1]) (l2 ++ [x2]) l3 false false false x1 x2 x3 s1 s2 undef → wpG Try.prog .any ops Q S (TailD Try.prog .any ops Q n) 2 (((((L.setIfInBounds 3 true).setIfInBounds 4 true).setIfInBounds 8 true).setIfInBounds 9 true).setIfInBounds 15 true) (((((a0.put (some 125) s1).put (some 126) u1).put (some 130) s2).put (some 131) u2).put (some 137) pv) W := by
    intro W u1 u2 s1 s2 h
    refine wpG_all r110_2 (by simp) ?_
    intro i hi
    obtain rfl : i = 13 := by simpa using hi
    refine B3 _ _ _ (by (try simp only [ev_ne, ev_eq, put_size, ne_eq, Nat.reduceEqDiff, not_false_eq_true, hz125, hz130, hz135]); exact y3) ⟨hS _ h.b3.fr, ?_⟩
    have q := st111_2 _ u1 u2 s1 s2 _ h.b3
    (try simp only [ps126_125, ps130_125, ps130_126, ps131_125, ps131_126, ps131_130, ps135_125, ps135_126, ps135_130, ps135_131, ps136_125, ps136_126, ps136_130, ps136_131, ps136_135, ps137_125, ps137_126, ps137_130, ps137_131, ps137_135, ps137_136, ss4_3, ss8_3, ss8_4, ss9_3, ss9_4, ss9_8, ss13_3, ss13_4, ss13_8, ss13_9, ss14_3, ss14_4, ss14_8, ss14_9, ss14_13, ss15_3, ss15_4, ss15_8, ss15_9, ss15_13, ss15_14])
    exact q
  have st111_1 : ∀ (W : World) (u1 s1 s2 s3 : Value), T3 W0 W base v1 v2 v3 u1 v2 v3 (l1 ++ [x1]) l2 l3 false true true x1 x2 x3 s1 s2 s3 → wpG Try.prog .any ops Q S (TailD Try.prog .any ops Q n) 2 (((((L.setIfInBounds 3 true).setIfInBounds 4 true).setIfInBounds 8 true).setIfInBounds 13 true).setIfInBounds 15 true) (((((a0.put (some 125) s1).put (some 126) u1).put (some 130) s2).put (some 135) s3).put (some 137) pv) W := by
    intro W u1 s1 s2 s3 h
    refine wpG_all r111_1 (by simp) ?_
    intro i hi
    obtain rfl : i = 9 := by simpa using hi
    obtain ⟨b, hb1, hb2, -⟩ := h.w2 rfl
    refine A2 _ _ _ _ b l2 (by (try simp only [ev_ne, ev_eq, put_size, ne_eq, Nat.reduceEqDiff, not_false_eq_true, hz125, hz130, hz135]); exact e2) (by (try simp only [ev_ne, ev_eq, put_size, ne_eq, Nat.reduceEqDiff, not_false_eq_true, hz125, hz130, hz135]); exact hb1) h.r2.own hb2 n2 (Nat.le_trans hbase h.fr.size) ?_
    intro g cap w' hown hg hat
    have h' := h.a2 hown hg hat
    refine ⟨hS _ h'.fr, ?_⟩
    have q := st111_2 _ u1 _ s1 s2 s3 h'
    (try simp only [ps126_125, ps130_125, ps130_126, ps131_125, ps131_126, ps131_130, ps135_125, ps135_126, ps135_130, ps135_131, ps136_125, ps136_126, ps136_130, ps136_131, ps136_135, ps137_125, ps137_126, ps137_130, ps137_131, ps137_135, ps137_136, ss4_3, ss8_3, ss8_4, ss9_3, ss9_4, ss9_8, ss13_3, ss13_4, ss13_8, ss13_9, ss14_3, ss14_4, ss14_8, ss14_9, ss14_13, ss15_3, ss15_4, ss15_8, ss15_9, ss15_13, ss15_14])
    exact q
  have st101_1 : ∀ (W : World) (u1 s1 s3 : Value), T3 W0 W base v1 v2 v3 u1 v2 v3 (l1 ++ [x1]) l2 l3 false false true x1 x2 x3 s1 undef s3 → wpG Try.prog .any ops Q S (TailD Try.prog .any ops Q n) 3 ((((L.setIfInBounds 3 true).setIfInBounds 4 true).setIfInBounds 13 true).setIfInBounds 15 true) ((((a0.put (some 125) s1).put (some 126) u1).put (some 135) s3).put (some 137) pv) W := by
    intro W u1 s1 s3 h
    refine wpG_all r101_1 (by simp) ?_
    intro i hi
    obtain rfl : i = 8 := by simpa using hi
    refine B2 _ _ _ (by (try simp only [ev_ne, ev_eq, put_size, ne_eq, Nat.reduceEqDiff, not_false_eq_true, hz125, hz130, hz135]); exact y2) ⟨hS _ h.b2.fr, ?_⟩
    have q := st111_1 _ u1 s1 _ s3 h.b2
    (try simp only [ps126_125, ps130_125, ps130_126, ps131_125, ps131_126, ps131_130, ps135_125, ps135_126, ps135_130, ps135_131, ps136_125, ps136_126, ps136_130, ps136_131, ps136_135, ps137_125, ps137_126, ps137_130, ps137_131, ps137_135, ps137_136, ss4_3, ss8_3, ss8_4, ss9_3, ss9_4, ss9_8, ss13_3, ss13_4, ss13_8, ss13_9, ss14_3, ss14_4, ss14_8, ss14_9, ss14_13, ss15_3, ss15_4, ss15_8, ss15_9, ss15_13, ss15_14])
    exact q
  have st110_1 : ∀ (W : World) (u1 s1 s2 : Value), T3 W0 W base v1 v2 v3 u1 v2 v3 (l1 ++ [x1]) l2 l3 false true false x1 x2 x3 s1 s2 undef → wpG Try.prog .any ops Q S (TailD Try.prog .any ops Q n) 3 ((((L.setIfInBounds 3 true).setIfInBounds 4 true).setIfInBounds 8 true).setIfInBounds 15 true) ((((a0.put (some 125) s1).put (some 126) u1).put (some 130) s2).put (some 137) pv) W := by
    intro W u1 s1 s2 h
    refine wpG_all r110_1 (by simp) ?_
    intro i hi
    rcases (show i = 9 ∨ i = 13 by simpa using hi) with rfl | rfl
    · obtain ⟨b, hb1, hb2, -⟩ := h.w2 rfl
      refine A2 _ _ _ _ b l2 (by (try simp only [ev_ne, ev_eq, put_size, ne_eq, Nat.reduceEqDiff, not_false_eq_true, hz125, hz130, hz135]); exact e2) (by (try simp only [ev_ne, ev_eq, put_size, ne_eq, Nat.reduceEqDiff, not_false_eq_true, hz125, hz130, hz135]); exact hb1) h.r2.own hb2 n2 (Nat.le_trans hbase h.fr.size) ?_
      intro g cap w' hown hg hat
      have h' := h.a2 hown hg hat
      refine ⟨hS _ h'.fr, ?_⟩
      have q := st110_2 _ u1 _ s1 s2 h'
      (try simp only [ps126_125, ps130_125, ps130_126, ps131_125, ps131_126, ps131_130, ps135_125, ps135_126, ps135_130, ps135_131, ps136_125, ps136_126, ps136_130, ps136_131, ps136_135, ps137_125, ps137_126, ps137_130, ps137_131, ps137_135, ps137_136, ss4_3, ss8_3, ss8_4, ss9_3, ss9_4, ss9_8, ss13_3, ss13_4, ss13_8, ss13_9, ss14_3, ss14_4, ss14_8, ss14_9, ss14_13, ss15_3, ss15_4, ss15_8, ss15_9, ss15_13, ss15_14])
      exact q
    · refine B3 _ _ _ (by (try simp only [ev_ne, ev_eq, put_size, ne_eq, Nat.reduceEqDiff, not_false_eq_true, hz125, hz130, hz135]); exact y3) ⟨hS _ h.b3.fr, ?_⟩
      have q := st111_1 _ u1 s1 s2 _ h.b3
      (try simp only [ps126_125, ps130_125, ps130_126, ps131_125, ps131_126, ps131_130, ps135_125, ps135_126, ps135_130, ps135_131, ps136_125, ps136_126, ps136_130, ps136_131, ps136_135, ps137_125, ps137_126, ps137_130, ps137_131, ps137_135, ps137_136, ss4_3, ss8_3, ss8_4, ss9_3, ss9_4, ss9_8, ss13_3, ss13_4, ss13_8, ss13_9, ss14_3, ss14_4, ss14_8, ss14_9, ss14_13, ss15_3, ss15_4, ss15_8, ss15_9, ss15_13, ss15_14])
      exact q
  have st100_1 : ∀ (W : World) (u1 s1 : Value), T3 W0 W base v1 v2 v3 u1 v2 v3 (l1 ++ [x1]) l2 l3 false false false x1 x2 x3 s1 undef undef → wpG Try.prog .any ops Q S (TailD Try.prog .any ops Q n) 4 (((L.setIfInBounds 3 true).setIfInBounds 4 true).setIfInBounds 15 true) (((a0.put (some 125) s1).put (some 126) u1).put (some 137) pv) W := by
    intro W u1 s1 h
    refine wpG_all r100_1 (by simp) ?_
    intro i hi
    rcases (show i = 8 ∨ i = 13 by simpa using hi) with rfl | rfl
    · refine B2 _ _ _ (by (try simp only [ev_ne, ev_eq, put_size, ne_eq, Nat.reduceEqDiff, not_false_eq_true, hz125, hz130, hz135]); exact y2) ⟨hS _ h.b2.fr, ?_⟩
      have q := st110_1 _ u1 s1 _ h.b2
      (try simp only [ps126_125, ps130_125, ps130_126, ps131_125, ps131_126, ps131_130, ps135_125, ps135_126, ps135_130, ps135_131, ps136_125, ps136_126, ps136_130, ps136_131, ps136_135, ps137_125, ps137_126, ps137_130, ps137_131, ps137_135, ps137_136, ss4_3, ss8_3, ss8_4, ss9_3, ss9_4, ss9_8, ss13_3, ss13_4, ss13_8, ss13_9, ss14_3, ss14_4, ss14_8, ss14_9, ss14_13, ss15_3, ss15_4, ss15_8, ss15_9, ss15_13, ss15_14])
      exact q
    · refine B3 _ _ _ (by (try simp only [ev_ne, ev_eq, put_size, ne_eq, Nat.reduceEqDiff, not_false_eq_true, hz125, hz130, hz135]); exact y3) ⟨hS _ h.b3.fr, ?_⟩
      have q := st101_1 _ u1 s1 _ h.b3
      (try simp only [ps126_125, ps130_125, ps130_126, ps131_125, ps131_126, ps131_130, ps135_125, ps135_126, ps135_130, ps135_131, ps136_125, ps136_126, ps136_130, ps136_131, ps136_135, ps137_125, ps137_126, ps137_130, ps137_131, ps137_135, ps137_136, ss4_3, ss8_3, ss8_4, ss9_3, ss9_4, ss9_8, ss13_3, ss13_4, ss13_8, ss13_9, ss14_3, ss14_4, ss14_8, ss14_9, ss14_13, ss15_3, ss15_4, ss15_8, ss15_9, ss15_13, ss15_14])
      exact q
  have st111_0 : ∀ (W : World) (s1 s2 s3 : Value), T3 W0 W base v1 v2 v3 v1 v2 v3 l1 l2 l3 true true true x1 x2 x3 s1 s2 s3 → wpG Try.prog .any ops Q S (TailD Try.prog .any ops Q n) 4 (((L.setIfInBounds 3 true).setIfInBounds 8 true).setIfInBounds 13 true) (((a0.put (some 125) s1).put (some 130) s2).put (some 135) s3) W := by
    intro W s1 s2 s3 h
    refine wpG_all r111_0 (by simp) ?_
    intro i hi
    obtain rfl : i = 4 := by simpa using hi
    obtain ⟨b, hb1, hb2, -⟩ := h.w1 rfl
    refine A1 _ _ _ _ b l1 (by (try simp only [ev_ne, ev_eq, put_size, ne_eq, Nat.reduceEqDiff, not_false_eq_true, hz125, hz130, hz135]); exact e1) (by (try simp only [ev_ne, ev_eq, put_size, ne_eq, Nat.reduceEqDiff, not_false_eq_true, hz125, hz130, hz135]); exact hb1) h.r1.own hb2 n1 (Nat.le_trans hbase h.fr.size) ?_
    intro g cap w' hown hg hat
    have h' := h.a1 hown hg hat
    refine ⟨hS _ h'.fr, ?_⟩
    have q := st111_1 _ _ s1 s2 s3 h'
    (try simp only [ps126_125, ps130_125, ps130_126, ps131_125, ps131_126, ps131_130, ps135_125, ps135_126, ps135_130, ps135_131, ps136_125, ps136_126, ps136_130, ps136_131, ps136_135, ps137_125, ps137_126, ps137_130, ps137_131, ps137_135, ps137_136, ss4_3, ss8_3, ss8_4, ss9_3, ss9_4, ss9_8, ss13_3, ss13_4, ss13_8, ss13_9, ss14_3, ss14_4, ss14_8, ss14_9, ss14_13, ss15_3, ss15_4, ss15_8, ss15_9, ss15_13, ss15_14])
    refine PT _ _ _ _ hp11 (by (try simp only [ev_ne, ev_eq, put_size, ne_eq, Nat.reduceEqDiff, not_false_eq_true, hz125, hz130, hz135]); exact e7) (hS _ h'.fr) ?_
    (try simp only [ps126_125, ps130_125, ps130_126, ps131_125, ps131_126, ps131_130, ps135_125, ps135_126, ps135_130, ps135_131, ps136_125, ps136_126, ps136_130, ps136_131, ps136_135, ps137_125, ps137_126, ps137_130, ps137_131, ps137_135, ps137_136, ss4_3, ss8_3, ss8_4, ss9_3, ss9_4, ss9_8, ss13_3, ss13_4, ss13_8, ss13_9, ss14_3, ss14_4, ss14_8, ss14_9, ss14_13, ss15_3, ss15_4, ss15_8, ss15_9, ss15_13, ss15_14])
    exact q
  have st011_0 : ∀ (W : World) (s2 s3 : Value), T3 W0 W base v1 v2 v3 v1 v2 v3 l1 l2 l3 false true true x1 x2 x3 undef s2 s3 → wpG Try.prog .any ops Q S (TailD Try.prog .any ops Q n) 5 ((L.setIfInBounds 8 true).setIfInBounds 13 true) ((a0.put (some 130) s2).put (some 135) s3) W := by
    intro W s2 s3 h
    refine wpG_all r011_0 (by simp) ?_
    intro i hi
    obtain rfl : i = 3 := by simpa using hi
    refine B1 _ _ _ (by (try simp only [ev_ne, ev_eq, put_size, ne_eq, Nat.reduceEqDiff, not_false_eq_true, hz125, hz130, hz135]); exact y1) ⟨hS _ h.b1.fr, ?_⟩
    have q := st111_0 _ _ s2 s3 h.b1
    (try simp only [ps126_125, ps130_125, ps130_126, ps131_125, ps131_126, ps131_130, ps135_125, ps135_126, ps135_130, ps135_131, ps136_125, ps136_126, ps136_130, ps136_131, ps136_135, ps137_125, ps137_126, ps137_130, ps137_131, ps137_135, ps137_136, ss4_3, ss8_3, ss8_4, ss9_3, ss9_4, ss9_8, ss13_3, ss13_4, ss13_8, ss13_9, ss14_3, ss14_4, ss14_8, ss14_9, ss14_13, ss15_3, ss15_4, ss15_8, ss15_9, ss15_13, ss15_14])
    exact q
  have st101_0 : ∀ (W : World) (s1 s3 : Value), T3 W0 W base v1 v2 v3 v1 v2 v3 l1 l2 l3 true false true x1 x2 x3 s1 undef s3 → wpG Try.prog .any ops Q S (TailD Try.prog .any ops Q n) 5 ((L.setIfInBounds 3 true).setIfInBounds 13 true) ((a0.put (some 125) s1).put (some 135) s3) W := by
    intro W s1 s3 h
    refine wpG_all r101_0 (by simp) ?_
    intro i hi
    rcases (show i = 4 ∨ i = 8 by simpa using hi) with rfl | rfl
    · obtain ⟨b, hb1, hb2, -⟩ := h.w1 rfl
      refine A1 _ _ _ _ b l1 (by (try simp only [ev_ne, ev_eq, put_size, ne_eq, Nat.reduceEqDiff, not_false_eq_true, hz125, hz130, hz135]); exact e1) (by (try simp only [ev_ne, ev_eq, put_size, ne_eq, Nat.reduceEqDiff, not_false_eq_true, hz125, hz130, hz135]); exact hb1) h.r1.own hb2 n1 (Nat.le_trans hbase h.fr.size) ?_
      intro g cap w' hown hg hat
      have h' := h.a1 hown hg hat
      refine ⟨hS _ h'.fr, ?_⟩
      have q := st101_1 _ _ s1 s3 h'
      (try simp only [ps126_125, ps130_125, ps130_126, ps131_125, ps131_126, ps131_130, ps135_125, ps135_126, ps135_130, ps135_131, ps136_125, ps136_126, ps136_130, ps136_131, ps136_135, ps137_125, ps137_126, ps137_130, ps137_131, ps137_135, ps137_136, ss4_3, ss8_3, ss8_4, ss9_3, ss9_4, ss9_8, ss13_3, ss13_4, ss13_8, ss13_9, ss14_3, ss14_4, ss14_8, ss14_9, ss14_13, ss15_3, ss15_4, ss15_8, ss15_9, ss15_13, ss15_14])
      refine PT _ _ _ _ hp01 (by (try simp only [ev_ne, ev_eq, put_size, ne_eq, Nat.reduceEqDiff, not_false_eq_true, hz125, hz130, hz135]); exact e7) (hS _ h'.fr) ?_
      (try simp only [ps126_125, ps130_125, ps130_126, ps131_125, ps131_126, ps131_130, ps135_125, ps135_126, ps135_130, ps135_131, ps136_125, ps136_126, ps136_130, ps136_131, ps136_135, ps137_125, ps137_126, ps137_130, ps137_131, ps137_135, ps137_136, ss4_3, ss8_3, ss8_4, ss9_3, ss9_4, ss9_8, ss13_3, ss13_4, ss13_8, ss13_9, ss14_3, ss14_4, ss14_8, ss14_9, ss14_13, ss15_3, ss15_4, ss15_8, ss15_9, ss15_13, ss15_14])
      exact q
    · refine B2 _ _ _ (by (try simp only [ev_ne, ev_eq, put_size, ne_eq, Nat.reduceEqDiff, not_false_eq_true, hz125, hz130, hz135]); exact y2) ⟨hS _ h.b2.fr, ?_⟩
      have q := st111_0 _ s1 _ s3 h.b2
      (try simp only [ps126_125, ps130_125, ps130_126, ps131_125, ps131_126, ps131_130, ps135_125, ps135_126, ps135_130, ps135_131, ps136_125, ps136_126, ps136_130, ps136_131, ps136_135, ps137_125, ps137_126, ps137_130, ps137_131, ps137_135, ps137_136, ss4_3, ss8_3, ss8_4, ss9_3, ss9_4, ss9_8, ss13_3, ss13_4, ss13_8, ss13_9, ss14_3, ss14_4, ss14_8, ss14_9, ss14_13, ss15_3, ss15_4, ss15_8, ss15_9, ss15_13, ss15_14])
      exact q
  have st110_0 : ∀ (W : World) (s1 s2 : Value), T3 W0 W base v1 v2 v3 v1 v2 v3 l1 l2 l3 true true false x1 x2 x3 s1 s2 undef → wpG Try.prog .any ops Q S (TailD Try.prog .any ops Q n) 5 ((L.setIfInBounds 3 true).setIfInBounds 8 true) ((a0.put (some 125) s1).put (some 130) s2) W := by
    intro W s1 s2 h
    refine wpG_all r110_0 (by simp) ?_
    intro i hi
    rcases (show i = 4 ∨ i = 13 by simpa using hi) with rfl | rfl
    · obtain ⟨b, hb1, hb2, -⟩ := h.w1 rfl
      refine A1 _ _ _ _ b l1 (by (try simp only [ev_ne, ev_eq, put_size, ne_eq, Nat.reduceEqDiff, not_false_eq_true, hz125, hz130, hz135]); exact e1) (by (try simp only [ev_ne, ev_eq, put_size, ne_eq, Nat.reduceEqDiff, not_false_eq_true, hz125, hz130, hz135]); exact hb1) h.r1.own hb2 n1 (Nat.le_trans hbase h.fr.size) ?_
      intro g cap w' hown hg hat
      have h' := h.a1 hown hg hat
      refine ⟨hS _ h'.fr, ?_⟩
      have q := st110_1 _ _ s1 s2 h'
      (try simp only [ps126_125, ps130_125, ps130_126, ps131_125, ps131_126, ps131_130, ps135_125, ps135_126, ps135_130, ps135_131, ps136_125, ps136_126, ps136_130, ps136_131, ps136_135, ps137_125, ps137_126, ps137_130, ps137_131, ps137_135, ps137_136, ss4_3, ss8_3, ss8_4, ss9_3, ss9_4, ss9_8, ss13_3, ss13_4, ss13_8, ss13_9, ss14_3, ss14_4, ss14_8, ss14_9, ss14_13, ss15_3, ss15_4, ss15_8, ss15_9, ss15_13, ss15_14])
      refine PT _ _ _ _ hp10 (by (try simp only [ev_ne, ev_eq, put_size, ne_eq, Nat.reduceEqDiff, not_false_eq_true, hz125, hz130, hz135]); exact e7) (hS _ h'.fr) ?_
      (try simp only [ps126_125, ps130_125, ps130_126, ps131_125, ps131_126, ps131_130, ps135_125, ps135_126, ps135_130, ps135_131, ps136_125, ps136_126, ps136_130, ps136_131, ps136_135, ps137_125, ps137_126, ps137_130, ps137_131, ps137_135, ps137_136, ss4_3, ss8_3, ss8_4, ss9_3, ss9_4, ss9_8, ss13_3, ss13_4, ss13_8, ss13_9, ss14_3, ss14_4, ss14_8, ss14_9, ss14_13, ss15_3, ss15_4, ss15_8, ss15_9, ss15_13, ss15_14])
      exact q
    · refine B3 _ _ _ (by (try simp only [ev_ne, ev_eq, put_size, ne_eq, Nat.reduceEqDiff, not_false_eq_true, hz125, hz130, hz135]); exact y3) ⟨hS _ h.b3.fr, ?_⟩
      have q := st111_0 _ s1 s2 _ h.b3
      (try simp only [ps126_125, ps130_125, ps130_126, ps131_125, ps131_126, ps131_130, ps135_125, ps135_126, ps135_130, ps135_131, ps136_125, ps136_126, ps136_130, ps136_131, ps136_135, ps137_125, ps137_126, ps137_130, ps137_131, ps137_135, ps137_136, ss4_3, ss8_3, ss8_4, ss9_3, ss9_4, ss9_8, ss13_3, ss13_4, ss13_8, ss13_9, ss14_3, ss14_4, ss14_8, ss14_9, ss14_13, ss15_3, ss15_4, ss15_8, ss15_9, ss15_13, ss15_14])
      exact q
  have st001_0 : ∀ (W : World) (s3 : Value), T3 W0 W base v1 v2 v3 v1 v2 v3 l1 l2 l3 false false true x1 x2 x3 undef undef s3 → wpG Try.prog .any ops Q S (TailD Try.prog .any ops Q n) 6 (L.setIfInBounds 13 true) (a0.put (some 135) s3) W := by
    intro W s3 h
    refine wpG_all r001_0 (by simp) ?_
    intro i hi
    rcases (show i = 3 ∨ i = 8 by simpa using hi) with rfl | rfl
    · refine B1 _ _ _ (by (try simp only [ev_ne, ev_eq, put_size, ne_eq, Nat.reduceEqDiff, not_false_eq_true, hz125, hz130, hz135]); exact y1) ⟨hS _ h.b1.fr, ?_⟩
      have q := st101_0 _ _ s3 h.b1
      (try simp only [ps126_125, ps130_125, ps130_126, ps131_125, ps131_126, ps131_130, ps135_125, ps135_126, ps135_130, ps135_131, ps136_125, ps136_126, ps136_130, ps136_131, ps136_135, ps137_125, ps137_126, ps137_130, ps137_131, ps137_135, ps137_136, ss4_3, ss8_3, ss8_4, ss9_3, ss9_4, ss9_8, ss13_3, ss13_4, ss13_8, ss13_9, ss14_3, ss14_4, ss14_8, ss14_9, ss14_13, ss15_3, ss15_4, ss15_8, ss15_9, ss15_13, ss15_14])
      exact q
    · refine B2 _ _ _ (by (try simp only [ev_ne, ev_eq, put_size, ne_eq, Nat.reduceEqDiff, not_false_eq_true, hz125, hz130, hz135]); exact y2) ⟨hS _ h.b2.fr, ?_⟩
      have q := st011_0 _ _ s3 h.b2
      (try simp only [ps126_125, ps130_125, ps130_126, ps131_125, ps131_126, ps131_130, ps135_125, ps135_126, ps135_130, ps135_131, ps136_125, ps136_126, ps136_130, ps136_131, ps136_135, ps137_125, ps137_126, ps137_130, ps137_131, ps137_135, ps137_136, ss4_3, ss8_3, ss8_4, ss9_3, ss9_4, ss9_8, ss13_3, ss13_4, ss13_8, ss13_9, ss14_3, ss14_4, ss14_8, ss14_9, ss14_13, ss15_3, ss15_4, ss15_8, ss15_9, ss15_13, ss15_14])
      exact q
  have st010_0 : ∀ (W : World) (s2 : Value), T3 W0 W base v1 v2 v3 v1 v2 v3 l1 l2 l3 false true false x1 x2 x3 undef s2 undef → wpG Try.prog .any ops Q S (TailD Try.prog .any ops Q n) 6 (L.setIfInBounds 8 true) (a0.put (some 130) s2) W := by
    intro W s2 h
    refine wpG_all r010_0 (by simp) ?_
    intro i hi
    rcases (show i = 3 ∨ i = 13 by simpa using hi) with rfl | rfl
    · refine B1 _ _ _ (by (try simp only [ev_ne, ev_eq, put_size, ne_eq, Nat.reduceEqDiff, not_false_eq_true, hz125, hz130, hz135]); exact y1) ⟨hS _ h.b1.fr, ?_⟩
      have q := st110_0 _ _ s2 h.b1
      (try simp only [ps126_125, ps130_125, ps130_126, ps131_125, ps131_126, ps131_130, ps135_125, ps135_126, ps135_130, ps135_131, ps136_125, ps136_126, ps136_130, ps136_131, ps136_135, ps137_125, ps137_126, ps137_130, ps137_131, ps137_135, ps137_136, ss4_3, ss8_3, ss8_4, ss9_3, ss9_4, ss9_8, ss13_3, ss13_4, ss13_8, ss13_9, ss14_3, ss14_4, ss14_8, ss14_9, ss14_13, ss15_3, ss15_4, ss15_8, ss15_9, ss15_13, ss15_14])
      exact q
    · refine B3 _ _ _ (by (try simp only [ev_ne, ev_eq, put_size, ne_eq, Nat.reduceEqDiff, not_false_eq_true, hz125, hz130, hz135]); exact y3) ⟨hS _ h.b3.fr, ?_⟩
      have q := st011_0 _ s2 _ h.b3
      (try simp only [ps126_125, ps130_125, ps130_126, ps131_125, ps131_126, ps131_130, ps135_125, ps135_126, ps135_130, ps135_131, ps136_125, ps136_126, ps136_130, ps136_131, ps136_135, ps137_125, ps137_126, ps137_130, ps137_131, ps137_135, ps137_136, ss4_3, ss8_3, ss8_4, ss9_3, ss9_4, ss9_8, ss13_3, ss13_4, ss13_8, ss13_9, ss14_3, ss14_4, ss14_8, ss14_9, ss14_13, ss15_3, ss15_4, ss15_8, ss15_9, ss15_13, ss15_14])
      exact q
  have st100_0 : ∀ (W : World) (s1 : Value), T3 W0 W base v1 v2 v3 v1 v2 v3 l1 l2 l3 true false false x1 x2 x3 s1 undef undef → wpG Try.prog .any ops Q S (TailD Try.prog .any ops Q n) 6 (L.setIfInBounds 3 true) (a0.put (some 125) s1) W := by
    intro W s1 h
    refine wpG_all r100_0 (by simp) ?_
    intro i hi
    rcases (show i = 4 ∨ i = 8 ∨ i = 13 by simpa using hi) with rfl | rfl | rfl
    · obtain ⟨b, hb1, hb2, -⟩ := h.w1 rfl
      refine A1 _ _ _ _ b l1 (by (try simp only [ev_ne, ev_eq, put_size, ne_eq, Nat.reduceEqDiff, not_false_eq_true, hz125, hz130, hz135]); exact e1) (by (try simp only [ev_ne, ev_eq, put_size, ne_eq, Nat.reduceEqDiff, not_false_eq_true, hz125, hz130, hz135]); exact hb1) h.r1.own hb2 n1 (Nat.le_trans hbase h.fr.size) ?_
      intro g cap w' hown hg hat
      have h' := h.a1 hown hg hat
      refine ⟨hS _ h'.fr, ?_⟩
      have q := st100_1 _ _ s1 h'
      (try simp only [ps126_125, ps130_125, ps130_126, ps131_125, ps131_126, ps131_130, ps135_125, ps135_126, ps135_130, ps135_131, ps136_125, ps136_126, ps136_130, ps136_131, ps136_135, ps137_125, ps137_126, ps137_130, ps137_131, ps137_135, ps137_136, ss4_3, ss8_3, ss8_4, ss9_3, ss9_4, ss9_8, ss13_3, ss13_4, ss13_8, ss13_9, ss14_3, ss14_4, ss14_8, ss14_9, ss14_13, ss15_3, ss15_4, ss15_8, ss15_9, ss15_13, ss15_14])
      refine PT _ _ _ _ hp00 (by (try simp only [ev_ne, ev_eq, put_size, ne_eq, Nat.reduceEqDiff, not_false_eq_true, hz125, hz130, hz135]); exact e7) (hS _ h'.fr) ?_
      (try simp only [ps126_125, ps130_125, ps130_126, ps131_125, ps131_126, ps131_130, ps135_125, ps135_126, ps135_130, ps135_131, ps136_125, ps136_126, ps136_130, ps136_131, ps136_135, ps137_125, ps137_126, ps137_130, ps137_131, ps137_135, ps137_136, ss4_3, ss8_3, ss8_4, ss9_3, ss9_4, ss9_8, ss13_3, ss13_4, ss13_8, ss13_9, ss14_3, ss14_4, ss14_8, ss14_9, ss14_13, ss15_3, ss15_4, ss15_8, ss15_9, ss15_13, ss15_14])
      exact q
    · refine B2 _ _ _ (by (try simp only [ev_ne, ev_eq, put_size, ne_eq, Nat.reduceEqDiff, not_false_eq_true, hz125, hz130, hz135]); exact y2) ⟨hS _ h.b2.fr, ?_⟩
      have q := st110_0 _ s1 _ h.b2
      (try simp only [ps126_125, ps130_125, ps130_126, ps131_125, ps131_126, ps131_130, ps135_125, ps135_126, ps135_130, ps135_131, ps136_125, ps136_126, ps136_130, ps136_131, ps136_135, ps137_125, ps137_126, ps137_130, ps137_131, ps137_135, ps137_136, ss4_3, ss8_3, ss8_4, ss9_3, ss9_4, ss9_8, ss13_3, ss13_4, ss13_8, ss13_9, ss14_3, ss14_4, ss14_8, ss14_9, ss14_13, ss15_3, ss15_4, ss15_8, ss15_9, ss15_13, ss15_14])
      exact q
    · refine B3 _ _ _ (by (try simp only [ev_ne, ev_eq, put_size, ne_eq, Nat.reduceEqDiff, not_false_eq_true, hz125, hz130, hz135]); exact y3) ⟨hS _ h.b3.fr, ?_⟩
      have q := st101_0 _ s1 _ h.b3
      (try simp only [ps126_125, ps130_125, ps130_126, ps131_125, ps131_126, ps131_130, ps135_125, ps135_126, ps135_130, ps135_131, ps136_125, ps136_126, ps136_130, ps136_131, ps136_135, ps137_125, ps137_126, ps137_130, ps137_131, ps137_135, ps137_136, ss4_3, ss8_3, ss8_4, ss9_3, ss9_4, ss9_8, ss13_3, ss13_4, ss13_8, ss13_9, ss14_3, ss14_4, ss14_8, ss14_9, ss14_13, ss15_3, ss15_4, ss15_8, ss15_9, ss15_13, ss15_14])
      exact q
  have st000_0 : ∀ (W : World), T3 W0 W base v1 v2 v3 v1 v2 v3 l1 l2 l3 false false false x1 x2 x3 undef undef undef → wpG Try.prog .any ops Q S (TailD Try.prog .any ops Q n) 7 L a0 W := by
    intro W  h
    refine wpG_all r000_0 (by simp) ?_
    intro i hi
    rcases (show i = 3 ∨ i = 8 ∨ i = 13 by simpa using hi) with rfl | rfl | rfl
    · refine B1 _ _ _ (by (try simp only [ev_ne, ev_eq, put_size, ne_eq, Nat.reduceEqDiff, not_false_eq_true, hz125, hz130, hz135]); exact y1) ⟨hS _ h.b1.fr, ?_⟩
      have q := st100_0 _ _ h.b1
      (try simp only [ps126_125, ps130_125, ps130_126, ps131_125, ps131_126, ps131_130, ps135_125, ps135_126, ps135_130, ps135_131, ps136_125, ps136_126, ps136_130, ps136_131, ps136_135, ps137_125, ps137_126, ps137_130, ps137_131, ps137_135, ps137_136, ss4_3, ss8_3, ss8_4, ss9_3, ss9_4, ss9_8, ss13_3, ss13_4, ss13_8, ss13_9, ss14_3, ss14_4, ss14_8, ss14_9, ss14_13, ss15_3, ss15_4, ss15_8, ss15_9, ss15_13, ss15_14])
      exact q
    · refine B2 _ _ _ (by (try simp only [ev_ne, ev_eq, put_size, ne_eq, Nat.reduceEqDiff, not_false_eq_true, hz125, hz130, hz135]); exact y2) ⟨hS _ h.b2.fr, ?_⟩
      have q := st010_0 _ _ h.b2
      (try simp only [ps126_125, ps130_125, ps130_126, ps131_125, ps131_126, ps131_130, ps135_125, ps135_126, ps135_130, ps135_131, ps136_125, ps136_126, ps136_130, ps136_131, ps136_135, ps137_125, ps137_126, ps137_130, ps137_131, ps137_135, ps137_136, ss4_3, ss8_3, ss8_4, ss9_3, ss9_4, ss9_8, ss13_3, ss13_4, ss13_8, ss13_9, ss14_3, ss14_4, ss14_8, ss14_9, ss14_13, ss15_3, ss15_4, ss15_8, ss15_9, ss15_13, ss15_14])
      exact q
    · refine B3 _ _ _ (by (try simp only [ev_ne, ev_eq, put_size, ne_eq, Nat.reduceEqDiff, not_false_eq_true, hz125, hz130, hz135]); exact y3) ⟨hS _ h.b3.fr, ?_⟩
      have q := st001_0 _ _ h.b3
      (try simp only [ps126_125, ps130_125, ps130_126, ps131_125, ps131_126, ps131_130, ps135_125, ps135_126, ps135_130, ps135_131, ps136_125, ps136_126, ps136_130, ps136_131, ps136_135, ps137_125, ps137_126, ps137_130, ps137_131, ps137_135, ps137_136, ss4_3, ss8_3, ss8_4, ss9_3, ss9_4, ss9_8, ss13_3, ss13_4, ss13_8, ss13_9, ss14_3, ss14_4, ss14_8, ss14_9, ss14_13, ss15_3, ss15_4, ss15_8, ss15_9, ss15_13, ss15_14])
      exact q
  exact st000_0 W0 h0
end Go.Proofs.Ytlfeoofchebbkaa
