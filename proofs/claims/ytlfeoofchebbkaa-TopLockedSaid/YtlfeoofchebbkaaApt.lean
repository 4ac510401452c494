/- Three rows that are appended to in one statement, in whatever order: what holds between two operations. -/
import Derived.Test.YtlfeoofchebbkaaReg
import Derived.Test.YtlfeoofchebbkaaRow
import Derived.Deep.AppendLies
namespace Go.Proofs.Ytlfeoofchebbkaa
set_option linter.unusedSimpArgs false
set_option linter.unusedVariables false
open Go.RowKit
/-- Nothing that lay in W0 has turned but the rows of three headers. -/
structure Fr3 (W0 W : World) (v1 v2 v3 : Value) : Prop where
  os : W.os = W0.os
  tape : W.tape = W0.tape
  output : W.output = W0.output
  size : W0.heap.size ≤ W.heap.size
  blk : ∀ b, b < W0.heap.size → v1.ownBlock ≠ some b → v2.ownBlock ≠ some b → v3.ownBlock ≠ some b → W.heap[b]? = W0.heap[b]?
/-- A row: what it holds now, and that its block is the old one or a new one. -/
structure Rw (W0 W : World) (base : Nat) (v u : Value) (l : List Int) : Prop where
  own : W.ownsRow base 3 1 u l.length (l.map (Value.int .i64))
  at_ : u.ownBlock = v.ownBlock ∨ ∃ g, u.ownBlock = some g ∧ W0.heap.size ≤ g
/-- A number that waits to be appended, in a block of its own. -/
def Wt (W0 W : World) (β : Bool) (x : Int) (s u1 u2 u3 : Value) : Prop := β = true → ∃ b, s = .slice (some ⟨b, 0, none⟩) 1 1 ∧ W.heap[b]? = some (.cells #[.int .i64 x] 3 (0, 0)) ∧ W0.heap.size ≤ b ∧ u1.ownBlock ≠ some b ∧ u2.ownBlock ≠ some b ∧ u3.ownBlock ≠ some b
structure T3 (W0 W : World) (base : Nat) (v1 v2 v3 u1 u2 u3 : Value) (l1 l2 l3 : List Int) (β1 β2 β3 : Bool) (x1 x2 x3 : Int) (s1 s2 s3 : Value) : Prop where
  fr : Fr3 W0 W v1 v2 v3
  r1 : Rw W0 W base v1 u1 l1
  r2 : Rw W0 W base v2 u2 l2
  r3 : Rw W0 W base v3 u3 l3
  d12 : u1.ownBlock = none ∨ u1.ownBlock ≠ u2.ownBlock
  d13 : u1.ownBlock = none ∨ u1.ownBlock ≠ u3.ownBlock
  d23 : u2.ownBlock = none ∨ u2.ownBlock ≠ u3.ownBlock
  w1 : Wt W0 W β1 x1 s1 u1 u2 u3
  w2 : Wt W0 W β2 x2 s2 u1 u2 u3
  w3 : Wt W0 W β3 x3 s3 u1 u2 u3
section
variable {W0 W : World} {base : Nat} {v1 v2 v3 u1 u2 u3 : Value} {l1 l2 l3 : List Int} {β1 β2 β3 : Bool} {x1 x2 x3 : Int} {s1 s2 s3 : Value}
theorem Wt.alloc {β : Bool} {x : Int} {s : Value} (h : Wt W0 W β x s u1 u2 u3) (o : Obj) : Wt W0 (W.alloc o) β x s u1 u2 u3 := fun hb => by
  obtain ⟨b, h1, h2, h3⟩ := h hb
  exact ⟨b, h1, (Below.heap_alloc W o b (Array.getElem?_eq_some_iff.1 h2).1).trans h2, h3⟩
theorem Fr3.alloc (h : Fr3 W0 W v1 v2 v3) (o : Obj) : Fr3 W0 (W.alloc o) v1 v2 v3 :=
  ⟨h.os, h.tape, h.output, by have := h.size; simp; omega, fun b hb n1 n2 n3 => (Below.heap_alloc W o b (by have := h.size; omega)).trans (h.blk b hb n1 n2 n3)⟩
theorem Rw.alloc {v u : Value} {l : List Int} (h : Rw W0 W base v u l) (o : Obj) : Rw W0 (W.alloc o) base v u l := ⟨h.own.alloc o, h.at_⟩
theorem Rw.ne {v u : Value} {l : List Int} (h : Rw W0 W base v u l) : u.ownBlock ≠ some W.heap.size := fun e => by have := (h.own.lt _ e).2; omega
/-- Another number waits. -/
theorem T3.build (h : T3 W0 W base v1 v2 v3 u1 u2 u3 l1 l2 l3 β1 β2 β3 x1 x2 x3 s1 s2 s3) (x : Int) : ∀ β, Wt W0 (W.alloc (.cells #[.int .i64 x] 3)) β x (.slice (some ⟨W.heap.size, 0, none⟩) 1 1) u1 u2 u3 := fun _ _ =>
  ⟨_, rfl, heap_alloc_new W _, h.fr.size, h.r1.ne, h.r2.ne, h.r3.ne⟩
theorem T3.b1 (h : T3 W0 W base v1 v2 v3 u1 u2 u3 l1 l2 l3 β1 β2 β3 x1 x2 x3 s1 s2 s3) : T3 W0 (W.alloc (.cells #[.int .i64 x1] 3)) base v1 v2 v3 u1 u2 u3 l1 l2 l3 true β2 β3 x1 x2 x3 (.slice (some ⟨W.heap.size, 0, none⟩) 1 1) s2 s3 :=
  ⟨h.fr.alloc _, h.r1.alloc _, h.r2.alloc _, h.r3.alloc _, h.d12, h.d13, h.d23, h.build x1 _, h.w2.alloc _, h.w3.alloc _⟩
theorem T3.b2 (h : T3 W0 W base v1 v2 v3 u1 u2 u3 l1 l2 l3 β1 β2 β3 x1 x2 x3 s1 s2 s3) : T3 W0 (W.alloc (.cells #[.int .i64 x2] 3)) base v1 v2 v3 u1 u2 u3 l1 l2 l3 β1 true β3 x1 x2 x3 s1 (.slice (some ⟨W.heap.size, 0, none⟩) 1 1) s3 :=
  ⟨h.fr.alloc _, h.r1.alloc _, h.r2.alloc _, h.r3.alloc _, h.d12, h.d13, h.d23, h.w1.alloc _, h.build x2 _, h.w3.alloc _⟩
theorem T3.b3 (h : T3 W0 W base v1 v2 v3 u1 u2 u3 l1 l2 l3 β1 β2 β3 x1 x2 x3 s1 s2 s3) : T3 W0 (W.alloc (.cells #[.int .i64 x3] 3)) base v1 v2 v3 u1 u2 u3 l1 l2 l3 β1 β2 true x1 x2 x3 s1 s2 (.slice (some ⟨W.heap.size, 0, none⟩) 1 1) :=
  ⟨h.fr.alloc _, h.r1.alloc _, h.r2.alloc _, h.r3.alloc _, h.d12, h.d13, h.d23, h.w1.alloc _, h.w2.alloc _, h.build x3 _⟩
/-- Behind an append to row u: the row's new header. -/
theorem Rw.app {W' : World} {v u : Value} {l : List Int} {x : Int} {g cap : Nat} (h : Rw W0 W base v u l) (hs : W0.heap.size ≤ W.heap.size) (hown : W'.ownsRow base 3 1 (.slice (some ⟨g, 0, none⟩) (l.length + 1) cap) (l.length + 1) (l.map (Value.int .i64) ++ [.int .i64 x])) (hat : u.ownBlock = some g ∨ g = W.heap.size) :
    Rw W0 W' base v (.slice (some ⟨g, 0, none⟩) (l.length + 1) cap) (l ++ [x]) := by
  refine ⟨by simpa using hown, ?_⟩
  show some g = _ ∨ ∃ g', some g = some g' ∧ _
  rcases hat with e | e
  · rcases h.at_ with h1 | ⟨g', h1, h2⟩
    · exact .inl (e.symm.trans h1)
    · rw [e] at h1; exact .inr ⟨g, rfl, by injection h1 with h1; omega⟩
  · exact .inr ⟨g, rfl, by omega⟩
theorem Rw.other {W' : World} {v u u' : Value} {l : List Int} (h : Rw W0 W base v u l) (hg : W.grownBy W' u'.ownBlock) (hd : u.ownBlock = none ∨ u.ownBlock ≠ u'.ownBlock) : Rw W0 W' base v u l := ⟨h.own.kept hg hd, h.at_⟩
theorem Fr3.app {W' : World} {v u : Value} {l : List Int} (h : Fr3 W0 W v1 v2 v3) (hr : Rw W0 W base v u l) (hv : v = v1 ∨ v = v2 ∨ v = v3) (hg : W.grownBy W' u.ownBlock) : Fr3 W0 W' v1 v2 v3 :=
  ⟨hg.os.trans h.os, hg.tape.trans h.tape, hg.output.trans h.output, Nat.le_trans h.size hg.size, fun b hb n1 n2 n3 => (hg.block b (Nat.lt_of_lt_of_le hb h.size) (fun e => by
    rcases hr.at_ with h1 | ⟨g, h1, h2⟩
    · rw [h1] at e
      rcases hv with rfl | rfl | rfl
      · exact n1 e.symm
      · exact n2 e.symm
      · exact n3 e.symm
    · rw [h1] at e; injection e with e; omega)).trans (h.blk b hb n1 n2 n3)⟩
theorem nd {W' : World} {u u' : Value} {g n cap : Nat} {l : List Int} {v : Value} (hr : Rw W0 W base v u' l) (hd : u'.ownBlock = none ∨ u'.ownBlock ≠ u.ownBlock) (hat : u.ownBlock = some g ∨ g = W.heap.size) : u'.ownBlock ≠ some g := fun e => by
  rcases hat with h | h
  · rcases hd with h1 | h1
    · rw [h1] at e; cases e
    · exact h1 (e.trans h.symm)
  · rw [h] at e; exact hr.ne e
theorem Wt.app {W' : World} {β : Bool} {x : Int} {s u u1' u2' u3' : Value} {g : Nat} (h : Wt W0 W β x s u1 u2 u3) (hg : W.grownBy W' u.ownBlock) (hu : u = u1 ∨ u = u2 ∨ u = u3) (hat : u.ownBlock = some g ∨ g = W.heap.size)
    (k1 : u1'.ownBlock = u1.ownBlock ∨ u1'.ownBlock = some g) (k2 : u2'.ownBlock = u2.ownBlock ∨ u2'.ownBlock = some g) (k3 : u3'.ownBlock = u3.ownBlock ∨ u3'.ownBlock = some g) : Wt W0 W' β x s u1' u2' u3' := fun hb => by
  obtain ⟨b, h1, h2, h3, n1, n2, n3⟩ := h hb
  have hlt := (Array.getElem?_eq_some_iff.1 h2).1
  have hub : u.ownBlock ≠ some b := by rcases hu with rfl | rfl | rfl <;> assumption
  have hgb : g ≠ b := fun e => by
    rcases hat with h | h
    · rw [e] at h; exact hub h
    · omega
  have kk : ∀ {p q : Value}, (p.ownBlock = q.ownBlock ∨ p.ownBlock = some g) → q.ownBlock ≠ some b → p.ownBlock ≠ some b := fun k n e => by
    rcases k with k | k
    · exact n (k.symm.trans e)
    · rw [k] at e; injection e with e; exact hgb e
  exact ⟨b, h1, (hg.block b hlt (fun e => hub e.symm)).trans h2, h3, kk k1 n1, kk k2 n2, kk k3 n3⟩
theorem T3.a1 {W' : World} {g cap : Nat} (h : T3 W0 W base v1 v2 v3 u1 u2 u3 l1 l2 l3 β1 β2 β3 x1 x2 x3 s1 s2 s3) (hown : W'.ownsRow base 3 1 (.slice (some ⟨g, 0, none⟩) (l1.length + 1) cap) (l1.length + 1) (l1.map (Value.int .i64) ++ [.int .i64 x1])) (hg : W.grownBy W' u1.ownBlock) (hat : u1.ownBlock = some g ∨ g = W.heap.size) :
    T3 W0 W' base v1 v2 v3 (.slice (some ⟨g, 0, none⟩) (l1.length + 1) cap) u2 u3 (l1 ++ [x1]) l2 l3 false β2 β3 x1 x2 x3 s1 s2 s3 := by
  have e12 : u2.ownBlock = none ∨ u2.ownBlock ≠ u1.ownBlock := by
    by_cases h2 : u2.ownBlock = none
    · exact .inl h2
    · refine .inr fun e => ?_
      rcases h.d12 with h1 | h1
      · exact h2 (e.trans h1)
      · exact h1 e.symm
  have e13 : u3.ownBlock = none ∨ u3.ownBlock ≠ u1.ownBlock := by
    by_cases h2 : u3.ownBlock = none
    · exact .inl h2
    · refine .inr fun e => ?_
      rcases h.d13 with h1 | h1
      · exact h2 (e.trans h1)
      · exact h1 e.symm
  have n2 := nd (W' := W') (n := 0) (cap := 0) h.r2 e12 hat
  have n3 := nd (W' := W') (n := 0) (cap := 0) h.r3 e13 hat
  exact ⟨h.fr.app h.r1 (.inl rfl) hg, h.r1.app h.fr.size hown hat, h.r2.other hg e12, h.r3.other hg e13, .inr fun e => n2 e.symm, .inr fun e => n3 e.symm, h.d23,
    (fun hb => by cases hb), h.w2.app hg (.inl rfl) hat (.inr rfl) (.inl rfl) (.inl rfl), h.w3.app hg (.inl rfl) hat (.inr rfl) (.inl rfl) (.inl rfl)⟩
theorem T3.a2 {W' : World} {g cap : Nat} (h : T3 W0 W base v1 v2 v3 u1 u2 u3 l1 l2 l3 β1 β2 β3 x1 x2 x3 s1 s2 s3) (hown : W'.ownsRow base 3 1 (.slice (some ⟨g, 0, none⟩) (l2.length + 1) cap) (l2.length + 1) (l2.map (Value.int .i64) ++ [.int .i64 x2])) (hg : W.grownBy W' u2.ownBlock) (hat : u2.ownBlock = some g ∨ g = W.heap.size) :
    T3 W0 W' base v1 v2 v3 u1 (.slice (some ⟨g, 0, none⟩) (l2.length + 1) cap) u3 l1 (l2 ++ [x2]) l3 β1 false β3 x1 x2 x3 s1 s2 s3 := by
  have e23 : u3.ownBlock = none ∨ u3.ownBlock ≠ u2.ownBlock := by
    by_cases h2 : u3.ownBlock = none
    · exact .inl h2
    · refine .inr fun e => ?_
      rcases h.d23 with h1 | h1
      · exact h2 (e.trans h1)
      · exact h1 e.symm
  have n1 := nd (W' := W') (n := 0) (cap := 0) h.r1 h.d12 hat
  have n3 := nd (W' := W') (n := 0) (cap := 0) h.r3 e23 hat
  exact ⟨h.fr.app h.r2 (.inr (.inl rfl)) hg, h.r1.other hg h.d12, h.r2.app h.fr.size hown hat, h.r3.other hg e23, .inr fun e => n1 e, h.d13, .inr fun e => n3 e.symm,
    h.w1.app hg (.inr (.inl rfl)) hat (.inl rfl) (.inr rfl) (.inl rfl), (fun hb => by cases hb), h.w3.app hg (.inr (.inl rfl)) hat (.inl rfl) (.inr rfl) (.inl rfl)⟩
theorem T3.a3 {W' : World} {g cap : Nat} (h : T3 W0 W base v1 v2 v3 u1 u2 u3 l1 l2 l3 β1 β2 β3 x1 x2 x3 s1 s2 s3) (hown : W'.ownsRow base 3 1 (.slice (some ⟨g, 0, none⟩) (l3.length + 1) cap) (l3.length + 1) (l3.map (Value.int .i64) ++ [.int .i64 x3])) (hg : W.grownBy W' u3.ownBlock) (hat : u3.ownBlock = some g ∨ g = W.heap.size) :
    T3 W0 W' base v1 v2 v3 u1 u2 (.slice (some ⟨g, 0, none⟩) (l3.length + 1) cap) l1 l2 (l3 ++ [x3]) β1 β2 false x1 x2 x3 s1 s2 s3 := by
  have n1 := nd (W' := W') (n := 0) (cap := 0) h.r1 h.d13 hat
  have n2 := nd (W' := W') (n := 0) (cap := 0) h.r2 h.d23 hat
  exact ⟨h.fr.app h.r3 (.inr (.inr rfl)) hg, h.r1.other hg h.d13, h.r2.other hg h.d23, h.r3.app h.fr.size hown hat, h.d12, .inr fun e => n1 e, .inr fun e => n2 e,
    h.w1.app hg (.inr (.inr rfl)) hat (.inl rfl) (.inl rfl) (.inr rfl), h.w2.app hg (.inr (.inr rfl)) hat (.inl rfl) (.inl rfl) (.inr rfl), (fun hb => by cases hb)⟩
end
end Go.Proofs.Ytlfeoofchebbkaa
