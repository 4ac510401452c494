/- Two rows of the call's own, appended to in one statement. -/
import Derived.Test.YtlfeoofchebbkaaDoorFit
import Derived.Test.YtlfeoofchebbkaaDoorReg
import Derived.Deep.AppendLies
namespace Go.Proofs.YtlfeoofchebbkaaDoor
set_option linter.unusedSimpArgs false
set_option linter.unusedVariables false
open Go.RowKit
/-- A block that is known whole. -/
def Blk (w : World) (g : Nat) (t : TypeId) (cs : Array Value) : Prop := w.heap[g]? = some (.cells cs t (0, 0))
section
variable {w w' : World} {g : Nat} {t : TypeId} {cs : Array Value}
theorem Blk.lt (h : Blk w g t cs) : g < w.heap.size := by
  rcases Nat.lt_or_ge g w.heap.size with hlt | hge
  · exact hlt
  · unfold Blk at h; rw [Array.getElem?_eq_none hge] at h; cases h
theorem Blk.new (w : World) (t : TypeId) (cs : Array Value) : Blk (w.alloc (.cells cs t)) w.heap.size t cs := heap_alloc_new w _
theorem Blk.cell (h : Blk w g t cs) (i : Nat) : w.cell? ⟨g, i, none⟩ = cs[i]? := cell_of_row w g i cs t (0, 0) h
theorem Blk.frozen (h : Blk w g t cs) (i : Nat) : w.frozen? ⟨g, i, none⟩ = false := by
  unfold Blk at h
  simp [World.frozen?, h]
theorem Blk.grown {row : Option Nat} (h : Blk w g t cs) (hb : w.grownBy w' row) (hg : some g ≠ row) : Blk w' g t cs := (hb.block g h.lt hg).trans h
theorem Blk.set_ (h : Blk w g t cs) (i : Nat) (u : Value) : Blk (w.setCell ⟨g, i, none⟩ u) g t (cs.setIfInBounds i u) := by
  unfold Blk at h ⊢
  simp [World.setCell, Array.getElem?_modify, h]
theorem own_blk_ne {base : Nat} {e : TypeId} {size n : Nat} {v : Value} {xs : List Value} (h : w.ownsRow base e size v n xs) (hg : Blk w g t cs) (hne : e ≠ t) : some g ≠ v.ownBlock := by
  rcases h.2 with ⟨rfl, _⟩ | ⟨g', cap, cur, rfl, _, hh, _⟩
  · simp [Value.ownBlock]
  · intro he
    have : g = g' := by simpa [Value.ownBlock] using he
    subst this
    unfold Blk at hg
    rw [hg] at hh
    injection hh with hh
    injection hh with _ ht
    exact hne ht.symm
end
theorem grown_alloc (w : World) (o : Obj) (row : Option Nat) : w.grownBy (w.alloc o) row := grown_of_below (below_new w o) row
theorem ownBlock_some (g n c : Nat) : (Value.slice (some ⟨g, 0, none⟩) n c).ownBlock = some g := rfl
/-- Two rows of the call's own, apart from each other. -/
def Apart2 (a b : Value) : Prop := a.ownBlock = none ∨ a.ownBlock ≠ b.ownBlock
theorem Apart2.kept {w w' : World} {base : Nat} {e : TypeId} {size n : Nat} {a b : Value} {xs : List Value} (h : Apart2 a b) (hb : w.ownsRow base e size b n xs) (hg : w.grownBy w' a.ownBlock) : w'.ownsRow base e size b n xs := by
  refine hb.kept hg ?_
  rcases h with h | h
  · rw [h]
    by_cases hn : b.ownBlock = none
    · exact .inl hn
    · exact .inr hn
  · exact .inr (Ne.symm h)
theorem Apart2.kept' {w w' : World} {base : Nat} {e : TypeId} {size n : Nat} {a b : Value} {xs : List Value} (h : Apart2 a b) (ha : w.ownsRow base e size a n xs) (hg : w.grownBy w' b.ownBlock) : w'.ownsRow base e size a n xs :=
  ha.kept hg (h.imp id id)
/-- Behind an append to the first one. -/
theorem Apart2.left {w : World} {base : Nat} {e : TypeId} {size n : Nat} {a b : Value} {ys : List Value} (h : Apart2 a b) (hb : w.ownsRow base e size b n ys) {g k c : Nat} (hat : a.ownBlock = some g ∨ g = w.heap.size) :
    Apart2 (.slice (some ⟨g, 0, none⟩) k c) b := by
  right
  rw [ownBlock_some]
  rcases hat with hat | hat
  · rcases h with h | h
    · rw [h] at hat; cases hat
    · rw [← hat]; exact h
  · intro he
    have := (hb.lt g he.symm).2
    omega
/-- Behind an append to the second one. -/
theorem Apart2.right {w : World} {base : Nat} {e : TypeId} {size n : Nat} {a b : Value} {xs : List Value} (h : Apart2 a b) (ha : w.ownsRow base e size a n xs) {g k c : Nat} (hat : b.ownBlock = some g ∨ g = w.heap.size) :
    Apart2 a (.slice (some ⟨g, 0, none⟩) k c) := by
  rcases h with h | h
  · exact .inl h
  · right
    rw [ownBlock_some]
    rcases hat with hat | hat
    · rw [← hat]; exact h
    · intro he
      have := (ha.lt g he).2
      omega
/-- Where a walk that appends to two rows of a direction stands. -/
structure AcR (w : World) (base dg pb : Nat) (c0 c1 vz sd : Value) (p : Piece) (ra : Value) (na : Nat) (xs : List Value) (rb : Value) (nb : Nat) (ys : List Value) (W : World) : Prop where
  D : Blk W dg 86 #[c0, c1, vz, sd]
  pp : Blk W pb 60 (pcs p)
  R1 : W.ownsRow base 88 2 ra na xs
  R2 : W.ownsRow base 88 2 rb nb ys
  sp : Apart2 ra rb
  bw : Below base w W
  hb : base ≤ W.heap.size
  dgb : base ≤ dg
section
variable {w W W' : World} {base dg pb : Nat} {c0 c1 vz sd : Value} {p : Piece} {ra : Value} {na : Nat} {xs : List Value} {rb : Value} {nb : Nat} {ys : List Value}
theorem AcR.keep (h : AcR w base dg pb c0 c1 vz sd p ra na xs rb nb ys W) (hg : W.grownBy W' none) : AcR w base dg pb c0 c1 vz sd p ra na xs rb nb ys W' where
  D := h.D.grown hg (by simp)
  pp := h.pp.grown hg (by simp)
  R1 := h.R1.kept hg (by by_cases e : ra.ownBlock = none <;> simp [e])
  R2 := h.R2.kept hg (by by_cases e : rb.ownBlock = none <;> simp [e])
  sp := h.sp
  bw := h.bw.grown hg h.hb (by simp)
  hb := Nat.le_trans h.hb hg.size
  dgb := h.dgb
theorem AcR.app1 (h : AcR w base dg pb c0 c1 vz sd p ra na xs rb nb ys W) {g c k : Nat} {xs' : List Value} (hg : W.grownBy W' ra.ownBlock) (hat : ra.ownBlock = some g ∨ g = W.heap.size) (hR : W'.ownsRow base 88 2 (.slice (some ⟨g, 0, none⟩) k c) k xs') :
    AcR w base dg pb c0 c1 vz sd p (.slice (some ⟨g, 0, none⟩) k c) k xs' rb nb ys W' where
  D := h.D.grown hg (own_blk_ne h.R1 h.D (by decide))
  pp := h.pp.grown hg (own_blk_ne h.R1 h.pp (by decide))
  R1 := hR
  R2 := h.sp.kept h.R2 hg
  sp := h.sp.left h.R2 hat
  bw := h.bw.grown hg h.hb (fun k hk => (h.R1.lt k hk).1)
  hb := Nat.le_trans h.hb hg.size
  dgb := h.dgb
theorem AcR.app2 (h : AcR w base dg pb c0 c1 vz sd p ra na xs rb nb ys W) {g c k : Nat} {ys' : List Value} (hg : W.grownBy W' rb.ownBlock) (hat : rb.ownBlock = some g ∨ g = W.heap.size) (hR : W'.ownsRow base 88 2 (.slice (some ⟨g, 0, none⟩) k c) k ys') :
    AcR w base dg pb c0 c1 vz sd p ra na xs (.slice (some ⟨g, 0, none⟩) k c) k ys' W' where
  D := h.D.grown hg (own_blk_ne h.R2 h.D (by decide))
  pp := h.pp.grown hg (own_blk_ne h.R2 h.pp (by decide))
  R1 := h.sp.kept' h.R1 hg
  R2 := hR
  sp := h.sp.right h.R1 hat
  bw := h.bw.grown hg h.hb (fun k hk => (h.R2.lt k hk).1)
  hb := Nat.le_trans h.hb hg.size
  dgb := h.dgb
/-- The cells that the region loads. -/
theorem AcR.cells (h : AcR w base dg pb c0 c1 vz sd p ra na xs rb nb ys W) : W.cell? ⟨dg, 0, none⟩ = some c0 ∧ W.cell? ⟨dg, 1, none⟩ = some c1 ∧ W.cell? ⟨pb, 2, none⟩ = some (.int .i64 p.x) ∧ W.cell? ⟨pb, 3, none⟩ = some (.int .i64 p.y) ∧ W.cell? ⟨pb, 4, none⟩ = some (.int .i64 p.w) ∧ W.cell? ⟨pb, 5, none⟩ = some (.int .i64 p.h) :=
  ⟨h.D.cell 0, h.D.cell 1, h.pp.cell 2, h.pp.cell 3, h.pp.cell 4, h.pp.cell 5⟩
theorem AcR.set0 (h : AcR w base dg pb c0 c1 vz sd p ra na xs rb nb ys W) (u : Value) : AcR w base dg pb u c1 vz sd p ra na xs rb nb ys (W.setCell ⟨dg, 0, none⟩ u) := by
  have hne1 : some dg ≠ ra.ownBlock := own_blk_ne h.R1 h.D (by decide)
  have hne2 : some dg ≠ rb.ownBlock := own_blk_ne h.R2 h.D (by decide)
  have hpd : pb ≠ dg := fun e => by
    have h1 := h.pp
    have h2 := h.D
    rw [e] at h1
    unfold Blk at h1 h2
    rw [h1] at h2
    injection h2 with h2
    injection h2 with _ ht
    cases ht
  have hg : W.grownBy (W.setCell ⟨dg, 0, none⟩ u) (some dg) := grown_setCell' (World.grownBy.refl W _) 0 u
  exact ⟨h.D.set_ 0 u, h.pp.grown hg (by simpa using hpd), h.R1.kept hg (.inr (Ne.symm hne1)), h.R2.kept hg (.inr (Ne.symm hne2)), h.sp, h.bw.setCell h.dgb u, by simpa [World.setCell] using h.hb, h.dgb⟩
theorem AcR.set1 (h : AcR w base dg pb c0 c1 vz sd p ra na xs rb nb ys W) (u : Value) : AcR w base dg pb c0 u vz sd p ra na xs rb nb ys (W.setCell ⟨dg, 1, none⟩ u) := by
  have hne1 : some dg ≠ ra.ownBlock := own_blk_ne h.R1 h.D (by decide)
  have hne2 : some dg ≠ rb.ownBlock := own_blk_ne h.R2 h.D (by decide)
  have hpd : pb ≠ dg := fun e => by
    have h1 := h.pp
    have h2 := h.D
    rw [e] at h1
    unfold Blk at h1 h2
    rw [h1] at h2
    injection h2 with h2
    injection h2 with _ ht
    cases ht
  have hg : W.grownBy (W.setCell ⟨dg, 1, none⟩ u) (some dg) := grown_setCell' (World.grownBy.refl W _) 1 u
  exact ⟨h.D.set_ 1 u, h.pp.grown hg (by simpa using hpd), h.R1.kept hg (.inr (Ne.symm hne1)), h.R2.kept hg (.inr (Ne.symm hne2)), h.sp, h.bw.setCell h.dgb u, by simpa [World.setCell] using h.hb, h.dgb⟩
end
end Go.Proofs.YtlfeoofchebbkaaDoor
