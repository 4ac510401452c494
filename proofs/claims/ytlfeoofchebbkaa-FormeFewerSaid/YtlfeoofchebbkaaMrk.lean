/- The marks that ranges over functions leave among a frame's deferred calls. -/
import Derived.RangeFuncLeaves
import Derived.Below
import Derived.RangeFuncRecord
namespace Go.Proofs.Ytlfeoofchebbkaa
set_option linter.unusedSimpArgs false
set_option linter.unusedVariables false
open Go.RowKit
def mark (D : Nat) : Deferred := { target := .collected D, args := #[] }
/-- The marks are of blocks from 'base' on that are shut but not taken over, each another one. -/
def Marks (base : Nat) : List Nat → World → Prop
  | [], _ => True
  | D :: ds, w => base ≤ D ∧ w.heap[D]? = some (.deferred (some [])) ∧ D ∉ ds ∧ Marks base ds w
/-- Nothing but marks is turned. -/
structure PutOnly (base : Nat) (w w' : World) : Prop where
  os : w'.os = w.os
  tape : w'.tape = w.tape
  output : w'.output = w.output
  size : w'.heap.size = w.heap.size
  low : ∀ k, k < base → w'.heap[k]? = w.heap[k]?
  cells : ∀ (k : Nat) (c : Array Value) (e : TypeId) (fr : Nat × Nat), w.heap[k]? = some (Obj.cells c e fr) → w'.heap[k]? = some (Obj.cells c e fr)
theorem PutOnly.refl (base : Nat) (w : World) : PutOnly base w w := ⟨rfl, rfl, rfl, rfl, fun _ _ => rfl, fun _ _ _ _ h => h⟩
theorem PutOnly.trans {base : Nat} {a b c : World} (h : PutOnly base a b) (k : PutOnly base b c) : PutOnly base a c :=
  ⟨k.os.trans h.os, k.tape.trans h.tape, k.output.trans h.output, k.size.trans h.size, fun i hi => (k.low i hi).trans (h.low i hi), fun i c e fr hc => k.cells i c e fr (h.cells i c e fr hc)⟩
theorem PutOnly.below {base : Nat} {w w' : World} (h : PutOnly base w w') : Below base w w' := ⟨h.os, h.tape, h.output, by rw [h.size]; exact Nat.le_refl _, h.low⟩
theorem PutOnly.cell {base : Nat} {w w' : World} (h : PutOnly base w w') {a : Addr} {v : Value} (hv : w.cell? a = some v) : w'.cell? a = some v := by
  unfold World.cell? at hv ⊢
  split at hv
  · rename_i c e fr hb
    rw [h.cells _ c e fr hb]
    exact hv
  · cases hv
theorem putOnly_mark {base D : Nat} {w : World} (hb : base ≤ D) (hD : w.heap[D]? = some (.deferred (some []))) : PutOnly base w (w.putObj D (.deferred none)) :=
  ⟨rfl, rfl, rfl, by simp [World.putObj], fun k hk => World.putObj_heap_other (by omega), fun k c e fr hk => by
    rw [World.putObj_heap_other (fun h => by rw [h, hD] at hk; cases hk)]; exact hk⟩
theorem Marks.kept {base : Nat} {w w' : World} : ∀ {ds : List Nat}, Marks base ds w → (∀ D, w.heap[D]? = some (.deferred (some [])) → D ∈ ds → w'.heap[D]? = some (.deferred (some []))) → Marks base ds w'
  | [], _, _ => trivial
  | D :: ds, ⟨h1, h2, h3, h4⟩, hk => ⟨h1, hk D h2 (by simp), h3, h4.kept fun D' hD' hm => hk D' hD' (by simp [hm])⟩
theorem Marks.below {base B : Nat} {w w' : World} {ds : List Nat} (h : Marks base ds w) (hb : Below B w w') (hB : w.heap.size ≤ B) : Marks base ds w' :=
  h.kept fun D hD _ => (hb.block D (by have := (Array.getElem?_eq_some_iff.1 hD).1; omega)).trans hD
theorem Marks.setCell {base : Nat} {w : World} {ds : List Nat} (h : Marks base ds w) {g i : Nat} {c : Array Value} {e : TypeId} {fr : Nat × Nat} (hg : w.heap[g]? = some (.cells c e fr)) (v : Value) : Marks base ds (w.setCell ⟨g, i, none⟩ v) :=
  h.kept fun D hD _ => (Below.heap_setCell _ _ _ _ (fun he => by rw [show D = g from he, hg] at hD; cases hD)).trans hD
theorem Marks.add {base D : Nat} {w : World} {ds : List Nat} (h : Marks base ds w) (hb : base ≤ D) (hD : w.heap[D]? = some (.deferred (some []))) (hn : D ∉ ds) : Marks base (D :: ds) w := ⟨hb, hD, hn, h⟩
theorem Marks.lt {base : Nat} {w : World} : ∀ {ds : List Nat}, Marks base ds w → ∀ D ∈ ds, D < w.heap.size
  | [], _, D, hD => by simp at hD
  | _ :: _, ⟨_, h2, _, h4⟩, D, hD => by
    rcases List.mem_cons.1 hD with rfl | h
    · exact (Array.getElem?_eq_some_iff.1 h2).1
    · exact h4.lt D h
/-- A function that leaves with marks among its deferred calls. -/
theorem leaves_marks {F : Fence} {n : Nat} {P : Program} {fn : Func} {tmps : Array Value} {R : Ending → World → Prop} {base : Nat} : ∀ (ds : List Nat) (w : World), Marks base ds w → (∀ w', PutOnly base w w' → LeavesIn F n P fn tmps R [] .returning w') → LeavesInM F n P fn tmps R (ds.map mark) .returning w
  | [], w, _, h => h w (PutOnly.refl _ _)
  | D :: ds, w, ⟨h1, h2, h3, h4⟩, h => ⟨by simp, .inl ⟨D, _, rfl, run_takeDeferred h2, leaves_marks ds _ (h4.kept fun D' hD' hm => by
      have hne : D' ≠ D := fun he => h3 (by rw [← he]; exact hm)
      rw [World.putObj_heap_other hne]; exact hD') fun w' hw => h w' ((putOnly_mark h1 h2).trans hw)⟩⟩
end Go.Proofs.Ytlfeoofchebbkaa
