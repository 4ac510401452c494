/- The marks that a plain loop's rounds leave behind, where each round ranges over a function. -/
import Derived.RangeFuncLeaves
import Derived.RangeFuncFrom
import Derived.Below
namespace Go.Proofs.Ytefjhhgfkdkfaaa
set_option linter.unusedSimpArgs false
set_option linter.unusedVariables false
open Go.RowKit
abbrev mrk (D : Nat) : Deferred := { target := .collected D, args := #[] }
/-- W' is W, but for the blocks of the marks. -/
def ButM (Ds : List Nat) (W W' : World) : Prop := W'.os = W.os ∧ W'.tape = W.tape ∧ W'.output = W.output ∧ W'.heap.size = W.heap.size ∧ ∀ k, k ∉ Ds → W'.heap[k]? = W.heap[k]?
theorem ButM.below {Ds : List Nat} {W W' : World} {B : Nat} (h : ButM Ds W W') (hB : ∀ D, D ∈ Ds → B ≤ D) : Below B W W' :=
  ⟨h.1, h.2.1, h.2.2.1, by rw [h.2.2.2.1]; exact Nat.le_refl _, fun k hk => h.2.2.2.2 k (fun hm => by have := hB k hm; omega)⟩
theorem leaves_marks {F : Fence} {n : Nat} {P : Program} {fn : Func} {tmps : Array Value} {R : Ending → World → Prop} {u : FrameMode} (hu : u ≠ .run) : ∀ (Ds : List Nat) (W : World), Ds.Nodup → (∀ D, D ∈ Ds → W.heap[D]? = some (.deferred (some []))) →
    (∀ W', ButM Ds W W' → LeavesInM F n P fn tmps R [] u W') → LeavesInM F n P fn tmps R (Ds.map mrk) u W
  | [], W, _, _, h => h W ⟨rfl, rfl, rfl, rfl, fun _ _ => rfl⟩
  | D :: Ds, W, hn, hD, h => by
    have hD0 := hD D List.mem_cons_self
    obtain ⟨hn1, hn2⟩ := List.nodup_cons.1 hn
    refine ⟨hu, .inl ⟨D, _, rfl, run_takeDeferred hD0, ?_⟩⟩
    refine leaves_marks hu Ds _ hn2 (fun D' h' => ?_) (fun W' hW' => ?_)
    · rw [World.putObj_heap_other (show D' ≠ D from fun e => hn1 (by rw [← e]; exact h'))]
      exact hD D' (List.mem_cons_of_mem _ h')
    · refine h W' ⟨hW'.1, hW'.2.1, hW'.2.2.1, ?_, fun k hk => ?_⟩
      · rw [hW'.2.2.2.1]; simp
      · rw [hW'.2.2.2.2 k (fun h' => hk (List.mem_cons_of_mem _ h')), World.putObj_heap_other (fun e => hk (by rw [e]; exact List.mem_cons_self))]
end Go.Proofs.Ytefjhhgfkdkfaaa
