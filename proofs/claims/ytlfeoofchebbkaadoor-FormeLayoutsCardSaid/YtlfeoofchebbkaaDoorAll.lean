/- checkGrid's closure 'all', at two lists. -/
import Derived.Test.YtlfeoofchebbkaaDoorCti
import Derived.Test.YtlfeoofchebbkaaDoorGsp
namespace Go.Proofs.YtlfeoofchebbkaaDoor
set_option linter.unusedSimpArgs false
set_option linter.unusedVariables false
open Go.RowKit
theorem Blk.below {B : Nat} {w w' : World} {g : Nat} {t : TypeId} {cs : Array Value} (h : Blk w g t cs) (hb : Below B w w') (hg : g < B) : Blk w' g t cs := (hb.block g hg).trans h
theorem isGap_any (n : Int) (w : World) : Calls Tryd.prog 37 #[.int .i64 n] w fun e w' => e = .returned (.bool (win n 0 4000)) ∧ w = w' := by
  go_enter Tryd.func37, Tryd.ntmps37
  go_wp2_with fail
  refine (within_any n 0 4000 w).mono ?_
  rintro e w' ⟨rfl, rfl⟩
  go_wp2_with fail
  go_ret
  exact ⟨rfl, rfl⟩
/-- What is asked of the property's function. -/
def IsFn (g : Nat) (pr : Int → Bool) : Prop := (∀ (n : Int) (W : World), Calls Tryd.prog g #[.int .i64 n] W fun e w' => e = .returned (.bool (pr n)) ∧ W = w') ∧ ∀ args w, (callFunc g args).run Tryd.prog w = .ok (.enter g args) w
theorem enters42 : ∀ (args : Array Value) (w : World), (callFunc 42 args).run Tryd.prog w = .ok (.enter 42 args) w := enters_of' Tryd.func42 (by kernel_rfl) rfl
theorem enters37 : ∀ (args : Array Value) (w : World), (callFunc 37 args).run Tryd.prog w = .ok (.enter 37 args) w := enters_of' Tryd.func37 (by kernel_rfl) rfl
theorem enters41 : ∀ (args : Array Value) (w : World), (callFunc 41 args).run Tryd.prog w = .ok (.enter 41 args) w := enters_of' Tryd.func41 (by kernel_rfl) rfl
theorem isFn42 : IsFn 42 (fun n => win n 1 4000) := ⟨fun n W => isSide_any n W, enters42⟩
theorem isFn37 : IsFn 37 (fun n => win n 0 4000) := ⟨fun n W => isGap_any n W, enters37⟩
theorem not_any (g : Nat) (pr : Int → Bool) (hf : IsFn g pr) (x : Int) (bx : Nat) (W : World) (hb : W.cell? ⟨bx, 0, none⟩ = some (.func (.func g) #[] #[])) :
    Calls Tryd.prog 41 (#[.int .i64 x] ++ #[.pointer (some ⟨bx, 0, none⟩)]) W fun e w' => e = .returned (.bool (!pr x)) ∧ W = w' := by
  have hcall := hf.1 x W
  have eg := hf.2
  clear hf
  generalize pr x = y at *
  go_enter Tryd.func41, Tryd.ntmps41
  go_wp2_with ((with_reducible refine hcall.mono ?_); rintro e w' ⟨rfl, rfl⟩)
  go_ret
  exact ⟨rfl, rfl⟩
theorem idx_all (l : List Int) (pr : Int → Bool) : (!decide (0 ≤ idx (fun j => !pr (gz l j)) l.length)) = l.all pr := by
  by_cases h : l.all pr = true
  · have hj : ∀ j, j < l.length → (!pr (gz l j)) = false := fun j hj => by
      have hm : gz l j ∈ l := by unfold gz; simp [List.getD_eq_getElem?_getD, hj]
      rw [List.all_eq_true.1 h _ hm]; rfl
    rw [h, idx_none hj]; rfl
  · have h2 : l.all pr = false := by simpa using h
    rw [h2]
    obtain ⟨x, hx, hp⟩ : ∃ x ∈ l, pr x = false := by
      rw [List.all_eq_false] at h2
      obtain ⟨x, hx, hp⟩ := h2
      exact ⟨x, hx, by simpa using hp⟩
    obtain ⟨i, hi, rfl⟩ := List.getElem_of_mem hx
    have hpi : (!pr (gz l i)) = true := by
      have : gz l i = l[i] := by unfold gz; simp [List.getD_eq_getElem?_getD, hi]
      rw [this, hp]; rfl
    have hn : 0 ≤ idx (fun j => !pr (gz l j)) l.length := by
      refine Classical.byContradiction fun hneg => ?_
      have := idx_neg hneg i hi
      rw [hpi] at this
      cases this
    rw [decide_eq_true hn]; rfl
set_option maxRecDepth 100000 in
theorem all2_any (g : Nat) (pr : Int → Bool) (hf : IsFn g pr) (l1 l2 : List Int) (A1 A2 : Option Addr) (b b1 o1 c1 b2 o2 c2 : Nat) (w : World) (h1 : w.cell? ⟨b, 0, none⟩ = some (.slice A1 l1.length c1)) (h2 : w.cell? ⟨b, 1, none⟩ = some (.slice A2 l2.length c2))
    (hA1 : Lies A1 l1.length w.heap.size b1 o1) (hz1 : ZsAt w b1 o1 l1) (hA2 : Lies A2 l2.length w.heap.size b2 o2) (hz2 : ZsAt w b2 o2 l2) (n1 : 0 < l1.length) (n2 : 0 < l2.length) (m1 : l1.length ≤ 1000) (m2 : l2.length ≤ 1000) :
    Calls Tryd.prog 38 #[.func (.func g) #[] #[], .slice (some ⟨b, 0, none⟩) 2 2] w fun e w' => e = .returned (.bool (l1.all pr && l2.all pr)) ∧ Below w.heap.size w w' := by
  have hbz : b < w.heap.size := block_lt_of_cell h1
  have hB := below_new w (Obj.cells #[Value.func (.func g) #[] #[]] 76)
  have hK := Blk.new w 76 #[Value.func (.func g) #[] #[]]
  have hcon := concat2_any l1 l2 A1 A2 b b1 o1 c1 b2 o2 c2 (w.alloc (Obj.cells #[Value.func (.func g) #[] #[]] 76)) ((hB.cell (p := ⟨b, 0, none⟩) hbz).trans h1) ((hB.cell (p := ⟨b, 1, none⟩) hbz).trans h2)
    (hA1.mono hB.size) (fun j hj => (hz1.below hB (hA1 (by omega)).2) j hj) (hA2.mono hB.size) (fun j hj => (hz2.below hB (hA2 (by omega)).2) j hj) n1 n2 m1 m2
  have HF := Lib.hid hf
  have HML : Hid (l1.length ≤ 1000 ∧ l2.length ≤ 1000) := (show _ ∧ _ from ⟨m1, m2⟩)
  clear h1 h2 hA1 hz1 hA2 hz2 n1 n2 m1 m2 hf
  go_enter Tryd.func38, Tryd.ntmps38
  go_wp2_with fail
  generalize w.alloc (Obj.cells #[Value.func (.func g) #[] #[]] 76) = W0 at *
  refine hcon.mono ?_
  rintro e w1 ⟨v, rfl, hown, hb1⟩
  have hp1 : w1.cell? ⟨w.heap.size, 0, none⟩ = some (.func (.func g) #[] #[]) := (hK.below hb1 hK.lt).cell 0
  have hlen : (l1 ++ l2).length = l1.length + l2.length := List.length_append
  rw [← hlen] at hown
  have hiv := ints_of_own hown
  obtain ⟨A', b', c', rfl, k1, k2⟩ := hiv
  have hcont := containsI_any 41 #[.pointer (some ⟨w.heap.size, 0, none⟩)] A' b' 0 (l1 ++ l2).length c' (l1 ++ l2) (fun x => !pr x) w1
    (fun W j hbW hj => (not_any g pr HF.out _ w.heap.size W ((hbW.cell (p := ⟨w.heap.size, 0, none⟩) (block_lt_of_cell hp1)).trans hp1)).mono fun _ _ ⟨q1, q2⟩ => ⟨q1, by rw [← q2]; exact hbW⟩)
    rfl (by have := HML.out; omega) k1 enters41 k2
  have hia := idx_all (l1 ++ l2) pr
  rw [List.all_append] at hia
  have HI := Lib.hid hia
  have HB := Lib.hid (hB.trans (hb1.mono hB.size))
  have hsz := HB.out.size
  clear hia hown k1 k2 hp1 hcon hb1 hB hK hlen
  generalize idx (fun j => !pr (gz (l1 ++ l2) j)) (l1 ++ l2).length = q at *
  generalize (l1 ++ l2).length = n at *
  go_wp2_with fail
  refine hcont.mono ?_
  rintro e w2 ⟨rfl, hb2⟩
  have HB2 := Lib.hid (HB.out.trans (hb2.mono hsz))
  clear hb2 hcont
  go_wp2_with fail
  go_ret
  exact ⟨congrArg (fun z => Ending.returned (.bool z)) HI.out, HB2.out⟩
end Go.Proofs.YtlfeoofchebbkaaDoor
