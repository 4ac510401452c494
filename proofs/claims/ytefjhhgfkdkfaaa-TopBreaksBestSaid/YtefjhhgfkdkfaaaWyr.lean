/- A row of ways in memory: from where, and with which demerits; steps as a value. -/
import Derived.Test.YtefjhhgfkdkfaaaRpw
import Derived.Test.YtefjhhgfkdkfaaaStp
namespace Go.Proofs.Ytefjhhgfkdkfaaa
set_option linter.unusedSimpArgs false
set_option linter.unusedVariables false
open Go.RowKit
/-- The cells of n ways. -/
def wcl (h : Nat → Nat × Int) : Nat → List Value
  | 0 => []
  | n + 1 => wcl h n ++ [.int .i64 (h n).2, .int .i64 ((h n).1 : Int)]
theorem wcl_len (h : Nat → Nat × Int) : ∀ n, (wcl h n).length = n * 2
  | 0 => rfl
  | n + 1 => by simp only [wcl, List.length_append, wcl_len h n, List.length_cons, List.length_nil]; omega
theorem wcl_get (h : Nat → Nat × Int) : ∀ n j, j < n → (wcl h n)[j * 2]? = some (.int .i64 (h j).2) ∧ (wcl h n)[j * 2 + 1]? = some (.int .i64 ((h j).1 : Int))
  | 0, j, hj => by omega
  | n + 1, j, hj => by
    have hl := wcl_len h n
    simp only [wcl]
    by_cases e : j < n
    · rw [List.getElem?_append_left (by omega), List.getElem?_append_left (by omega)]
      exact wcl_get h n j e
    · have e' : j = n := by omega
      subst e'
      rw [List.getElem?_append_right (by omega), List.getElem?_append_right (by omega), hl, Nat.sub_self, show j * 2 + 1 - j * 2 = 1 by omega]
      exact ⟨rfl, rfl⟩
theorem wcl_congr {h h' : Nat → Nat × Int} : ∀ n, (∀ j, j < n → h j = h' j) → wcl h n = wcl h' n
  | 0, _ => rfl
  | n + 1, e => by simp only [wcl]; rw [wcl_congr n (fun j hj => e j (by omega)), e n (by omega)]
theorem wcl_set (h : Nat → Nat × Int) (x : Nat × Int) : ∀ n j, j < n → ((wcl h n).set (j * 2) (.int .i64 x.2)).set (j * 2 + 1) (.int .i64 (x.1 : Int)) = wcl (fun i => if i = j then x else h i) n
  | 0, j, hj => by omega
  | n + 1, j, hj => by
    have hl := wcl_len h n
    simp only [wcl]
    by_cases e : j < n
    · rw [List.set_append_left _ _ (by omega), List.set_append_left _ _ (by rw [List.length_set]; omega), wcl_set h x n j e, if_neg (by omega)]
    · have e' : j = n := by omega
      subst e'
      rw [List.set_append_right _ _ (by omega), List.set_append_right _ _ (by omega), hl, Nat.sub_self, show j * 2 + 1 - j * 2 = 1 by omega, wcl_congr (h := h) (h' := fun i => if i = j then x else h i) j (fun i hi => by rw [if_neg (by omega)]), if_pos rfl]
      rfl
theorem rp_wcl (y : Int) (m : Nat) : ∀ n, rp y (m : Int) n = wcl (fun _ => (m, y)) n
  | 0 => rfl
  | n + 1 => by
    rw [rp_add, rp_wcl y m n]
    rfl
/-- A row of n ways, its block g. -/
def WR (W : World) (g n : Nat) (h : Nat → Nat × Int) : Prop := Blk W g 106 (wcl h n).toArray
theorem WR.cells {W : World} {g n : Nat} {h : Nat → Nat × Int} (r : WR W g n h) {j : Nat} (hj : j < n) : W.cell? ⟨g, j * 2, none⟩ = some (.int .i64 (h j).2) ∧ W.cell? ⟨g, j * 2 + 1, none⟩ = some (.int .i64 ((h j).1 : Int)) := by
  have hg := wcl_get h n j hj
  exact ⟨by rw [Blk.cell r, List.getElem?_toArray]; exact hg.1, by rw [Blk.cell r, List.getElem?_toArray]; exact hg.2⟩
theorem WR.put {W : World} {g n : Nat} {h : Nat → Nat × Int} (r : WR W g n h) {j : Nat} (hj : j < n) (x : Nat × Int) :
    WR ((W.setCell ⟨g, j * 2, none⟩ (.int .i64 x.2)).setCell ⟨g, j * 2 + 1, none⟩ (.int .i64 (x.1 : Int))) g n (fun i => if i = j then x else h i) := by
  have h1 := Blk.set_ (Blk.set_ r (j * 2) (.int .i64 x.2)) (j * 2 + 1) (.int .i64 (x.1 : Int))
  have e : ((wcl h n).toArray.setIfInBounds (j * 2) (.int .i64 x.2)).setIfInBounds (j * 2 + 1) (.int .i64 (x.1 : Int)) = (wcl (fun i => if i = j then x else h i) n).toArray := by
    rw [← wcl_set h x n j hj]; simp
  rw [e] at h1
  exact h1
/-- steps: a function that has caught the paragraph and the place. -/
theorem steps_any (pb i : Nat) (w : World) : Calls Try.prog 39 #[.pointer (some ⟨pb, 0, none⟩), .int .i64 i] w fun e w' =>
    e = .returned (.func (.func 82) #[] #[.pointer (some ⟨w.heap.size + 1, 0, none⟩), .pointer (some ⟨w.heap.size, 0, none⟩)]) ∧ w' = (w.alloc (.cells #[.pointer (some ⟨pb, 0, none⟩)] 74)).alloc (.cells #[.int .i64 i] 3) := by
  go_enter Try.func39, Try.ntmps39
  go_wp2_with fail
  go_ret
  exact ⟨rfl, rfl⟩
end Go.Proofs.Ytefjhhgfkdkfaaa
