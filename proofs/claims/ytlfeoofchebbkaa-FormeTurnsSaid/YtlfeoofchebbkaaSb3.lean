/- The bill's rows behind slices.SortFunc. -/
import Derived.Test.YtlfeoofchebbkaaCm3
import Derived.Test.YtlfeoofchebbkaaRbl
namespace Go.Proofs.Ytlfeoofchebbkaa
set_option linter.unusedSimpArgs false
set_option linter.unusedVariables false
open Go.RowKit Go.Sort Go.Shelf
theorem flat3 (l : List Tri) : flatK tri3 3 l.toArray = (tcells l).toArray := by
  apply Array.ext
  · simp [tcells_length]
  · intro t h1 h2
    have ht : t < l.length * 3 := by simpa using h1
    have hj : t / 3 < l.length := by omega
    obtain ⟨c0, c1, c2⟩ := tcells_at l (t / 3) hj
    have e := get_flatK tri3 3 l.toArray t (by simpa using ht)
    rw [getElem!_pos _ t h1] at e
    rw [e]
    have eg : l.toArray[t / 3]! = gt3 l (t / 3) := by
      rw [getElem!_pos _ _ (by simpa using hj)]
      simp [gt3, List.getD, hj]
    rw [eg]
    have h3 : t % 3 = 0 ∨ t % 3 = 1 ∨ t % 3 = 2 := by omega
    rcases h3 with q | q | q
    · have e2 : t / 3 * 3 = t := by omega
      rw [e2] at c0
      rw [q]
      have := List.getElem?_eq_some_iff.1 c0
      obtain ⟨_, this⟩ := this
      simp [tri3, this]
    · have e2 : t / 3 * 3 + 1 = t := by omega
      rw [e2] at c1
      rw [q]
      obtain ⟨_, this⟩ := List.getElem?_eq_some_iff.1 c1
      simp [tri3, this]
    · have e2 : t / 3 * 3 + 2 = t := by omega
      rw [e2] at c2
      rw [q]
      obtain ⟨_, this⟩ := List.getElem?_eq_some_iff.1 c2
      simp [tri3, this]
theorem sortW_below {α : Type} [Inhabited α] (enc : α → Value) (w : World) (blk n B : Nat) (d : Array α) (os : Array Obj) (hB : B ≤ blk) (hb : blk < w.heap.size) : Below B w (sortWorld enc w blk 0 n d os) := by
  refine ⟨rfl, rfl, rfl, by simp [sortWorld], fun k hk => ?_⟩
  unfold sortWorld
  rw [heap_grow_old _ _ (by simp; omega)]
  show (mapBlock _ _ _).heap[k]? = _
  simp only [mapBlock, Array.getElem?_modify, heap_ahead]
  rw [if_neg (by omega)]
theorem sortW_cell {α : Type} [Inhabited α] (enc : α → Value) (w : World) (blk n : Nat) (d0 d : Array α) (os : Array Obj) (h0 : Holds enc w blk 0 d0) (hs : d.size = d0.size) (hb : blk < w.heap.size) (j : Nat) (hj : j < d.size) : (sortWorld enc w blk 0 n d os).cell? ⟨blk, j, none⟩ = some (enc d[j]!) := by
  unfold sortWorld
  rw [cell?_grow _ _ _ (by simpa using hb)]
  have := cell?_putRow enc (Sort.ahead w n) blk 0 d0 d h0 hs j hj
  rwa [Nat.zero_add] at this
theorem enters127 : ∀ (args : Array Value) (w : World), (callFunc 127 args).run Try.prog w = .ok (.enter 127 args) w := enters_of' Try.func127 (by kernel_rfl) rfl
theorem sort3_own (base : Nat) (v : Value) (l : List Tri) (W : World) (R : W.ownsRow base 143 3 v l.length (tcells l)) (hm : l.length ≤ 1000000000) :
    Calls Try.prog 126 #[v, .func (.func 127) #[] #[]] W fun e w' => e = .returned (.tuple #[]) ∧ TsV w' (sortB l) v ∧ Below base W w' := by
  rcases Nat.eq_zero_or_pos l.length with h0 | h0
  · have hl : l = [] := List.length_eq_zero_iff.1 h0
    have hT : TsV W (sortB l) v := by
      have : sortB l = l := by rw [hl]; unfold sortB; simp
      rw [this]
      exact ts_own R
    obtain ⟨A, c, rfl⟩ := own_slice R
    rw [h0]
    refine (Try.sort3_none (α := Tri) A c _ W).mono ?_
    rintro e w' ⟨rfl, rfl⟩
    rw [h0] at hT
    exact ⟨rfl, hT, Below.refl _ _⟩
  · obtain ⟨g, cap, rfl, hg1, hg2⟩ := R.form h0
    have hH : HoldsK tri3 3 W g 0 l.toArray := by
      show Holds id W g 0 (flatK tri3 3 l.toArray)
      rw [flat3]
      intro j hj
      have hj' : j < l.length * 3 := by rw [← tcells_length]; simpa using hj
      rw [Nat.zero_add]
      refine ⟨(R.cellAt j hj').trans ?_, R.frozenAt j⟩
      rw [getElem!_pos _ j hj]
      simp only [id]
      exact List.getElem?_eq_getElem _
    have hcmp : CmpLays Try.prog 127 #[] tri3 3 cf3 g 0 l.toArray.size W := fun m os dk _ x y => cmp3_lays x y _
    have hs := Try.sort3_total 3 Try.isAgg143 Try.sizeOf143 tri3 (fun _ => rfl) (fun x v hv => by simp [tri3] at hv; rcases hv with rfl | rfl | rfl <;> rfl) cf3 swo3 127 #[] g 0 cap l.toArray W enters127 hcmp hH hg2 (by simp; omega) tot3
    refine hs.mono ?_
    rintro e w' ⟨rfl, n, os, rfl⟩
    have e1 : (l.toArray.toList.mergeSort fun x y => !(ltOf cf3) y x).toArray = (sortB l).toArray := rfl
    rw [e1]
    have hHf : Holds id W g 0 (flatK tri3 3 l.toArray) := hH
    have hW : sortWorldK tri3 3 W g 0 n (sortB l).toArray os = sortWorld id W g 0 n (flatK tri3 3 (sortB l).toArray) os := rfl
    rw [hW]
    have hb := sortW_below id W g n base (flatK tri3 3 (sortB l).toArray) os hg1 hg2
    refine ⟨rfl, ⟨_, g, cap, by rw [sortB_length], fun _ => ⟨rfl, by have := hb.size; omega⟩, fun j hj => ?_⟩, hb⟩
    have hsz : (flatK tri3 3 (sortB l).toArray).size = (flatK tri3 3 l.toArray).size := by simp [sortB_length]
    obtain ⟨c0, c1, c2⟩ := tcells_at (sortB l) j hj
    have hc : ∀ i, i < (sortB l).length * 3 → (sortWorld id W g 0 n (flatK tri3 3 (sortB l).toArray) os).cell? ⟨g, i, none⟩ = (tcells (sortB l))[i]? := fun i hi => by
      rw [sortW_cell id W g n _ _ os hHf hsz hg2 i (by simpa using hi), flat3]
      have : i < (tcells (sortB l)).length := by rw [tcells_length]; exact hi
      rw [getElem!_pos _ i (by simpa using this)]
      simp only [id]
      exact (List.getElem?_eq_getElem this).symm
    rw [Nat.zero_add]
    exact ⟨(hc _ (by omega)).trans c0, (hc _ (by omega)).trans c1, (hc _ (by omega)).trans c2⟩
end Go.Proofs.Ytlfeoofchebbkaa
