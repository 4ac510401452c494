/- slices.SortFunc of along: the numbers of a row in order. -/
import Derived.Test.YtlfeoofchebbkaaSft
import Derived.Test.YtlfeoofchebbkaaCmp
import Derived.Shelf.SlSortCmp.Kit1
namespace Go.Proofs.Ytlfeoofchebbkaa
set_option linter.unusedSimpArgs false
set_option linter.unusedVariables false
open Go.RowKit Go.Sort Go.Shelf
abbrev Al (ps : List Piece) (is : Piece → Bool) := { i : Nat // i ∈ aloI ps is }
def encA {ps : List Piece} {is : Piece → Bool} (x : Al ps is) : Value := .int .i64 x.1
def cfA {ps : List Piece} {is : Piece → Bool} (ord : Piece → Int) (x y : Al ps is) : Int := cmpI (ord (gp ps x.1)) (ord (gp ps y.1))
section
variable {ps : List Piece} {is : Piece → Bool} {ord : Piece → Int}
theorem ltA (x y : Al ps is) : ltOf (cfA ord) x y = decide (ord (gp ps x.1) < ord (gp ps y.1)) := by
  unfold ltOf cfA cmpI
  by_cases h1 : ord (gp ps x.1) < ord (gp ps y.1)
  · simp [h1]
  · by_cases h2 : ord (gp ps y.1) < ord (gp ps x.1) <;> simp [h1, h2]
theorem swoA : SWO (ltOf (cfA (ps := ps) (is := is) ord)) where
  irrefl x := by rw [ltA]; simp
  trans x y z h1 h2 := by rw [ltA] at *; simp at *; omega
  ntrans x y z h1 h2 := by rw [ltA] at *; simp at *; omega
theorem totA (hi : ∀ i k, i ∈ aloI ps is → k ∈ aloI ps is → ord (gp ps i) = ord (gp ps k) → i = k) (x y : Al ps is) (h1 : ltOf (cfA ord) x y = false) (h2 : ltOf (cfA ord) y x = false) : x = y := by
  rw [ltA] at *
  simp at h1 h2
  exact Subtype.ext (hi _ _ x.2 y.2 (by omega))
end
/-- What the sort leaves is the row in order. -/
theorem sorted_is (ps : List Piece) (is : Piece → Bool) [Inhabited (Al ps is)] (ord : Piece → Int) (hi : ∀ i k, i ∈ aloI ps is → k ∈ aloI ps is → ord (gp ps i) = ord (gp ps k) → i = k)
    (d d' : Array (Al ps is)) (hd : (d.toList.map Subtype.val) = aloI ps is) (hp : PermIn 0 d.size d d') (hs : SortedIn (ltOf (cfA ord)) 0 d.size d') : d'.toList.map Subtype.val = aloS ps is ord := by
  obtain ⟨hz, -, hp2⟩ := hp
  have e1 : (d'.extract 0 d.size).toList = d'.toList := by simp [hz.symm]
  have e2 : (d.extract 0 d.size).toList = d.toList := by simp
  rw [e1, e2] at hp2
  have hpm : (d'.toList.map Subtype.val).Perm (aloI ps is) := by
    have h0 := hp2.map (fun x : Al ps is => x.1)
    exact h0.trans (List.Perm.of_eq hd)
  refine aloS_uniq hi hpm ?_
  rw [List.pairwise_map, List.pairwise_iff_getElem]
  intro i j h1 h2 hij
  have hj : j < d'.size := by simpa using h2
  have hii : i < d'.size := by omega
  have h := hs i j (Nat.zero_le _) hij (by omega)
  rw [getElem!_pos d' j hj, getElem!_pos d' i hii, ltA] at h
  have h3 := of_decide_eq_false h
  simp only [Array.getElem_toList]
  omega
theorem row_lays (ps : List Piece) (is : Piece → Bool) [Inhabited (Al ps is)] (bo bf b off c blk : Nat) (w : World) (size : Nat) (ho : w.cell? ⟨bo, 0, none⟩ = some (.func (.func 121) #[] #[])) (hf : w.cell? ⟨bf, 2, none⟩ = some (.slice (some ⟨b, off, none⟩) ps.length c)) (hb : b < w.heap.size) (hps : PsAt w b off ps)
    (n1 : bo ≠ blk) (n2 : bf ≠ blk) (n3 : b ≠ blk) : CmpLays1 Try.prog 142 #[.pointer (some ⟨bo, 0, none⟩), .pointer (some ⟨bf, 0, none⟩)] (encA (ps := ps) (is := is)) (cfA fun p => p.x) blk 0 size w := by
  intro m os dk hs x y
  have key : ∀ (a : Addr) (v : Value), a.block ≠ blk → w.cell? a = some v → (sortWorld encA w blk 0 m dk os).cell? a = some v := fun a v hn h => by
    have h1 : (putRow encA w blk 0 dk).cell? a = some v := (cell?_putRow_other _ _ _ _ _ _ (.inl hn)).trans h
    have h2 : a.block < (putRow encA w blk 0 dk).heap.size := by rw [size_putRow]; exact block_lt_of_cell h
    exact cell_grown h2 h1 m os
  have hz : w.heap.size ≤ (sortWorld (encA (ps := ps) (is := is)) w blk 0 m dk os).heap.size := by
    simp [sortWorld]
  refine row_cmp ps 0 0 bo bf b off c x.1 y.1 _ (key _ _ n1 ho) (key _ _ n2 hf) (Nat.lt_of_lt_of_le hb hz) (fun j hj => ?_) (mem_aloI.1 x.2).1 (mem_aloI.1 y.2).1
  obtain ⟨p0, p1, p2, p3, p4, p5⟩ := hps j hj
  exact ⟨key _ _ n3 p0, key _ _ n3 p1, key _ _ n3 p2, key _ _ n3 p3, key _ _ n3 p4, key _ _ n3 p5⟩
theorem col_lays (ps : List Piece) (is : Piece → Bool) [Inhabited (Al ps is)] (bo bf b off c blk : Nat) (w : World) (size : Nat) (ho : w.cell? ⟨bo, 0, none⟩ = some (.func (.func 123) #[] #[])) (hf : w.cell? ⟨bf, 2, none⟩ = some (.slice (some ⟨b, off, none⟩) ps.length c)) (hb : b < w.heap.size) (hps : PsAt w b off ps)
    (n1 : bo ≠ blk) (n2 : bf ≠ blk) (n3 : b ≠ blk) : CmpLays1 Try.prog 142 #[.pointer (some ⟨bo, 0, none⟩), .pointer (some ⟨bf, 0, none⟩)] (encA (ps := ps) (is := is)) (cfA fun p => p.y) blk 0 size w := by
  intro m os dk hs x y
  have key : ∀ (a : Addr) (v : Value), a.block ≠ blk → w.cell? a = some v → (sortWorld encA w blk 0 m dk os).cell? a = some v := fun a v hn h => by
    have h1 : (putRow encA w blk 0 dk).cell? a = some v := (cell?_putRow_other _ _ _ _ _ _ (.inl hn)).trans h
    have h2 : a.block < (putRow encA w blk 0 dk).heap.size := by rw [size_putRow]; exact block_lt_of_cell h
    exact cell_grown h2 h1 m os
  have hz : w.heap.size ≤ (sortWorld (encA (ps := ps) (is := is)) w blk 0 m dk os).heap.size := by
    simp [sortWorld]
  refine col_cmp ps 0 0 bo bf b off c x.1 y.1 _ (key _ _ n1 ho) (key _ _ n2 hf) (Nat.lt_of_lt_of_le hb hz) (fun j hj => ?_) (mem_aloI.1 x.2).1 (mem_aloI.1 y.2).1
  obtain ⟨p0, p1, p2, p3, p4, p5⟩ := hps j hj
  exact ⟨key _ _ n3 p0, key _ _ n3 p1, key _ _ n3 p2, key _ _ n3 p3, key _ _ n3 p4, key _ _ n3 p5⟩
end Go.Proofs.Ytlfeoofchebbkaa
