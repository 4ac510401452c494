/- slices.Reverse of a list of numbers, laid at this program (written by the kit's plain mode), and turned to own rows. -/
import Derived.Shelf.Slices.Reverse
import Derived.Shelf.Slices.Cells
import Derived.Test.YtefjhhgfkdkfaaaSlc
namespace Go.Proofs
open Go.Shelf
def Try.lays112_ren : Go.Shelf.Ren := ⟨fun | 112 => 48 | n => n, fun | 28 => 30 | 3 => 3 | 4 => 4 | 0 => 0 | n => n, fun | n => n⟩
theorem Try.lays112 : Go.Proofs.Lays.n112 Try.prog Try.lays112_ren := {
  mixed := by kernel_rfl
  f112 := Try.func48.trans (congrArg some (by kernel_rfl))
  t0 := Try.underlying0
  a0 := Try.isAgg0
  z0 := Try.sizeOf0
  v0 := Try.zeroValue0
  t3 := Try.underlying3
  a3 := Try.isAgg3
  z3 := Try.sizeOf3
  v3 := Try.zeroValue3
  t4 := Try.underlying4
  a4 := Try.isAgg4
  z4 := Try.sizeOf4
  v4 := Try.zeroValue4
  t28 := Try.underlying30
  a28 := Try.isAgg30
  z28 := Try.sizeOf30
  v28 := Try.zeroValue30 }
open Go.RowKit Go.Lib Go.Sort in
/-- slices.Reverse at []int, over an array: Go's loop from the two ends inward is walked; it makes 'Sort.reverseLoop 0 (len - 1)', which is 'Array.reverse' (Derived/Lib/SlicesMore.lean). (LAID: no walk: one application.) -/
theorem Try.slices_Reverse_int_arr (blk off cap : Nat) (d : Array Int) (w : World) (hH : Holds encI w blk off d) (hsz : d.size ≤ 9223372036854775807) :
    Calls Try.prog 48 #[.slice (some ⟨blk, off, none⟩) d.size cap] w fun e w' => e = .returned (.tuple #[]) ∧ ∃ n, w' = putRow encI (Sort.ahead w n) blk off d.reverse := Any.slices_Reverse_int_arr Try.lays112 blk off cap d w hH hsz
open Go.RowKit Go.Lib Go.Sort in
/-- slices.Reverse at []int: "Reverse reverses the elements of the slice in place.": THE SLICE's CELLS HOLD 'zs.reverse' BEHIND THE CALL; all else is as it was, but for the count of draws (the exchange 's[i], s[j] = s[j], s[i]' draws its order, once a round). IN THE WORDS OF slices.Sort's CONTRACT: 'Holds': the cells hold zs and none is frozen; 'putRow': the world with those cells holding another array. A slice of length 0 that is not nil is among them ('zs = []'); nil: '.._nil'. (LAID: no walk: one application.) -/
theorem Try.slices_Reverse_int (blk off cap : Nat) (zs : List Int) (w : World) (hH : Holds (Value.int .i64) w blk off zs.toArray) (hsz : zs.length ≤ 9223372036854775807) :
    Calls Try.prog 48 #[.slice (some ⟨blk, off, none⟩) zs.length cap] w fun e w' => e = .returned (.tuple #[]) ∧ ∃ n, w' = putRow (Value.int .i64) (Sort.ahead w n) blk off zs.reverse.toArray := Any.slices_Reverse_int Try.lays112 blk off cap zs w hH hsz
open Go.RowKit Go.Lib Go.Sort in
/-- The same at a slice of length 0, a nil one too: nothing is read, nothing written, nothing drawn. (LAID: no walk: one application.) -/
theorem Try.slices_Reverse_int_empty (a : Option Addr) (cap : Nat) (w : World) :
    Calls Try.prog 48 #[.slice a 0 cap] w fun e w' => e = .returned (.tuple #[]) ∧ w' = w := Any.slices_Reverse_int_empty Try.lays112 a cap w
open Go.RowKit Go.Lib Go.Sort in
/-- slices.Reverse at []int, of an argument: the n cells hold the elements in reverse. (LAID: no walk: one application.) -/
theorem Try.slices_Reverse_int_cells (b off n c : Nat) (zs : List Int) (w : World) (hz : n ≤ zs.length) (hbig : n ≤ 9223372036854775807) (hc : ∀ j, j < zs.length → w.cell? ⟨b, off + j, none⟩ = some (.int .i64 (zs.getD j 0))) (hf : ∀ j, j < n → w.frozen? ⟨b, off + j, none⟩ = false) :
    Calls Try.prog 48 #[.slice (some ⟨b, off, none⟩) n c] w fun e w' => e = .returned (.tuple #[]) ∧ ∃ q, w' = (w.drewN q).setCells b off ((zs.take n).reverse.map (Value.int .i64)) := Any.slices_Reverse_int_cells Try.lays112 b off n c zs w hz hbig hc hf
end Go.Proofs
namespace Go.Proofs.Ytefjhhgfkdkfaaa
set_option linter.unusedSimpArgs false
set_option linter.unusedVariables false
open Go.RowKit
theorem grown_trans {A B C : World} {row : Option Nat} (h : A.grownBy B row) (k : B.grownBy C row) : A.grownBy C row :=
  ⟨k.os.trans h.os, k.tape.trans h.tape, k.output.trans h.output, Nat.le_trans h.size k.size, fun j hj hn => (k.block j (Nat.lt_of_lt_of_le hj h.size) hn).trans (h.block j hj hn)⟩
theorem grown_setCell (W : World) (g o : Nat) (v : Value) : W.grownBy (W.setCell ⟨g, o, none⟩ v) (some g) :=
  ⟨rfl, rfl, rfl, by simp [World.setCell], fun k _ hn => Below.heap_setCell _ _ _ _ (fun e => hn (by rw [e]))⟩
theorem grown_setCells (g : Nat) : ∀ (vs : List Value) (o : Nat) (W : World), W.grownBy (W.setCells g o vs) (some g)
  | [], _, W => ⟨rfl, rfl, rfl, Nat.le_refl _, fun _ _ _ => rfl⟩
  | v :: vs, o, W => grown_trans (grown_setCell W g o v) (grown_setCells g vs (o + 1) _)
theorem size_setCells (g : Nat) : ∀ (vs : List Value) (o : Nat) (W : World), (W.setCells g o vs).heap.size = W.heap.size
  | [], _, W => rfl
  | v :: vs, o, W => (size_setCells g vs (o + 1) (W.setCell ⟨g, o, none⟩ v)).trans (by simp [World.setCell])
theorem block_setCells (g : Nat) {t : TypeId} : ∀ (vs : List Value) (o : Nat) (W : World) (cur : Array Value), W.heap[g]? = some (.cells cur t (0, 0)) → o + vs.length ≤ cur.size →
    ∃ cur', (W.setCells g o vs).heap[g]? = some (.cells cur' t (0, 0)) ∧ cur'.size = cur.size ∧ (∀ j, j < o → cur'[j]? = cur[j]?) ∧ (∀ j, j < vs.length → cur'[o + j]? = vs[j]?)
  | [], o, W, cur, h, _ => ⟨cur, h, rfl, fun _ _ => rfl, fun j hj => absurd hj (Nat.not_lt_zero _)⟩
  | v :: vs, o, W, cur, h, hl => by
    have h1 : Blk (W.setCell ⟨g, o, none⟩ v) g t (cur.setIfInBounds o v) := Blk.set_ h o v
    obtain ⟨cur', a1, a2, a3, a4⟩ := block_setCells g vs (o + 1) _ _ h1 (by simp only [List.length_cons, Array.size_setIfInBounds] at hl ⊢; omega)
    refine ⟨cur', a1, by rw [a2, Array.size_setIfInBounds], fun j hj => ?_, fun j hj => ?_⟩
    · rw [a3 j (by omega), Array.getElem?_setIfInBounds, if_neg (by omega)]
    · cases j with
      | zero =>
        rw [Nat.add_zero, a3 o (by omega), Array.getElem?_setIfInBounds, if_pos rfl, if_pos (by simp only [List.length_cons] at hl; omega)]
        rfl
      | succ j =>
        have := a4 j (by simpa using hj)
        rw [show o + (j + 1) = o + 1 + j by omega, this]
        rfl
theorem own_of_block {W : World} {B g : Nat} {t : TypeId} {sz n cap : Nat} {cur : Array Value} {xs : List Value} (hg : W.heap[g]? = some (.cells cur t (0, 0))) (hB : B ≤ g) (hl : xs.length = n * sz) (hnc : n ≤ cap) (hc : cap ≤ maxLen) (hs : cur.size = cap * sz)
    (hx : ∀ j, j < n * sz → cur[j]? = xs[j]?) : W.ownsRow B t sz (.slice (some ⟨g, 0, none⟩) n cap) n xs := by
  refine ⟨hl, .inr ⟨g, cap, cur, rfl, hB, hg, hnc, hc, hs, ?_⟩⟩
  have hle : n * sz ≤ cap * sz := Nat.mul_le_mul_right _ hnc
  apply List.ext_getElem?
  intro j
  by_cases hj : j < n * sz
  · rw [List.getElem?_take, if_pos hj, Array.getElem?_toList]
    exact hx j hj
  · rw [List.getElem?_eq_none (by rw [List.length_take, Array.length_toList]; omega), List.getElem?_eq_none (by omega)]
def RevPost (w : World) (B : Nat) (zs : List Int) (v : Value) (e : Ending) (w' : World) : Prop := e = .returned (.tuple #[]) ∧ IO w' B zs.reverse v ∧ w.grownBy w' v.ownBlock ∧ w'.heap.size = w.heap.size
theorem rev_any (zs : List Int) (v : Value) (B : Nat) (w : World) (h : IO w B zs v) : Calls Try.prog 48 #[v] w (RevPost w B zs v) := by
  have h2 := h.2
  rcases h2 with ⟨rfl, h0⟩ | ⟨g, cap, cur, rfl, hB, hg, hnc, hc2, hcs, ht⟩
  · refine (Try.slices_Reverse_int_empty none 0 w).mono ?_
    rintro e w' ⟨rfl, rfl⟩
    have hz : zs = [] := List.eq_nil_of_length_eq_zero h0
    subst hz
    exact ⟨rfl, h, ⟨rfl, rfl, rfl, Nat.le_refl _, fun _ _ _ => rfl⟩, rfl⟩
  · have hiv := h.iv
    obtain ⟨A, b, off, c, he, hA, hz, hzc, -⟩ := hiv.open
    by_cases hn : zs.length = 0
    · have hz0 : zs = [] := List.eq_nil_of_length_eq_zero hn
      subst hz0
      refine (Try.slices_Reverse_int_empty (some ⟨g, 0, none⟩) cap w).mono ?_
      rintro e w' ⟨rfl, rfl⟩
      exact ⟨rfl, h, ⟨rfl, rfl, rfl, Nat.le_refl _, fun _ _ _ => rfl⟩, rfl⟩
    obtain ⟨hA1, -⟩ := hA (by omega)
    injection he with e1 e2 e3
    rw [← e1] at hA1
    injection hA1 with hA1
    injection hA1 with hb ho
    subst hb
    subst ho
    refine (Try.slices_Reverse_int_cells g 0 zs.length cap zs w (Nat.le_refl _) (by unfold maxLen at hc2; omega) (fun j hj => hz j hj) (fun j _ => Blk.frozen (t := 3) hg _)).mono ?_
    rintro e w' ⟨rfl, q, rfl⟩
    have hdr : (w.drewN q).heap = w.heap := rfl
    have hlen : ((zs.take zs.length).reverse.map (Value.int .i64)) = zv zs.reverse := by rw [List.take_length]; rfl
    rw [hlen]
    obtain ⟨cur', a1, a2, -, a4⟩ := block_setCells g (zv zs.reverse) 0 (w.drewN q) cur (by rw [hdr]; exact hg) (by rw [zv_len, List.length_reverse]; omega)
    refine ⟨rfl, ?_, ?_, ?_⟩
    · have := own_of_block (B := B) (sz := 1) (n := zs.reverse.length) (cap := cap) (xs := zv zs.reverse) a1 hB (zv_len _) (by rw [List.length_reverse]; exact hnc) hc2 (by rw [a2]; exact hcs) (fun j hj => by
        have := a4 j (by rw [zv_len]; exact hj)
        rwa [Nat.zero_add] at this)
      show World.ownsRow _ _ _ _ _ _ _
      rw [List.length_reverse] at this ⊢
      exact this
    · have h0 : w.grownBy (w.drewN q) (some g) := ⟨rfl, rfl, rfl, Nat.le_refl _, fun _ _ _ => rfl⟩
      exact grown_trans h0 (grown_setCells g _ _ _)
    · rw [size_setCells]; rfl
end Go.Proofs.Ytefjhhgfkdkfaaa
