/- A row that the call owns; copies of lists, formes and sizes; Light, few, Neighbours. -/
import Derived.Test.YtlfeoofchebbkaaRfc
import Derived.Test.YtlfeoofchebbkaaFil
import Derived.Test.YtlfeoofchebbkaaLad
namespace Go.Proofs.Ytlfeoofchebbkaa
set_option linter.unusedSimpArgs false
set_option linter.unusedVariables false
open Go.RowKit
/-- Block g is a row of cells, not frozen; the first n hold f. -/
def rowG (w : World) (g n : Nat) (f : Nat → Value) : Prop := ∃ (cur : Array Value) (e : TypeId), w.heap[g]? = some (.cells cur e (0, 0)) ∧ n ≤ cur.size ∧ ∀ j, j < n → cur[j]? = some (f j)
section
variable {w w' : World} {g n : Nat} {f h : Nat → Value}
theorem rowG.cell (r : rowG w g n f) {j : Nat} (hj : j < n) : w.cell? ⟨g, j, none⟩ = some (f j) := by
  obtain ⟨c, e, hb, _, hc⟩ := r
  simp [World.cell?, hb, hc j hj]
theorem rowG.frozen (r : rowG w g n f) (j : Nat) : w.frozen? ⟨g, j, none⟩ = false := by
  obtain ⟨c, e, hb, _⟩ := r
  simp [World.frozen?, hb]
theorem rowG.lt (r : rowG w g n f) : g < w.heap.size := by
  obtain ⟨c, e, hb, _⟩ := r
  exact (Array.getElem?_eq_some_iff.1 hb).1
theorem rowG.congr (r : rowG w g n f) (e : ∀ j, j < n → f j = h j) : rowG w g n h := by
  obtain ⟨c, t, hb, hn, hc⟩ := r
  exact ⟨c, t, hb, hn, fun j hj => by rw [hc j hj, e j hj]⟩
theorem rowG.of_block (r : rowG w g n f) (e : w'.heap[g]? = w.heap[g]?) : rowG w' g n f := by
  obtain ⟨c, t, hb, hn⟩ := r
  exact ⟨c, t, e.trans hb, hn⟩
theorem rowG.set (r : rowG w g n f) (i : Nat) (v : Value) : rowG (w.setCell ⟨g, i, none⟩ v) g n (fun j => if j = i then v else f j) := by
  obtain ⟨c, t, hb, hn, hc⟩ := r
  refine ⟨c.setIfInBounds i v, t, ?_, by simpa using hn, fun j hj => ?_⟩
  · simp [World.setCell, Array.getElem?_modify, hb]
  · rw [Array.getElem?_setIfInBounds]
    by_cases e : j = i
    · subst e
      rw [if_pos rfl, if_pos (by omega)]
      exact congrArg some (if_pos rfl).symm
    · rw [if_neg (fun h => e h.symm)]
      show c[j]? = some (if j = i then v else f j)
      rw [if_neg e]
      exact hc j hj
theorem rowG.drew (r : rowG w g n f) : rowG w.drew g n f := r
theorem rowG.setOther (r : rowG w g n f) {a : Addr} (ha : g ≠ a.block) (v : Value) : rowG (w.setCell a v) g n f := r.of_block (Below.heap_setCell _ _ _ _ ha)
end
theorem rowG_of_rowIs {w : World} {g n : Nat} {t : TypeId} {f : Nat → Value} (r : w.rowIs g t n f) : rowG w g n f := by
  obtain ⟨c, hb, hn, hc⟩ := r
  exact ⟨c, t, hb, by omega, hc⟩
theorem grown_cell {w w' : World} {g b : Nat} (h : w.grownBy w' (some g)) (hb : b < w.heap.size) (hne : b ≠ g) (o : Nat) : w'.cell? ⟨b, o, none⟩ = w.cell? ⟨b, o, none⟩ :=
  World.cell?_of_block (a := ⟨b, o, none⟩) (h.block b hb (fun e => hne (by injection e)))
theorem below_of_grown {w w' : World} {g B : Nat} (h : w.grownBy w' (some g)) (hB : B ≤ g) (hw : B ≤ w.heap.size) : Below B w w' :=
  ⟨h.os, h.tape, h.output, h.size, fun k hk => h.block k (by omega) (fun e => by injection e with e; omega)⟩
/-- What the six cells of a piece hold, by number. -/
def pcell (ps : List Piece) (j : Nat) : Value := ((pcs (gp ps (j / 6))).toList.getD (j % 6) (.int .i64 0))
def pcells (ps : List Piece) : List Value := ps.flatMap fun p => (pcs p).toList
theorem pcells_length (ps : List Piece) : (pcells ps).length = ps.length * 6 := by
  induction ps with
  | nil => rfl
  | cons p t ih => unfold pcells at *; rw [List.flatMap_cons, List.length_append, ih]; show 6 + t.length * 6 = (t.length + 1) * 6; omega
theorem pcells_get : ∀ (ps : List Piece) (j : Nat), j < ps.length * 6 → (pcells ps)[j]? = some (pcell ps j)
  | [], j, h => by simp at h
  | p :: t, j, h => by
    have e : pcells (p :: t) = (pcs p).toList ++ pcells t := rfl
    rw [e]
    rcases Nat.lt_or_ge j 6 with hj | hj
    · rw [List.getElem?_append_left (show j < (pcs p).toList.length from hj)]
      have h1 : j / 6 = 0 := by omega
      have h2 : j % 6 = j := by omega
      unfold pcell
      rw [h1, h2, List.getD_eq_getElem?_getD]
      have : gp (p :: t) 0 = p := rfl
      rw [this, List.getElem?_eq_getElem (show j < (pcs p).toList.length from hj)]
      rfl
    · rw [List.getElem?_append_right (show (pcs p).toList.length ≤ j from hj)]
      show (pcells t)[j - 6]? = _
      rw [pcells_get t (j - 6) (by simp at h; omega)]
      unfold pcell
      have h1 : j / 6 = (j - 6) / 6 + 1 := by omega
      have h2 : j % 6 = (j - 6) % 6 := by omega
      rw [h1, h2]
      rfl
theorem pcells_one (ps : List Piece) : ∀ u ∈ pcells ps, u.oneCell' = true := by
  intro u hu
  obtain ⟨p, _, hp⟩ := List.mem_flatMap.1 hu
  simp [pcs] at hp
  rcases hp with rfl | rfl | rfl | rfl | rfl | rfl <;> rfl
theorem pcell_at (ps : List Piece) (i : Nat) : pcell ps (i * 6) = .string (gp ps i).name ∧ pcell ps (i * 6 + 1) = .int .i64 (gp ps i).kind ∧ pcell ps (i * 6 + 2) = .int .i64 (gp ps i).x ∧
    pcell ps (i * 6 + 3) = .int .i64 (gp ps i).y ∧ pcell ps (i * 6 + 4) = .int .i64 (gp ps i).w ∧ pcell ps (i * 6 + 5) = .int .i64 (gp ps i).h := by
  unfold pcell
  refine ⟨?_, ?_, ?_, ?_, ?_, ?_⟩
  · rw [show i * 6 / 6 = i by omega, show i * 6 % 6 = 0 by omega]; rfl
  · rw [show (i * 6 + 1) / 6 = i by omega, show (i * 6 + 1) % 6 = 1 by omega]; rfl
  · rw [show (i * 6 + 2) / 6 = i by omega, show (i * 6 + 2) % 6 = 2 by omega]; rfl
  · rw [show (i * 6 + 3) / 6 = i by omega, show (i * 6 + 3) % 6 = 3 by omega]; rfl
  · rw [show (i * 6 + 4) / 6 = i by omega, show (i * 6 + 4) % 6 = 4 by omega]; rfl
  · rw [show (i * 6 + 5) / 6 = i by omega, show (i * 6 + 5) % 6 = 5 by omega]; rfl
theorem pAt_all {w : World} {b off : Nat} {ps : List Piece} (h : ∀ j, j < ps.length * 6 → w.cell? ⟨b, off + j, none⟩ = some (pcell ps j)) : PsAt w b off ps := fun i hi => by
  obtain ⟨e0, e1, e2, e3, e4, e5⟩ := pcell_at ps i
  have h0 := h (i * 6) (by omega)
  have h1 := h (i * 6 + 1) (by omega)
  have h2 := h (i * 6 + 2) (by omega)
  have h3 := h (i * 6 + 3) (by omega)
  have h4 := h (i * 6 + 4) (by omega)
  have h5 := h (i * 6 + 5) (by omega)
  rw [e0] at h0; rw [e1] at h1; rw [e2] at h2; rw [e3] at h3; rw [e4] at h4; rw [e5] at h5
  exact ⟨h0, h1, h2, h3, h4, h5⟩
theorem PsAt.all {w : World} {b off : Nat} {ps : List Piece} (h : PsAt w b off ps) : ∀ j, j < ps.length * 6 → w.cell? ⟨b, off + j, none⟩ = some (pcell ps j) := fun j hj => by
  obtain ⟨e0, e1, e2, e3, e4, e5⟩ := pcell_at ps (j / 6)
  obtain ⟨h0, h1, h2, h3, h4, h5⟩ := h (j / 6) (by omega)
  have hr : j % 6 < 6 := Nat.mod_lt _ (by omega)
  have hjj : j = j / 6 * 6 + j % 6 := by omega
  rcases (show j % 6 = 0 ∨ j % 6 = 1 ∨ j % 6 = 2 ∨ j % 6 = 3 ∨ j % 6 = 4 ∨ j % 6 = 5 by omega) with e | e | e | e | e | e <;> rw [e] at hjj <;> rw [hjj]
  · rw [Nat.add_zero, e0]; exact h0
  · rw [e1]; exact h1
  · rw [e2]; exact h2
  · rw [e3]; exact h3
  · rw [e4]; exact h4
  · rw [e5]; exact h5
theorem PsAt.of_row {w : World} {g : Nat} {ps : List Piece} (h : rowG w g (ps.length * 6) (pcell ps)) : PsAt w g 0 ps := pAt_all fun j hj => by rw [Nat.zero_add]; exact h.cell hj
theorem ZsAt.of_row {w : World} {g : Nat} {zs : List Int} (h : rowG w g zs.length (fun j => .int .i64 (gz zs j))) : ZsAt w g 0 zs := fun j hj => by rw [Nat.zero_add]; exact h.cell hj
/-- A slice of numbers that the call owns. -/
def IntsOwn (w : World) (B : Nat) (zs : List Int) (v : Value) : Prop :=
  ∃ A' b' c', v = .slice A' zs.length c' ∧ zs.length ≤ c' ∧ Lies A' zs.length w.heap.size b' 0 ∧ ZsAt w b' 0 zs ∧ (0 < zs.length → B ≤ b' ∧ rowG w b' zs.length (fun j => .int .i64 (gz zs j)))
theorem ints_own {w : World} {base : Nat} {e : TypeId} {v : Value} {zs : List Int} (h : w.ownsRow base e 1 v zs.length (zs.map (.int .i64))) : IntsOwn w base zs v := by
  rcases h.2 with ⟨rfl, h0⟩ | ⟨g, cap, cur, rfl, hbs, hg, hnc, _, hcs, ht⟩
  · exact ⟨none, 0, 0, by rw [h0], by omega, fun h => by omega, fun j hj => by omega, fun h => by omega⟩
  · have hrow : rowG w g zs.length (fun j => .int .i64 (gz zs j)) := ⟨cur, e, hg, by omega, fun j hj => by
      have : (cur.toList.take (zs.length * 1))[j]? = (zs.map (Value.int .i64))[j]? := by rw [ht]
      rw [List.getElem?_take, if_pos (by omega)] at this
      simp only [Array.getElem?_toList, List.getElem?_map] at this
      rw [this, List.getElem?_eq_getElem hj]
      simp [gz, List.getD_eq_getElem?_getD, List.getElem?_eq_getElem hj]⟩
    exact ⟨some ⟨g, 0, none⟩, g, cap, rfl, hnc, fun _ => ⟨rfl, hrow.lt⟩, ZsAt.of_row hrow, fun _ => ⟨hbs, hrow⟩⟩
def CopyPost (w : World) (zs : List Int) (e : Ending) (w' : World) : Prop := ∃ v, e = .returned v ∧ IntsOwn w' w.heap.size zs v ∧ Below w.heap.size w w'
theorem copyIntsO_any (zs : List Int) (A : Option Addr) (b off c : Nat) (w : World) (hA : Lies A zs.length w.heap.size b off) (hz : ZsAt w b off zs) (hm : zs.length ≤ 1000000) :
    Calls Try.prog 22 #[.slice A zs.length c] w (CopyPost w zs) := by
  obtain ⟨i0, hi0, hz0, hz1, hz2⟩ := info_parts (show (Try.prog.info? 3).map (fun i => (i.zero, i.size, i.bytes)) = some (some (.int .i64 0), 1, 8) by kernel_rfl)
  have hh : ∀ j, j < zs.length * 1 → w.cell? ⟨b, off + j, none⟩ = (zs.map (Value.int .i64))[j]? := fun j hj => by
    rw [hz j (by omega), List.getElem?_map, List.getElem?_eq_getElem (by omega)]
    simp [gz, List.getD_eq_getElem?_getD, List.getElem?_eq_getElem (show j < zs.length by omega)]
  have HH := Lib.hid hh
  have HP : Hid (∀ v w', w'.ownsRow w.heap.size 3 1 v zs.length (zs.map (Value.int .i64)) → Below w.heap.size w w' → CopyPost w zs (.returned v) w') := (show ∀ v w', _ from fun v w' h hb => ⟨v, rfl, ints_own h, hb⟩)
  clear hz hh
  go_enter Try.func22, Try.ntmps22
  go_wp2_with ((at_builtin
                refine wpList_copy rfl (.tmp 3) (.tmp 4) 23 rfl 3 i0 _ 1 8 Try.underlying23 hi0 hz0 hz1 hz2 rfl (by omega) rfl rfl A b off zs.length c _ rfl (by simp) hA HH.out (fun u hu => by obtain ⟨x, _, rfl⟩ := List.mem_map.1 hu; rfl) (by simp only [maxLen]; omega) (by omega) ?_
                intro v1 w1 hown1 hg1
                have HO := Lib.hid hown1
                have HG := Lib.hid hg1
                clear hown1 hg1))
  go_ret
  exact HP.out _ _ HO.out HG.out
/-- A slice of pieces that the call owns. -/
def PsOwn (w : World) (B : Nat) (ps : List Piece) (v : Value) : Prop :=
  ∃ A' b' c', v = .slice A' ps.length c' ∧ ps.length ≤ c' ∧ Lies A' ps.length w.heap.size b' 0 ∧ PsAt w b' 0 ps ∧ (0 < ps.length → B ≤ b' ∧ rowG w b' (ps.length * 6) (pcell ps))
theorem ps_own {w : World} {base : Nat} {e : TypeId} {v : Value} {ps : List Piece} (h : w.ownsRow base e 6 v ps.length (pcells ps)) : PsOwn w base ps v := by
  rcases h.2 with ⟨rfl, h0⟩ | ⟨g, cap, cur, rfl, hbs, hg, hnc, _, hcs, ht⟩
  · exact ⟨none, 0, 0, by rw [h0], by omega, fun h => by omega, fun j hj => by omega, fun h => by omega⟩
  · have hrow : rowG w g (ps.length * 6) (pcell ps) := ⟨cur, e, hg, by omega, fun j hj => by
      have : (cur.toList.take (ps.length * 6))[j]? = (pcells ps)[j]? := by rw [ht]
      rw [List.getElem?_take, if_pos (by omega), Array.getElem?_toList] at this
      rw [this, pcells_get ps j hj]⟩
    exact ⟨some ⟨g, 0, none⟩, g, cap, rfl, hnc, fun _ => ⟨rfl, hrow.lt⟩, PsAt.of_row hrow, fun _ => ⟨hbs, hrow⟩⟩
def CopyFPost (w : World) (f : Forme) (e : Ending) (w' : World) : Prop := ∃ v, e = .returned (.agg #[.int .i64 f.W, .int .i64 f.H, v]) ∧ PsOwn w' w.heap.size f.ps v ∧ Below w.heap.size w w'
theorem Try.info70 : (Try.prog.info? 70).map (fun i => (i.zero, i.size, i.bytes)) = some (some (.agg #[.string ⟨#[]⟩, .int .i64 0, .int .i64 0, .int .i64 0, .int .i64 0, .int .i64 0]), 6, 56) := by kernel_rfl
theorem PsOwn.keep {w w' : World} {B : Nat} {ps : List Piece} {v : Value} (h : PsOwn w B ps v) (hB : B ≤ w.heap.size) (hb : ∀ k, B ≤ k → k < w.heap.size → w'.heap[k]? = w.heap[k]?) (hs : w.heap.size ≤ w'.heap.size) : PsOwn w' B ps v := by
  obtain ⟨A', b', c', rfl, h1, h2, h3, h4⟩ := h
  refine ⟨A', b', c', rfl, h1, h2.mono hs, ?_, fun h0 => ⟨(h4 h0).1, (h4 h0).2.of_block (hb b' (h4 h0).1 (h2 h0).2)⟩⟩
  rcases Nat.eq_zero_or_pos ps.length with e | e
  · exact fun j hj => by omega
  · exact PsAt.of_row ((h4 e).2.of_block (hb b' (h4 e).1 (h2 e).2))
end Go.Proofs.Ytlfeoofchebbkaa
