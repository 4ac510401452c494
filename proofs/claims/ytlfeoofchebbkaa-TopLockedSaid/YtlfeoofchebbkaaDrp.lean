/- Driving: what memory holds, and the numbers. -/
import Derived.Test.YtlfeoofchebbkaaLw
namespace Go.Proofs.Ytlfeoofchebbkaa
set_option linter.unusedSimpArgs false
set_option linter.unusedVariables false
open Go.RowKit
theorem gz_set (l : List Int) (i : Nat) (v : Int) (j : Nat) (hi : i < l.length) : gz (l.set i v) j = if j = i then v else gz l j := by
  unfold gz
  rw [List.getD_eq_getElem?_getD, List.getD_eq_getElem?_getD, List.getElem?_set]
  by_cases e : j = i
  · subst e; rw [if_pos rfl, if_pos rfl, if_pos hi]; rfl
  · rw [if_neg (fun h => e h.symm), if_neg e]
def byA (f : Forme) (r : Real) (i : Nat) : Int := min (gz r.ts i) (60 * f.W - (across f r.ws).thr i)
def byD (f : Forme) (r : Real) (i : Nat) : Int := min (gz r.ts i) (60 * f.H - (down f r.hs).thr i)
theorem drive_a {f : Forme} {r : Real} {i : Nat} (h : (gp f.ps i).kind = 3) : r.drive f i = { r with ws := r.ws.set i (gz r.ws i + byA f r i), ts := r.ts.set i (gz r.ts i - byA f r i) } := by
  unfold Real.drive
  rw [if_pos (show (f.ps.getD i default).kind = 3 from h)]
  rfl
theorem drive_d {f : Forme} {r : Real} {i : Nat} (h : (gp f.ps i).kind = 4) : r.drive f i = { r with hs := r.hs.set i (gz r.hs i + byD f r i), ts := r.ts.set i (gz r.ts i - byD f r i) } := by
  unfold Real.drive
  rw [if_neg (show ¬ (f.ps.getD i default).kind = 3 from fun e => by have : (gp f.ps i).kind = 3 := e; omega), if_pos (show (f.ps.getD i default).kind = 4 from h)]
  rfl
theorem drive_n {f : Forme} {r : Real} {i : Nat} (h3 : (gp f.ps i).kind ≠ 3) (h4 : (gp f.ps i).kind ≠ 4) : r.drive f i = r := by
  unfold Real.drive
  rw [if_neg (show ¬ (f.ps.getD i default).kind = 3 from h3), if_neg (show ¬ (f.ps.getD i default).kind = 4 from h4)]
/-- Numbers as the driving meets them. -/
structure Okf (f : Forme) (r : Real) : Prop where
  fit : r.Fit f
  tb : ∀ t ∈ r.ts, t ≤ 6000
theorem gz_mem {l : List Int} {i : Nat} (h : i < l.length) : gz l i ∈ l := by rw [gz_get h]; exact List.getElem_mem h
theorem Okf.nums {f : Forme} (hf : f.Laid) {r : Real} (h : Okf f r) {i : Nat} (hi : i < f.ps.length) :
    0 ≤ gz r.ts i ∧ gz r.ts i ≤ 6000 ∧ 1 ≤ gz r.ws i ∧ gz r.ws i ≤ 240000 ∧ 1 ≤ gz r.hs i ∧ gz r.hs i ≤ 240000 ∧ (across f r.ws).thr i ≤ 60 * f.W ∧ 0 ≤ (across f r.ws).thr i ∧ (down f r.hs).thr i ≤ 60 * f.H ∧ 0 ≤ (down f r.hs).thr i := by
  have h1 := h.fit.ws.len
  have h2 := h.fit.hs.len
  have h3 := h.fit.ts
  have m3 := gz_mem (l := r.ts) (i := i) (by omega)
  have m1 := gz_mem (l := r.ws) (i := i) (by omega)
  have m2 := gz_mem (l := r.hs) (i := i) (by omega)
  have t0 := h.fit.t0 _ m3
  have t1 := h.tb _ m3
  have s1 := h.fit.ws.lo _ m1
  have s2 := h.fit.hs.lo _ m2
  have wa := across_wf hf h.fit.ws
  have wd := down_wf hf h.fit.hs
  have f1 := h.fit.fa i (by show i < r.ws.length; omega)
  have f2 := h.fit.fd i (by show i < r.hs.length; omega)
  have g1 := Dir.T_le_thr wa i (by show i < r.ws.length; omega)
  have g2 := Dir.T_le_thr wd i (by show i < r.hs.length; omega)
  have k1 := Dir.T_pos wa i (by show i < r.ws.length; omega)
  have k2 := Dir.T_pos wd i (by show i < r.hs.length; omega)
  have e1 : (across f r.ws).s i = gz r.ws i := rfl
  have e2 : (down f r.hs).s i = gz r.hs i := rfl
  have e3 : (across f r.ws).side = f.W := rfl
  have e4 : (down f r.hs).side = f.H := rfl
  have := hf.w2
  have := hf.h2
  refine ⟨t0, t1, s1, by omega, s2, by omega, by omega, by omega, by omega, by omega⟩
theorem Okf.drive {f : Forme} (hf : f.Laid) {r : Real} (h : Okf f r) (i : Nat) (hi : i < f.ps.length) : Okf f (r.drive f i) := by
  refine ⟨h.fit.drive hf i hi, ?_⟩
  obtain ⟨t0, t1, _, _, _, _, a1, _, d1, _⟩ := h.nums hf hi
  have hset : ∀ b : Int, 0 ≤ b → ∀ t ∈ r.ts.set i (gz r.ts i - b), t ≤ 6000 := fun b hb t ht => by
    rcases List.mem_or_eq_of_mem_set ht with h1 | h1
    · exact h.tb t h1
    · omega
  by_cases h3 : (gp f.ps i).kind = 3
  · rw [drive_a h3]
    exact hset _ (by unfold byA; omega)
  · by_cases h4 : (gp f.ps i).kind = 4
    · rw [drive_d h4]
      exact hset _ (by unfold byD; omega)
    · rw [drive_n h3 h4]; exact h.tb
theorem Okf.driven {f : Forme} (hf : f.Laid) {r : Real} (h : Okf f r) : ∀ k, k ≤ f.ps.length → Okf f (r.driven f k) := by
  intro k
  induction k with
  | zero => intro _; exact h
  | succ k ih => intro hk; exact (ih (by omega)).drive hf k (by omega)
theorem okf_of {f : Forme} {r : Real} (h : (checkR f r).2 = 0) : Okf f r := by
  obtain ⟨hok, h1, h2⟩ := checkR_zero h
  have hw := hok.right.w1
  have hh := hok.right.h1
  refine ⟨⟨hok.ws, hok.hs, hok.ts, fun t ht => ?_, (Dir.fits_maxT (across_wf hok.right.toLaid hok.ws) (by show 0 ≤ f.W; omega)).2 h1, (Dir.fits_maxT (down_wf hok.right.toLaid hok.hs) (by show 0 ≤ f.H; omega)).2 h2⟩, fun t ht => ?_⟩
  · obtain ⟨i, hi, rfl⟩ := List.mem_iff_getElem.1 ht
    rw [← gz_get hi]; exact (hok.tb i hi).1
  · obtain ⟨i, hi, rfl⟩ := List.mem_iff_getElem.1 ht
    rw [← gz_get hi]; exact (hok.tb i hi).2
theorem Okf.uw {f : Forme} (hf : f.Laid) {r : Real} (h : Okf f r) : Usable f r.ws := ⟨h.fit.ws, fun z hz => by
  obtain ⟨i, hi, rfl⟩ := List.mem_iff_getElem.1 hz
  have := (h.nums hf (i := i) (by have := h.fit.ws.len; omega)).2.2.2.1
  rw [gz_get hi] at this
  omega⟩
theorem Okf.uh {f : Forme} (hf : f.Laid) {r : Real} (h : Okf f r) : Usable f r.hs := ⟨h.fit.hs, fun z hz => by
  obtain ⟨i, hi, rfl⟩ := List.mem_iff_getElem.1 hz
  have := (h.nums hf (i := i) (by have := h.fit.hs.len; omega)).2.2.2.2.2.1
  rw [gz_get hi] at this
  omega⟩
/-- What memory holds while quoins are driven. -/
structure DS (w W : World) (f : Forme) (r : Real) (n : Nat) (A : Option Addr) (c bf rs sb y1 y2 y3 d1 d2 d3 : Nat) : Prop where
  B : Below w.heap.size w W
  F : Blk W bf 37 #[.int .i64 f.W, .int .i64 f.H, .slice A n c]
  O : Blk W rs 39 #[.slice none 0 0, .slice none 0 0, .slice none 0 0]
  S : Blk W sb 39 #[.slice (some ⟨y1, 0, none⟩) n d1, .slice (some ⟨y2, 0, none⟩) n d2, .slice (some ⟨y3, 0, none⟩) n d3]
  r1 : rowG W y1 n (fun j => .int .i64 (gz r.ws j))
  r2 : rowG W y2 n (fun j => .int .i64 (gz r.hs j))
  r3 : rowG W y3 n (fun j => .int .i64 (gz r.ts j))
  n1 : y1 ≠ bf ∧ y1 ≠ rs ∧ y1 ≠ sb ∧ w.heap.size ≤ y1
  n2 : y2 ≠ bf ∧ y2 ≠ rs ∧ y2 ≠ sb ∧ w.heap.size ≤ y2
  n3 : y3 ≠ bf ∧ y3 ≠ rs ∧ y3 ≠ sb ∧ w.heap.size ≤ y3
  d12 : y1 ≠ y2
  d13 : y1 ≠ y3
  d23 : y2 ≠ y3
section
variable {w W W' : World} {f : Forme} {r : Real} {n : Nat} {A : Option Addr} {c bf rs sb y1 y2 y3 d1 d2 d3 : Nat}
theorem DS.below (h : DS w W f r n A c bf rs sb y1 y2 y3 d1 d2 d3) (hb : Below W.heap.size W W') : DS w W' f r n A c bf rs sb y1 y2 y3 d1 d2 d3 :=
  { h with B := h.B.trans (hb.mono h.B.size), F := h.F.below hb h.F.lt, O := h.O.below hb h.O.lt, S := h.S.below hb h.S.lt, r1 := h.r1.of_block (hb.block _ h.r1.lt), r2 := h.r2.of_block (hb.block _ h.r2.lt), r3 := h.r3.of_block (hb.block _ h.r3.lt) }
theorem DS.set1 (h : DS w W f r n A c bf rs sb y1 y2 y3 d1 d2 d3) (hl : r.ws.length = n) {i : Nat} (hi : i < n) (v : Int) : DS w (W.setCell ⟨y1, i, none⟩ (.int .i64 v)) f { r with ws := r.ws.set i v } n A c bf rs sb y1 y2 y3 d1 d2 d3 :=
  { h with
    B := h.B.setCell h.n1.2.2.2 _
    F := (Below.heap_setCell _ _ _ _ (Ne.symm h.n1.1)).trans h.F
    O := (Below.heap_setCell _ _ _ _ (Ne.symm h.n1.2.1)).trans h.O
    S := (Below.heap_setCell _ _ _ _ (Ne.symm h.n1.2.2.1)).trans h.S
    r1 := (h.r1.set i _).congr fun j hj => by
      show (if j = i then _ else _) = Value.int .i64 (gz (r.ws.set i v) j)
      rw [gz_set _ _ _ _ (by omega)]
      split <;> rfl
    r2 := h.r2.setOther (Ne.symm h.d12) _
    r3 := h.r3.setOther (Ne.symm h.d13) _ }
theorem DS.set2 (h : DS w W f r n A c bf rs sb y1 y2 y3 d1 d2 d3) (hl : r.hs.length = n) {i : Nat} (hi : i < n) (v : Int) : DS w (W.setCell ⟨y2, i, none⟩ (.int .i64 v)) f { r with hs := r.hs.set i v } n A c bf rs sb y1 y2 y3 d1 d2 d3 :=
  { h with
    B := h.B.setCell h.n2.2.2.2 _
    F := (Below.heap_setCell _ _ _ _ (Ne.symm h.n2.1)).trans h.F
    O := (Below.heap_setCell _ _ _ _ (Ne.symm h.n2.2.1)).trans h.O
    S := (Below.heap_setCell _ _ _ _ (Ne.symm h.n2.2.2.1)).trans h.S
    r1 := h.r1.setOther h.d12 _
    r2 := (h.r2.set i _).congr fun j hj => by
      show (if j = i then _ else _) = Value.int .i64 (gz (r.hs.set i v) j)
      rw [gz_set _ _ _ _ (by omega)]
      split <;> rfl
    r3 := h.r3.setOther (Ne.symm h.d23) _ }
theorem DS.set3 (h : DS w W f r n A c bf rs sb y1 y2 y3 d1 d2 d3) (hl : r.ts.length = n) {i : Nat} (hi : i < n) (v : Int) : DS w (W.setCell ⟨y3, i, none⟩ (.int .i64 v)) f { r with ts := r.ts.set i v } n A c bf rs sb y1 y2 y3 d1 d2 d3 :=
  { h with
    B := h.B.setCell h.n3.2.2.2 _
    F := (Below.heap_setCell _ _ _ _ (Ne.symm h.n3.1)).trans h.F
    O := (Below.heap_setCell _ _ _ _ (Ne.symm h.n3.2.1)).trans h.O
    S := (Below.heap_setCell _ _ _ _ (Ne.symm h.n3.2.2.1)).trans h.S
    r1 := h.r1.setOther h.d13 _
    r2 := h.r2.setOther h.d23 _
    r3 := (h.r3.set i _).congr fun j hj => by
      show (if j = i then _ else _) = Value.int .i64 (gz (r.ts.set i v) j)
      rw [gz_set _ _ _ _ (by omega)]
      split <;> rfl }
theorem DS.rat (h : DS w W f r n A c bf rs sb y1 y2 y3 d1 d2 d3) (h1 : r.ws.length = n) (h2 : r.hs.length = n) (h3 : r.ts.length = n) : RAt W W.heap.size r (some ⟨y1, 0, none⟩) (some ⟨y2, 0, none⟩) (some ⟨y3, 0, none⟩) y1 0 y2 0 y3 0 where
  l1 := fun _ => ⟨rfl, h.r1.lt⟩
  l2 := fun _ => ⟨rfl, h.r2.lt⟩
  l3 := fun _ => ⟨rfl, h.r3.lt⟩
  z1 := ZsAt.of_row (by rw [h1]; exact h.r1)
  z2 := ZsAt.of_row (by rw [h2]; exact h.r2)
  z3 := ZsAt.of_row (by rw [h3]; exact h.r3)
end
set_option maxRecDepth 100000 in
theorem clone_any (zs : List Int) (a : Addr) (b off c : Nat) (w : World) (hA : Lies (some a) zs.length w.heap.size b off) (hz : ZsAt w b off zs) (hm : zs.length ≤ 1000000) :
    Calls Try.prog 108 #[.slice (some a) zs.length c] w (CopyPost w zs) := by
  obtain ⟨i0, hi0, hz0, hz1, hz2⟩ := info_parts (show (Try.prog.info? 3).map (fun i => (i.zero, i.size, i.bytes)) = some (some (.int .i64 0), 1, 8) by kernel_rfl)
  have hh : ∀ j, j < zs.length * 1 → w.cell? ⟨b, off + j, none⟩ = (zs.map (Value.int .i64))[j]? := fun j hj => by
    rw [hz j (by omega), List.getElem?_map, List.getElem?_eq_getElem (by omega)]
    simp [gz, List.getD_eq_getElem?_getD, List.getElem?_eq_getElem (show j < zs.length by omega)]
  have HH := Lib.hid hh
  have HP : Hid (∀ v w', w'.ownsRow w.heap.size 3 1 v zs.length (zs.map (Value.int .i64)) → Below w.heap.size w w' → CopyPost w zs (.returned v) w') := (show ∀ v w', _ from fun v w' h hb => ⟨v, rfl, ints_own h, hb⟩)
  clear hz hh
  have heq : ∀ W, (binOp .eql 23 (.slice (some a) zs.length c) (.slice none 0 0)).run Try.prog W = .ok (.bool false) W := fun W => by
    have := Lib.run_eql_slice_nil W 23 3 (some a) zs.length c 0 0 Try.underlying23
    simpa using this
  go_enter Try.func108, Try.ntmps108
  go_wp2_with ((at_builtin
                refine wpList_copy rfl (.tmp 5) (.tmp 6) 23 rfl 3 i0 _ 1 8 Try.underlying23 hi0 hz0 hz1 hz2 rfl (by omega) rfl rfl (some a) b off zs.length c _ rfl (by simp) hA HH.out (fun u hu => by obtain ⟨x, _, rfl⟩ := List.mem_map.1 hu; rfl) (by simp only [maxLen]; omega) (by omega) ?_
                intro v1 w1 hown1 hg1
                have HO := Lib.hid hown1
                have HG := Lib.hid hg1
                clear hown1 hg1))
  go_ret
  exact HP.out _ _ HO.out HG.out
end Go.Proofs.Ytlfeoofchebbkaa
