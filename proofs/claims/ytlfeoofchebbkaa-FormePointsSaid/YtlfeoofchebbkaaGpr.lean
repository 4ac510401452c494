/- ref.FirstGap: where a forme has its first gap, by the places where pieces end. -/
import Derived.Test.YtlfeoofchebbkaaGap
import Derived.Test.YtlfeoofchebbkaaHlr
namespace Go.Proofs.Ytlfeoofchebbkaa
set_option linter.unusedSimpArgs false
set_option linter.unusedVariables false
open Go.RowKit
def colX (f : Forme) : Nat → List Int
  | 0 => [0]
  | k + 1 => colX f k ++ [(gp f.ps k).x + (gp f.ps k).w]
def colY (f : Forme) : Nat → List Int
  | 0 => [0]
  | k + 1 => colY f k ++ [(gp f.ps k).y + (gp f.ps k).h]
theorem colX_len (f : Forme) (k : Nat) : (colX f k).length = k + 1 := by induction k with
  | zero => rfl
  | succ k ih => simp [colX, ih]
theorem colY_len (f : Forme) (k : Nat) : (colY f k).length = k + 1 := by induction k with
  | zero => rfl
  | succ k ih => simp [colY, ih]
theorem mem_colX {f : Forme} {v : Int} : ∀ {k : Nat}, k ≤ f.ps.length → (v = 0 ∨ ∃ j, j < k ∧ v = (gp f.ps j).x + (gp f.ps j).w) → v ∈ colX f k
  | 0, _, h => by rcases h with rfl | ⟨j, hj, _⟩; simp [colX]; omega
  | k + 1, hk, h => by
    simp only [colX, List.mem_append, List.mem_singleton]
    rcases h with h | ⟨j, hj, h⟩
    · exact .inl (mem_colX (by omega) (.inl h))
    · by_cases e : j = k
      · subst e; exact .inr h
      · exact .inl (mem_colX (by omega) (.inr ⟨j, by omega, h⟩))
theorem mem_colY {f : Forme} {v : Int} : ∀ {k : Nat}, k ≤ f.ps.length → (v = 0 ∨ ∃ j, j < k ∧ v = (gp f.ps j).y + (gp f.ps j).h) → v ∈ colY f k
  | 0, _, h => by rcases h with rfl | ⟨j, hj, _⟩; simp [colY]; omega
  | k + 1, hk, h => by
    simp only [colY, List.mem_append, List.mem_singleton]
    rcases h with h | ⟨j, hj, h⟩
    · exact .inl (mem_colY (by omega) (.inl h))
    · by_cases e : j = k
      · subst e; exact .inr h
      · exact .inl (mem_colY (by omega) (.inr ⟨j, by omega, h⟩))
theorem colX_nonneg {f : Forme} (hf : f.Laid) : ∀ {k : Nat}, k ≤ f.ps.length → ∀ v ∈ colX f k, 0 ≤ v
  | 0, _, v, h => by simp [colX] at h; omega
  | k + 1, hk, v, h => by
    simp only [colX, List.mem_append, List.mem_singleton] at h
    rcases h with h | rfl
    · exact colX_nonneg hf (by omega) v h
    · obtain ⟨a, _, _, _, b, _⟩ := hf.sml (i := k) (by omega); omega
theorem colY_nonneg {f : Forme} (hf : f.Laid) : ∀ {k : Nat}, k ≤ f.ps.length → ∀ v ∈ colY f k, 0 ≤ v
  | 0, _, v, h => by simp [colY] at h; omega
  | k + 1, hk, v, h => by
    simp only [colY, List.mem_append, List.mem_singleton] at h
    rcases h with h | rfl
    · exact colY_nonneg hf (by omega) v h
    · obtain ⟨_, _, a, _, _, _, b, _⟩ := hf.sml (i := k) (by omega); omega
theorem own_lit {w : World} {base g : Nat} {a : Int} (h : Blk w g 3 #[.int .i64 a]) (hb : base ≤ g) : w.ownsRow base 3 1 (.slice (some ⟨g, 0, none⟩) 1 1) 1 ([a].map (Value.int .i64)) :=
  ⟨rfl, .inr ⟨g, 1, #[.int .i64 a], rfl, hb, h, by omega, by simp [maxLen], rfl, rfl⟩⟩
/-- What is known of the candidates that have been looked at. -/
def BestP (f : Forme) (xs ys : List Int) (a bb : Nat) (bx by' : Int) (fd : Bool) : Prop :=
  (fd = false → ∀ i j, (j < a ∧ i < xs.length ∨ j = a ∧ i < bb) → ¬ f.gap (gz xs i) (gz ys j)) ∧
  (fd = true → f.gap bx by' ∧ ∀ i j, (j < a ∧ i < xs.length ∨ j = a ∧ i < bb) → f.gap (gz xs i) (gz ys j) → by' < gz ys j ∨ by' = gz ys j ∧ bx ≤ gz xs i) ∧ (fd = false → bx = 0 ∧ by' = 0)
noncomputable def gapRes (f : Forme) : Value := .tuple #[.agg #[.int .i64 (gapF f).1, .int .i64 (gapF f).2.1], .bool (decide ((gapF f).2.2 = 0))]
theorem best_end {f : Forme} (hf : f.Laid) {bx by' : Int} {fd : Bool} (h : BestP f (colX f f.ps.length) (colY f f.ps.length) (colY f f.ps.length).length 0 bx by' fd) : gapRes f = .tuple #[.agg #[.int .i64 bx, .int .i64 by'], .bool fd] := by
  have hcand : ∀ x y, f.gap1 x y → ∃ i j, i < (colX f f.ps.length).length ∧ j < (colY f f.ps.length).length ∧ gz (colX f f.ps.length) i = x ∧ gz (colY f f.ps.length) j = y := fun x y hg => by
    obtain ⟨hx, hy⟩ := hg.place
    have mx : x ∈ colX f f.ps.length := mem_colX (Nat.le_refl _) (by
      rcases hx with h | ⟨p, hp, h⟩
      · exact .inl h
      · obtain ⟨i, hi, rfl⟩ := List.mem_iff_getElem.1 hp
        exact .inr ⟨i, hi, by rw [gp_get hi]; exact h⟩)
    have my : y ∈ colY f f.ps.length := mem_colY (Nat.le_refl _) (by
      rcases hy with h | ⟨p, hp, h⟩
      · exact .inl h
      · obtain ⟨i, hi, rfl⟩ := List.mem_iff_getElem.1 hp
        exact .inr ⟨i, hi, by rw [gp_get hi]; exact h⟩)
    obtain ⟨i, hi, e1⟩ := List.mem_iff_getElem.1 mx
    obtain ⟨j, hj, e2⟩ := List.mem_iff_getElem.1 my
    exact ⟨i, j, hi, hj, by rw [gz_get hi, e1], by rw [gz_get hj, e2]⟩
  unfold gapRes
  cases fd with
  | false =>
    have hno : ∀ x y, ¬ f.gap x y := fun x y hg => by
      obtain ⟨x', y', h1⟩ := gap_first hg
      obtain ⟨i, j, hi, hj, rfl, rfl⟩ := hcand x' y' h1
      exact h.1 rfl i j (.inl ⟨hj, hi⟩) h1.1
    obtain ⟨rfl, rfl⟩ := h.2.2 rfl
    rw [gapF_none hno]
    rfl
  | true =>
    obtain ⟨h1, h2⟩ := h.2.1 rfl
    obtain ⟨x', y', h3⟩ := gap_first h1
    obtain ⟨i, j, hi, hj, rfl, rfl⟩ := hcand x' y' h3
    have h4 := h2 i j (.inl ⟨hj, hi⟩) h3.1
    have h5 := h3.2 bx by' h1
    have e1 : gz (colX f f.ps.length) i = bx := by omega
    have e2 : gz (colY f f.ps.length) j = by' := by omega
    rw [e1, e2] at h3
    rw [gapF_hit h3]
    rfl
theorem best_next {f : Forme} {xs ys : List Int} {a : Nat} {bx by' : Int} {fd : Bool} (h : BestP f xs ys a xs.length bx by' fd) : BestP f xs ys (a + 1) 0 bx by' fd :=
  ⟨fun hf i j hh => h.1 hf i j (by omega), fun hf => ⟨(h.2.1 hf).1, fun i j hh => (h.2.1 hf).2 i j (by omega)⟩, h.2.2⟩
theorem best_skip {f : Forme} {xs ys : List Int} {a i : Nat} {bx by' : Int} {fd : Bool} (h : BestP f xs ys a i bx by' fd) (hg : ¬ f.gap (gz xs i) (gz ys a)) : BestP f xs ys a (i + 1) bx by' fd :=
  ⟨fun hf i' j hh => by
    by_cases e : j = a ∧ i' = i
    · obtain ⟨rfl, rfl⟩ := e; exact hg
    · exact h.1 hf i' j (by omega), fun hf => ⟨(h.2.1 hf).1, fun i' j hh hgg => by
    by_cases e : j = a ∧ i' = i
    · obtain ⟨rfl, rfl⟩ := e; exact absurd hgg hg
    · exact (h.2.1 hf).2 i' j (by omega) hgg⟩, h.2.2⟩
theorem best_keep {f : Forme} {xs ys : List Int} {a i : Nat} {bx by' : Int} (h : BestP f xs ys a i bx by' true) (hg : by' < gz ys a ∨ by' = gz ys a ∧ bx ≤ gz xs i) : BestP f xs ys a (i + 1) bx by' true :=
  ⟨(fun hf => by cases hf), (fun hf => ⟨(h.2.1 hf).1, fun i' j hh hgg => by
    by_cases e : j = a ∧ i' = i
    · obtain ⟨rfl, rfl⟩ := e; exact hg
    · exact (h.2.1 hf).2 i' j (by omega) hgg⟩), (fun hf => by cases hf)⟩
theorem best_take {f : Forme} {xs ys : List Int} {a i : Nat} {bx by' : Int} {fd : Bool} (h : BestP f xs ys a i bx by' fd) (hg : f.gap (gz xs i) (gz ys a)) (hb : fd = true → gz ys a < by' ∨ gz ys a = by' ∧ gz xs i < bx) : BestP f xs ys a (i + 1) (gz xs i) (gz ys a) true :=
  ⟨(fun hf => by cases hf), (fun _ => ⟨hg, fun i' j hh hgg => by
    by_cases e : j = a ∧ i' = i
    · obtain ⟨rfl, rfl⟩ := e; omega
    · cases fd with
      | false => exact absurd hgg (h.1 rfl i' j (by omega))
      | true =>
        have h1 := (h.2.1 rfl).2 i' j (by omega) hgg
        have h2 := hb rfl
        omega⟩), (fun hf => by cases hf)⟩
theorem best_start (f : Forme) (xs ys : List Int) : BestP f xs ys 0 0 0 0 false :=
  ⟨(fun _ i j hh => by omega), (fun hf => by cases hf), (fun _ => ⟨rfl, rfl⟩)⟩
theorem grown_drewN' {a w : World} {row : Option Nat} (h : a.grownBy w row) (q : Nat) : a.grownBy (w.drewN q) row := ⟨h.os, h.tape, h.output, h.size, h.block⟩
theorem g_none1 (w : World) (o : Obj) : w.grownBy (w.alloc o).drew none := ⟨rfl, rfl, rfl, by simp [World.drew], fun k hk _ => Below.heap_alloc _ _ _ hk⟩
theorem g_none2 (w : World) (o o' : Obj) : w.grownBy ((w.alloc o).alloc o').drew none := ⟨rfl, rfl, rfl, by simp [World.drew]; omega, fun k hk _ => (Below.heap_alloc _ _ _ (by simp; omega)).trans (Below.heap_alloc _ _ _ hk)⟩
theorem g_none0 (w : World) (o : Obj) : w.grownBy (w.alloc o) none := ⟨rfl, rfl, rfl, by simp, fun k hk _ => Below.heap_alloc _ _ _ hk⟩
theorem blk_two (w : World) (o o' : Obj) : ((w.alloc o).alloc o').heap[w.heap.size + 1]? = some o' := by
  have := heap_alloc_new (w.alloc o) o'
  rwa [World.size_alloc] at this
theorem gap_fin {wr X1 W2 X2 W3 V : World} {base n4 n5 m4 m5 g1 g2 p1 p2 q1 q2 H1 H2 : Nat} {u4 u5 : Value} {xs ys xs' ys' : List Value} (hb : base ≤ wr.heap.size) (R4 : wr.ownsRow base 3 1 u4 n4 xs) (R5 : wr.ownsRow base 3 1 u5 n5 ys) (NE : u4.ownBlock ≠ u5.ownBlock) (BW : Below base V wr)
    (g0 : wr.grownBy X1 none) (h1 : X1.grownBy W2 u4.ownBlock) (a1 : u4.ownBlock = some g1 ∨ g1 = H1) (e1 : wr.heap.size ≤ H1) (l1 : g1 < W2.heap.size) (o1 : W2.ownsRow base 3 1 (.slice (some ⟨g1, 0, none⟩) p1 q1) m4 xs')
    (gg : W2.grownBy X2 none) (h2 : X2.grownBy W3 u5.ownBlock) (a2 : u5.ownBlock = some g2 ∨ g2 = H2) (e2 : W2.heap.size ≤ H2) (o2 : W3.ownsRow base 3 1 (.slice (some ⟨g2, 0, none⟩) p2 q2) m5 ys') :
    W3.ownsRow base 3 1 (.slice (some ⟨g1, 0, none⟩) p1 q1) m4 xs' ∧ W3.ownsRow base 3 1 (.slice (some ⟨g2, 0, none⟩) p2 q2) m5 ys' ∧ (Value.slice (some ⟨g1, 0, none⟩) p1 q1).ownBlock ≠ (Value.slice (some ⟨g2, 0, none⟩) p2 q2).ownBlock ∧ Below base V W3 := by
  have k4 : ∀ t, u4.ownBlock = some t → base ≤ t ∧ t < wr.heap.size := fun t ht => R4.lt t ht
  have k5 : ∀ t, u5.ownBlock = some t → base ≤ t ∧ t < wr.heap.size := fun t ht => R5.lt t ht
  have s0 := g0.size
  have s1 := h1.size
  have s2 := gg.size
  have s3 := h2.size
  have ne1 : u5.ownBlock ≠ some g1 := by
    intro e
    rcases a1 with h | h
    · exact NE (h.trans e.symm)
    · have := (k5 g1 e).2; omega
  refine ⟨?_, o2, ?_, ?_⟩
  · have := (o1.kept gg (.inr (by simp [Value.ownBlock])))
    exact this.kept h2 (.inr (by rw [ownBlock_some]; exact fun e => ne1 e.symm))
  · rw [ownBlock_some, ownBlock_some]
    intro e
    injection e with e
    rcases a2 with h | h
    · rw [e] at ne1; exact ne1 h
    · omega
  · have b1 := BW.grown g0 hb (fun k h => by cases h)
    have b2 := b1.grown h1 (by omega) (fun k h => (k4 k h).1)
    have b3 := b2.grown gg (by omega) (fun k h => by cases h)
    exact b3.grown h2 (by omega) (fun k h => (k5 k h).1)
set_option maxRecDepth 100000 in
set_option maxHeartbeats 4000000 in
theorem refGap_any (f : Forme) (A : Option Addr) (b off c : Nat) (w : World) (hA : Lies A f.ps.length w.heap.size b off) (hps : PsAt w b off f.ps) (hf : f.Laid) (hm : f.ps.length ≤ 1000) :
    Calls Try.prog 44 #[.agg #[.int .i64 f.W, .int .i64 f.H, .slice A f.ps.length c]] w fun e w' => e = .returned (gapRes f) ∧ Below w.heap.size w w' := by
  obtain ⟨inf, hInf, hInf0, hInf1, hInf2⟩ := info_parts Try.info3
  have HBE : Hid (∀ bx by' fd, BestP f (colX f f.ps.length) (colY f f.ps.length) (colY f f.ps.length).length 0 bx by' fd → gapRes f = .tuple #[.agg #[.int .i64 bx, .int .i64 by'], .bool fd]) := fun bx by' fd h => best_end hf h
  have HAT : Hid (∀ x y W, Below w.heap.size w W → Calls Try.prog 64 #[.agg #[.int .i64 f.W, .int .i64 f.H, .slice A f.ps.length c], .int .i64 x, .int .i64 y] W fun e w' => e = .returned (.int .i64 (atF f x y)) ∧ Below W.heap.size W w') := (show ∀ x y W, _ from fun x y W hb =>
    pieceAt_any f x y A b off c W (hA.mono hb.size) (fun j hj => (hps j hj).below hb (hA (by omega)).2) (fun j hj => hf.sml hj) (by omega))
  have HP : Hid (∀ W, Below w.heap.size w W → ∀ k, k < f.ps.length → A = some ⟨b, off, none⟩ ∧ PAt W b (off + k * 6) (gp f.ps k) ∧ b < w.heap.size) := (show ∀ W, _ from fun W hW k hk => by
    obtain ⟨rfl, hb⟩ := hA (by omega)
    exact ⟨rfl, (hps k hk).below hW hb, hb⟩)
  have HS := Lib.hid (fun j (hj : j < f.ps.length) => hf.sml hj)
  have HXN := Lib.hid (fun v => colX_nonneg hf (Nat.le_refl _) v)
  have HYN := Lib.hid (fun v => colY_nonneg hf (Nat.le_refl _) v)
  have HXL := Lib.hid (colX_len f)
  have HYL := Lib.hid (colY_len f)
  have HXS : Hid (∀ k, colX f (k + 1) = colX f k ++ [(gp f.ps k).x + (gp f.ps k).w]) := fun k => rfl
  have HYS : Hid (∀ k, colY f (k + 1) = colY f k ++ [(gp f.ps k).y + (gp f.ps k).h]) := fun k => rfl
  have HX0 : Hid (colX f 0 = [0]) := rfl
  have HY0 : Hid (colY f 0 = [0]) := rfl
  have w1' := hf.w1
  have w2' := hf.w2
  have w3' := hf.h1
  have w4' := hf.h2
  clear hA hps hf
  generalize gapRes f = gr at *
  generalize hln : f.ps.length = n at *
  clear hln
  generalize colX f = cx at *
  generalize colY f = cy at *
  have hB : Below w.heap.size w ((w.alloc (Obj.cells #[Value.int IntKind.i64 f.W, Value.int IntKind.i64 f.H, Value.slice A n c] 37)).alloc (Obj.cells #[Value.int IntKind.i64 0, Value.int IntKind.i64 0] 57)) := (below_new _ _).trans ((below_new _ _).mono (by simp))
  have hF : Blk ((w.alloc (Obj.cells #[Value.int IntKind.i64 f.W, Value.int IntKind.i64 f.H, Value.slice A n c] 37)).alloc (Obj.cells #[Value.int IntKind.i64 0, Value.int IntKind.i64 0] 57)) w.heap.size 37 #[Value.int IntKind.i64 f.W, Value.int IntKind.i64 f.H, Value.slice A n c] :=
    (Below.heap_alloc _ _ _ (by simp)).trans (Blk.new w 37 _)
  have hR : Blk ((w.alloc (Obj.cells #[Value.int IntKind.i64 f.W, Value.int IntKind.i64 f.H, Value.slice A n c] 37)).alloc (Obj.cells #[Value.int IntKind.i64 0, Value.int IntKind.i64 0] 57)) (w.heap.size + 1) 57 #[Value.int IntKind.i64 0, Value.int IntKind.i64 0] := by
    have := Blk.new (w.alloc (Obj.cells #[Value.int IntKind.i64 f.W, Value.int IntKind.i64 f.H, Value.slice A n c] 37)) 57 #[Value.int IntKind.i64 0, Value.int IntKind.i64 0]
    rwa [World.size_alloc] at this
  have hsz : ((w.alloc (Obj.cells #[Value.int IntKind.i64 f.W, Value.int IntKind.i64 f.H, Value.slice A n c] 37)).alloc (Obj.cells #[Value.int IntKind.i64 0, Value.int IntKind.i64 0] 57)).heap.size = w.heap.size + 1 + 1 := by simp
  go_enter Try.func44, Try.ntmps44
  go_wp2_with fail
  generalize ((w.alloc (Obj.cells #[Value.int IntKind.i64 f.W, Value.int IntKind.i64 f.H, Value.slice A n c] 37)).alloc (Obj.cells #[Value.int IntKind.i64 0, Value.int IntKind.i64 0] 57)) = W0 at *
  have hz0 : W0.heap.size = w.heap.size + 1 + 1 := hsz
  have hB2 := (hB.alloc hB.size (Obj.cells #[Value.int IntKind.i64 0] 3)).alloc (by simp; omega) (Obj.cells #[Value.int IntKind.i64 0] 3)
  have hF2 : Blk ((W0.alloc (Obj.cells #[Value.int IntKind.i64 0] 3)).alloc (Obj.cells #[Value.int IntKind.i64 0] 3)) w.heap.size 37 _ := (Below.heap_alloc _ _ _ (by simp; omega)).trans ((Below.heap_alloc _ _ _ (by omega)).trans hF)
  have hR2 : Blk ((W0.alloc (Obj.cells #[Value.int IntKind.i64 0] 3)).alloc (Obj.cells #[Value.int IntKind.i64 0] 3)) (w.heap.size + 1) 57 _ := (Below.heap_alloc _ _ _ (by simp; omega)).trans ((Below.heap_alloc _ _ _ (by omega)).trans hR)
  have hU : Blk ((W0.alloc (Obj.cells #[Value.int IntKind.i64 0] 3)).alloc (Obj.cells #[Value.int IntKind.i64 0] 3)) (w.heap.size + 1 + 1) 3 #[.int .i64 0] := by
    have := Blk.new W0 3 #[.int .i64 0]
    rw [hz0] at this
    exact (Below.heap_alloc _ _ _ (by simp; omega)).trans this
  have hV : Blk ((W0.alloc (Obj.cells #[Value.int IntKind.i64 0] 3)).alloc (Obj.cells #[Value.int IntKind.i64 0] 3)) (w.heap.size + 1 + 1 + 1) 3 #[.int .i64 0] := by
    have := Blk.new (W0.alloc (Obj.cells #[Value.int IntKind.i64 0] 3)) 3 #[.int .i64 0]
    rwa [World.size_alloc, hz0] at this
  have hz2 : ((W0.alloc (Obj.cells #[Value.int IntKind.i64 0] 3)).alloc (Obj.cells #[Value.int IntKind.i64 0] 3)).heap.size = w.heap.size + 1 + 1 + 1 + 1 := by simp; omega
  generalize ((W0.alloc (Obj.cells #[Value.int IntKind.i64 0] 3)).alloc (Obj.cells #[Value.int IntKind.i64 0] 3)) = W1 at *
  have HB := Lib.hid hB2
  have HFF := Lib.hid hF2
  have HRR := Lib.hid hR2
  have HU := Lib.hid hU
  have HV := Lib.hid hV
  have hW1 : w.heap.size + 1 + 1 ≤ W1.heap.size := by omega
  clear hB hF hR hB2 hF2 hR2 hU hV hz0 hz2 hsz
  have HC : Hid (∀ W, Below (w.heap.size + 1 + 1) W1 W → (W.cell? ⟨w.heap.size, 0, none⟩ = some (.int .i64 f.W) ∧ W.cell? ⟨w.heap.size, 1, none⟩ = some (.int .i64 f.H) ∧ W.cell? ⟨w.heap.size, 2, none⟩ = some (.slice A n c)) ∧ Blk W (w.heap.size + 1) 57 #[Value.int IntKind.i64 0, Value.int IntKind.i64 0] ∧ Below w.heap.size w W ∧ w.heap.size + 1 + 1 ≤ W.heap.size) := (show ∀ W, _ from fun W hW => by
    have hx : Blk W w.heap.size 37 _ := (hW.block _ (by omega)).trans HFF.out
    exact ⟨⟨hx.cell 0, hx.cell 1, hx.cell 2⟩, (hW.block _ (by omega)).trans HRR.out, HB.out.trans (hW.mono (by omega)), by have := hW.size; omega⟩)
  go_loopg [4, 5, 6] n (fun gg s4 s5 s6 wr => ∃ k : Nat, k ≤ n ∧ n - k ≤ gg ∧ s6 = .int .i64 k ∧ Hid (wr.ownsRow (w.heap.size + 1 + 1) 3 1 s4 (k + 1) ((cx k).map (Value.int .i64))) ∧ Hid (wr.ownsRow (w.heap.size + 1 + 1) 3 1 s5 (k + 1) ((cy k).map (Value.int .i64))) ∧ Hid (s4.ownBlock ≠ s5.ownBlock) ∧ Hid (Below (w.heap.size + 1 + 1) W1 wr))
  case atStart =>
    refine ⟨0, Nat.zero_le _, by omega, rfl, ?_, ?_, (show _ ≠ _ by simp [Value.ownBlock]), Below.refl _ _⟩
    · rw [HX0.out]; exact own_lit HU.out (by omega)
    · rw [HY0.out]; exact own_lit HV.out (by omega)
  case round =>
    obtain ⟨k, hk, hgk, rfl, R4, R5, NE, BW⟩ := hrel
    obtain ⟨⟨f0, f1, f2⟩, hR, hB, hsz⟩ := HC.out wr BW.out
    by_cases hlt : k < n
    · have hltz : (k : Int) < (n : Int) := by omega
      have hk0 : (0 : Int) ≤ (k : Int) := by omega
      obtain ⟨rfl, ⟨c0, c1, c2, c3, c4, c5⟩, hbw⟩ := HP.out wr hB k hlt
      obtain ⟨s1, s2, s3, s4, s5, s6, s7, s8⟩ := HS.out k hlt
      have HXK := Lib.hid (HXS.out k)
      have HYK := Lib.hid (HYS.out k)
      generalize gp f.ps k = p at *
      have e1 : IntKind.i64.wrap (p.x + p.w) = p.x + p.w := IntWalk.i64_in _ (by omega)
      have e2 : IntKind.i64.wrap (p.y + p.h) = p.y + p.h := IntWalk.i64_in _ (by omega)
      have h4l : ∀ t, u4.ownBlock = some t → w.heap.size + 1 + 1 ≤ t := fun t ht => (R4.out.lt t ht).1
      have h5l : ∀ t, u5.ownBlock = some t → w.heap.size + 1 + 1 ≤ t := fun t ht => (R5.out.lt t ht).1
      have H4L := Lib.hid h4l
      have H5L := Lib.hid h5l
      have q1 : w.heap.size < w.heap.size + 1 + 1 := by omega
      have q2 : b < w.heap.size + 1 + 1 := by omega
      have NE5 : Hid (u5.ownBlock = none ∨ u5.ownBlock ≠ u4.ownBlock) := .inr (Ne.symm NE.out)
      have N4 : Hid (∀ j, wr.heap.size ≤ j → some j ≠ u4.ownBlock) := (show ∀ j, _ from fun j hj e => by have := (R4.out.lt j e.symm).2; omega)
      clear h4l h5l hR hB
      go_wp2_with fail
      have hS0 : wr.drew.cell? ⟨w.heap.size, 2, none⟩ = some (.slice (some ⟨b, off, none⟩) n c) ∧ wr.drew.cell? ⟨b, off + k * 6 + 2, none⟩ = some (.int .i64 p.x) ∧ wr.drew.cell? ⟨b, off + k * 6 + 3, none⟩ = some (.int .i64 p.y) ∧ wr.drew.cell? ⟨b, off + k * 6 + 4, none⟩ = some (.int .i64 p.w) ∧ wr.drew.cell? ⟨b, off + k * 6 + 5, none⟩ = some (.int .i64 p.h) := ⟨f2, c2, c3, c4, c5⟩
      go_region_held3 (fun w' => w'.cell? ⟨w.heap.size, 2, none⟩ = some (.slice (some ⟨b, off, none⟩) n c) ∧ w'.cell? ⟨b, off + k * 6 + 2, none⟩ = some (.int .i64 p.x) ∧ w'.cell? ⟨b, off + k * 6 + 3, none⟩ = some (.int .i64 p.y) ∧ w'.cell? ⟨b, off + k * 6 + 4, none⟩ = some (.int .i64 p.w) ∧ w'.cell? ⟨b, off + k * 6 + 5, none⟩ = some (.int .i64 p.h))
        (first
          | exact hS0
          | go_keep
          | (go_split_ands
             refine ⟨far_keep hgrow2 H5L.out q1 ?_ ?_, far_keep hgrow2 H5L.out q2 ?_ ?_, far_keep hgrow2 H5L.out q2 ?_ ?_, far_keep hgrow2 H5L.out q2 ?_ ?_, far_keep hgrow2 H5L.out q2 ?_ ?_⟩ <;> first | assumption | (simp; omega))
          | (go_split_ands
             refine ⟨far_keep hgrow1 H4L.out q1 ?_ ?_, far_keep hgrow1 H4L.out q2 ?_ ?_, far_keep hgrow1 H4L.out q2 ?_ ?_, far_keep hgrow1 H4L.out q2 ?_ ?_, far_keep hgrow1 H4L.out q2 ?_ ?_⟩ <;> first | assumption | (simp; omega)))
        (first
          | (refine step_append_lies _ (by rfl) (.tmp 22) (.tmp 36) 23 (by rfl) (w.heap.size + 1 + 1) 3 inf _ 1 8 Try.underlying23 hInf hInf0 hInf1 hInf2 rfl (by omega) u4 (k + 1) _ (by rfl) (by first | exact (R4.out.alloc _).drew | exact ((R4.out.alloc _).alloc _).drew)
              _ 1 1 [.int .i64 (p.x + p.w)] (by rfl) (by rfl) (by first | exact World.news_of_block (cs := #[.int .i64 (p.x + p.w)]) (t := 3) (fr := (0, 0)) (heap_alloc_new wr _) | exact news_two wr _ #[.int .i64 (p.x + p.w)] 3 | exact World.news_of_block (cs := #[.int .i64 (p.x + p.w)]) (t := 3) (fr := (0, 0)) ((Below.heap_alloc _ _ _ (by simp)).trans (heap_alloc_new wr _))) (by simp [Value.oneCell']) (by omega) (by simp only [maxLen]; omega) (by omega) (by simp; omega) _ (by rfl) ?_; intro g1 cap1 W2 hown1 hgrow1 hat1 hlt1; have hs1 : w.heap.size + 1 + 1 ≤ W2.heap.size := by have := hgrow1.size; simp at this; omega)
          | (refine step_append_lies _ (by rfl) (.tmp 38) (.tmp 52) 23 (by rfl) (w.heap.size + 1 + 1) 3 inf _ 1 8 Try.underlying23 hInf hInf0 hInf1 hInf2 rfl (by omega) u5 (k + 1) _ (by rfl) (by first | exact ((R5.out.alloc _).drew.kept hgrow1 NE5.out).alloc _ | exact ((R5.out.alloc _).alloc _).drew.kept hgrow1 NE5.out)
              _ 1 1 [.int .i64 (p.y + p.h)] (by rfl) (by rfl) (by first | exact World.news_of_block (cs := #[.int .i64 (p.y + p.h)]) (t := 3) (fr := (0, 0)) (heap_alloc_new W2 _) | exact World.news_of_block (cs := #[.int .i64 (p.y + p.h)]) (t := 3) (fr := (0, 0)) ((hgrow1.block (wr.heap.size + 1) (by simp) (N4.out _ (by omega))).trans (blk_two wr _ _)) | exact World.news_of_block (cs := #[.int .i64 (p.y + p.h)]) (t := 3) (fr := (0, 0)) ((hgrow1.block wr.heap.size (by simp; omega) (N4.out _ (by omega))).trans ((Below.heap_alloc _ _ _ (by simp)).trans (heap_alloc_new wr _)))) (by simp [Value.oneCell']) (by omega) (by simp only [maxLen]; omega) (by omega) (by first | omega | (simp; omega)) _ (by rfl) ?_; intro g2 cap2 W3 hown2 hgrow2 hat2 hlt2))
      all_goals
        obtain ⟨F4, F5, FN, FB⟩ := gap_fin (by omega) R4.out R5.out NE.out BW.out (by first | exact g_none1 _ _ | exact g_none2 _ _ _) hgrow1 hat1 (by first | omega | (simp; done) | (simp; omega)) hlt1 hown1 (by first | exact World.grownBy.refl _ _ | exact g_none0 _ _) hgrow2 hat2 (by first | omega | (simp; done) | (simp; omega)) hown2
        have HF4 := Lib.hid F4
        have HF5 := Lib.hid F5
        have HFN := Lib.hid FN
        have HFB := Lib.hid FB
        clear F4 F5 FN FB hgrow1 hat1 hlt1 hown1 hgrow2 hat2 hlt2 hown2 e1 e2
        go_wp2_with fail
        go_roundg (n - (k + 1))
        case measure => omega
        case rel =>
          refine ⟨k + 1, by omega, by omega, by go_num, ?_, ?_, HFN.out, HFB.out⟩
          · show World.ownsRow _ _ _ _ _ _ _
            rw [HXK.out, List.map_append]
            exact HF4.out
          · show World.ownsRow _ _ _ _ _ _ _
            rw [HYK.out, List.map_append]
            exact HF5.out
    · have hltz : ¬ (k : Int) < (n : Int) := by omega
      have he : k = n := by omega
      subst he
      obtain ⟨A4, d4, rfl⟩ := own_slice R4.out
      obtain ⟨A5, d5, rfl⟩ := own_slice R5.out
      have hx4 : IntsV wr (cx k) (.slice A4 (k + 1) d4) := ints_v (B := w.heap.size + 1 + 1) (by rw [HXL.out k]; exact R4.out)
      have hx5 : IntsV wr (cy k) (.slice A5 (k + 1) d5) := ints_v (B := w.heap.size + 1 + 1) (by rw [HYL.out k]; exact R5.out)
      have HX4 := Lib.hid hx4
      have HX5 := Lib.hid hx5
      have HXLk := Lib.hid (HXL.out k)
      have HYLk := Lib.hid (HYL.out k)
      generalize cx k = xs at *
      generalize cy k = ys at *
      have HRR2 := Lib.hid hR
      have HB2 := Lib.hid hB
      clear hx4 hx5 R4 R5 NE HXS HYS HX0 HY0 HXL HYL hR hB HU HV
      go_wp2_with fail
      clear f0 f1 f2
      have hO := Blk.new wr 57 #[Value.int IntKind.i64 0, Value.int IntKind.i64 0]
      have hbb := below_new wr (Obj.cells #[Value.int IntKind.i64 0, Value.int IntKind.i64 0] 57)
      have hz3 : (wr.alloc (Obj.cells #[Value.int IntKind.i64 0, Value.int IntKind.i64 0] 57)).heap.size = wr.heap.size + 1 := by simp
      generalize hW3 : wr.alloc (Obj.cells #[Value.int IntKind.i64 0, Value.int IntKind.i64 0] 57) = W3 at *
      clear hW3
      have HO := Lib.hid hO
      have HBBW := Lib.hid hbb
      have HBW3 := Lib.hid (BW.out.trans (hbb.mono hsz))
      have hz3' : wr.heap.size < W3.heap.size := by omega
      generalize hbk : wr.heap.size = bk at *
      have HBK := Lib.hid hbk
      clear hO hbb hz3 hbk
      have HCC : Hid (∀ W, W3.grownBy W (some bk) → (W.cell? ⟨w.heap.size, 0, none⟩ = some (.int .i64 f.W) ∧ W.cell? ⟨w.heap.size, 1, none⟩ = some (.int .i64 f.H) ∧ W.cell? ⟨w.heap.size, 2, none⟩ = some (.slice A k c)) ∧ Blk W (w.heap.size + 1) 57 #[Value.int IntKind.i64 0, Value.int IntKind.i64 0] ∧ Below w.heap.size w W ∧ w.heap.size + 1 + 1 ≤ W.heap.size ∧ bk < W.heap.size) := (show ∀ W, _ from fun W hW => by
        have hx := HC.out W (HBW3.out.trans (below_of_grown hW hsz (by omega)))
        exact ⟨hx.1, hx.2.1, hx.2.2.1, hx.2.2.2, by have := hW.size; omega⟩)
      have HXC : Hid (∀ W, W3.grownBy W (some bk) → ∀ j, j < k + 1 → ∃ g, A4 = some ⟨g, 0, none⟩ ∧ g < W.heap.size ∧ W.cell? ⟨g, j, none⟩ = some (.int .i64 (gz xs j))) := (show ∀ W, _ from fun W hW j hj => by
        obtain ⟨A', b', c', hv, hl, hzz, _⟩ := HX4.out
        injection hv with h1 h2 h3
        obtain ⟨h4, h5⟩ := hl (by rw [HXLk.out]; omega)
        have h6 := hzz j (by rw [HXLk.out]; exact hj)
        rw [Nat.zero_add] at h6
        rw [HBK.out] at h5
        exact ⟨b', h1.trans h4, by have := hW.size; omega, (grown_cell hW (by omega) (by omega) j).trans ((HBBW.out.cell (p := ⟨b', j, none⟩) h5).trans h6)⟩)
      have HYC : Hid (∀ W, W3.grownBy W (some bk) → ∀ j, j < k + 1 → ∃ g, A5 = some ⟨g, 0, none⟩ ∧ g < W.heap.size ∧ W.cell? ⟨g, j, none⟩ = some (.int .i64 (gz ys j))) := (show ∀ W, _ from fun W hW j hj => by
        obtain ⟨A', b', c', hv, hl, hzz, _⟩ := HX5.out
        injection hv with h1 h2 h3
        obtain ⟨h4, h5⟩ := hl (by rw [HYLk.out]; omega)
        have h6 := hzz j (by rw [HYLk.out]; exact hj)
        rw [Nat.zero_add] at h6
        rw [HBK.out] at h5
        exact ⟨b', h1.trans h4, by have := hW.size; omega, (grown_cell hW (by omega) (by omega) j).trans ((HBBW.out.cell (p := ⟨b', j, none⟩) h5).trans h6)⟩)
      have HXG : Hid (∀ i, i < k + 1 → 0 ≤ gz xs i) := (show ∀ i, _ from fun i hi => HXN.out _ (by rw [gz_get (by rw [HXLk.out]; exact hi)]; exact List.getElem_mem _))
      have HYG : Hid (∀ i, i < k + 1 → 0 ≤ gz ys i) := (show ∀ i, _ from fun i hi => HYN.out _ (by rw [gz_get (by rw [HYLk.out]; exact hi)]; exact List.getElem_mem _))
      clear HX4 HX5 HBBW
      go_loopg [8, 9, 10, 11, 12] (k + 1) (fun gg s8 s9 _ _ _ wr => ∃ (a : Nat) (bx by' : Int) (fd : Bool), a ≤ k + 1 ∧ k + 1 - a ≤ gg ∧ s9 = .int .i64 a ∧ s8 = .bool fd ∧ Hid (W3.grownBy wr (some bk)) ∧ Hid (Blk wr bk 57 #[.int .i64 bx, .int .i64 by']) ∧ Hid (BestP f xs ys a 0 bx by' fd))
      case atStart => exact ⟨0, 0, 0, false, Nat.zero_le _, by omega, rfl, rfl, World.grownBy.refl _ _, HO.out, best_start f xs ys⟩
      case round =>
        obtain ⟨a, bx, by', fd, ha, hga, rfl, rfl, G, O, BP⟩ := hrel
        obtain ⟨⟨f0, f1, f2⟩, hR, hB, hsz', hbk'⟩ := HCC.out wr G.out
        by_cases hak : a < k + 1
        · have hakz : (a : Int) < (k : Int) + 1 := by omega
          have ha0 : (0 : Int) ≤ (a : Int) := by omega
          go_wp2_with fail
          clear f0 f1 f2
          obtain ⟨gko, rfl⟩ : ∃ z : Nat, z = gk := ⟨_, rfl⟩
          obtain ⟨wo, rfl⟩ : ∃ wo : World, wo = wr := ⟨_, rfl⟩
          go_loopg [8, 10, 11, 12] (k + 1) (fun gg s8 s10 _ _ wi => ∃ (i : Nat) (bx by' : Int) (fd : Bool), i ≤ k + 1 ∧ k + 1 - i ≤ gg ∧ s10 = .int .i64 i ∧ s8 = .bool fd ∧ Hid (W3.grownBy wi (some bk)) ∧ Hid (Blk wi bk 57 #[.int .i64 bx, .int .i64 by']) ∧ Hid (BestP f xs ys a i bx by' fd))
          case atStart => exact ⟨0, bx, by', fd, Nat.zero_le _, by omega, rfl, rfl, G.out, O.out, BP.out⟩
          case round =>
            obtain ⟨i, bx, by', fd, hi, hgi, rfl, rfl, G, O, BP⟩ := hrel
            obtain ⟨⟨f0, f1, f2⟩, hR, hB, hsz', hbk'⟩ := HCC.out wr G.out
            by_cases hik : i < k + 1
            · have hikz : (i : Int) < (k : Int) + 1 := by omega
              have hi0 : (0 : Int) ≤ (i : Int) := by omega
              obtain ⟨g4, rfl, hg4, x4⟩ := HXC.out wr G.out i hik
              obtain ⟨g5, rfl, hg5, x5⟩ := HYC.out wr G.out a hak
              have hxg := HXG.out i hik
              have hyg := HYG.out a hak
              have HSK := Lib.hid (fun h => best_skip (i := i) (a := a) BP.out h)
              have HTK := Lib.hid (fun h hb => best_take (i := i) (a := a) BP.out h hb)
              have HKP := Lib.hid (fun hh : BestP f xs ys a i bx by' true => best_keep (i := i) (a := a) hh)
              have HCAT := Lib.hid (fun q => HAT.out (gz xs i) (gz ys a) (wr.drewN q) (below_drewN hB q))
              have HGAP : Hid (gz xs i < f.W → gz ys a < f.H → atF f (gz xs i) (gz ys a) < 0 → f.gap (gz xs i) (gz ys a)) := fun h1 h2 h3 => ⟨hxg, h1, hyg, h2, atF_neg h3⟩
              have HNG : Hid (¬ (gz xs i < f.W ∧ gz ys a < f.H ∧ atF f (gz xs i) (gz ys a) < 0) → ¬ f.gap (gz xs i) (gz ys a)) := fun h hg => h ⟨hg.2.1, hg.2.2.2.1, by
                rcases Int.lt_or_le (atF f (gz xs i) (gz ys a)) 0 with h1 | h1
                · exact h1
                · obtain ⟨q, _, hq, hc⟩ := atF_nonneg (Int.not_lt.2 h1)
                  exact absurd hc (hg.2.2.2.2 (gp f.ps q) (by rw [gp_get hq]; exact List.getElem_mem _))⟩
              generalize atF f (gz xs i) (gz ys a) = at' at *
              generalize gz xs i = x at *
              generalize gz ys a = y at *
              have HBB := Lib.hid hB
              clear hB hR
              by_cases q1 : x < f.W
              · by_cases q2 : y < f.H
                · go_wp2_with fail
                  go_quiet (fail)
                  go_wp2_with fail
                  refine (HCAT.out _).mono ?_
                  rintro e w2 ⟨rfl, b2⟩
                  have G2 := Lib.hid (grown_trans' (grown_drewN' G.out _) (grown_of_below b2 (some bk)))
                  have O2 : Hid (Blk w2 bk 57 #[.int .i64 bx, .int .i64 by']) := (b2.block bk hbk').trans O.out
                  have o0 : w2.cell? ⟨bk, 0, none⟩ = some (.int .i64 bx) := O2.out.cell 0
                  have o1 : w2.cell? ⟨bk, 1, none⟩ = some (.int .i64 by') := O2.out.cell 1
                  have t0 := O2.out.frozen 0
                  have t1 := O2.out.frozen 1
                  clear b2 f0 f1 f2 x4 x5
                  by_cases q3 : at' < 0
                  · cases fd with
                    | false =>
                      clear HKP HSK HNG HCAT
                      go_wp2_with fail
                      go_roundg (k + 1 - (i + 1))
                      case measure => omega
                      case rel =>
                        exact ⟨i + 1, x, y, true, by omega, by omega, by go_num, rfl, grown_setCell' (grown_setCell' G2.out 0 _) 1 _, (O2.out.set_ 0 _).set_ 1 _, HTK.out (HGAP.out q1 q2 q3) (fun h => by cases h)⟩
                    | true =>
                      by_cases q4 : y < by'
                      · clear HKP HSK HNG HCAT
                        go_wp2_with fail
                        go_roundg (k + 1 - (i + 1))
                        case measure => omega
                        case rel =>
                          exact ⟨i + 1, x, y, true, by omega, by omega, by go_num, rfl, grown_setCell' (grown_setCell' G2.out 0 _) 1 _, (O2.out.set_ 0 _).set_ 1 _, HTK.out (HGAP.out q1 q2 q3) (fun _ => .inl q4)⟩
                      · by_cases q5 : y = by'
                        · have q5b : (y == by') = true := by simp [q5]
                          have Q5 := Lib.hid q5
                          clear q5
                          by_cases q6 : x < bx
                          · clear HKP HSK HNG HCAT
                            go_wp2_with fail
                            go_roundg (k + 1 - (i + 1))
                            case measure => omega
                            case rel =>
                              exact ⟨i + 1, x, y, true, by omega, by omega, by go_num, rfl, grown_setCell' (grown_setCell' G2.out 0 _) 1 _, (O2.out.set_ 0 _).set_ 1 _, HTK.out (HGAP.out q1 q2 q3) (fun _ => .inr ⟨Q5.out, q6⟩)⟩
                          · go_wp2_with fail
                            go_roundg (k + 1 - (i + 1))
                            case measure => omega
                            case rel => exact ⟨i + 1, bx, by', true, by omega, by omega, by go_num, rfl, G2.out, O2.out, HKP.out BP.out (.inr ⟨Q5.out.symm, by omega⟩)⟩
                        · have q5b : (y == by') = false := by simp [q5]
                          have Q5 := Lib.hid q5
                          clear q5
                          go_wp2_with fail
                          go_roundg (k + 1 - (i + 1))
                          case measure => omega
                          case rel => exact ⟨i + 1, bx, by', true, by omega, by omega, by go_num, rfl, G2.out, O2.out, HKP.out BP.out (.inl (by have := Q5.out; omega))⟩
                  · go_wp2_with fail
                    go_roundg (k + 1 - (i + 1))
                    case measure => omega
                    case rel => exact ⟨i + 1, bx, by', fd, by omega, by omega, by go_num, rfl, G2.out, O2.out, HSK.out (HNG.out (by omega))⟩
                · go_wp2_with fail
                  go_quiet (fail)
                  go_wp2_with fail
                  go_roundg (k + 1 - (i + 1))
                  case measure => omega
                  case rel => exact ⟨i + 1, bx, by', fd, by omega, by omega, by go_num, rfl, grown_drewN' G.out _, O.out, HSK.out (HNG.out (by omega))⟩
              · go_wp2_with fail
                go_quiet (fail)
                go_wp2_with fail
                go_roundg (k + 1 - (i + 1))
                case measure => omega
                case rel => exact ⟨i + 1, bx, by', fd, by omega, by omega, by go_num, rfl, grown_drewN' G.out _, O.out, HSK.out (HNG.out (by omega))⟩
            · have hikz : ¬ (i : Int) < (k : Int) + 1 := by omega
              have he : i = k + 1 := by omega
              have HBN : Hid (BestP f xs ys (a + 1) 0 bx by' fd) := best_next (by rw [HXLk.out, ← he]; exact BP.out)
              subst he
              go_wp2_with fail
              go_roundg (k + 1 - (a + 1))
              case measure => omega
              case rel => exact ⟨a + 1, bx, by', fd, by omega, by omega, by go_num, rfl, G.out, O.out, HBN.out⟩
        · have hakz : ¬ (a : Int) < (k : Int) + 1 := by omega
          have he : a = k + 1 := by omega
          have hgr : gr = .tuple #[.agg #[.int .i64 bx, .int .i64 by'], .bool fd] := HBE.out bx by' fd (by rw [HYLk.out, ← he]; exact BP.out)
          subst he
          have o0 : wr.cell? ⟨bk, 0, none⟩ = some (.int .i64 bx) := O.out.cell 0
          have o1 : wr.cell? ⟨bk, 1, none⟩ = some (.int .i64 by') := O.out.cell 1
          have s0 : wr.cell? ⟨w.heap.size + 1, 0, none⟩ = some (.int .i64 0) := hR.cell 0
          have s1 : wr.cell? ⟨w.heap.size + 1, 1, none⟩ = some (.int .i64 0) := hR.cell 1
          have t0 := hR.frozen 0
          have t1 := hR.frozen 1
          have hz2 := hR.lt
          have HBB := Lib.hid hB
          have HGR := Lib.hid hgr
          clear hR hB hgr
          go_wp2_with fail
          exact bodyPost_ret (v := .tuple #[.agg #[.int .i64 bx, .int .i64 by'], .bool fd]) (by simp [results, Try.results44, go_sem, s0, s1, hz2]) rfl ⟨by rw [HGR.out], ((HBB.out.setCell (by simp) _).setCell (by simp) _)⟩
end Go.Proofs.Ytlfeoofchebbkaa
