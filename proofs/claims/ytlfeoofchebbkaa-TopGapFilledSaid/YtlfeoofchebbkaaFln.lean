/- FillLength: the labels, and a filling with the fewest pieces. -/
import Derived.Test.YtlfeoofchebbkaaRep
import Derived.Test.YtlfeoofchebbkaaFlp
import Derived.Test.YtlfeoofchebbkaaFl3
import Derived.Test.YtlfeoofchebbkaaHlr
import Derived.Deep.RegionHeld3
import Derived.StillTailTactics
import Derived.RangeFuncNested
import Derived.RangeFuncBound
import Derived.RangeFuncCalls
import Derived.RangeFuncLeaves
import Derived.Shelf.Abstract
import Derived.Shelf.RegionOpen
import Derived.OwnWalkIn
import Derived.TacticsInMore
import Derived.LoopNIn
import Derived.LoopIn
namespace Go.Proofs.Ytlfeoofchebbkaa
set_option linter.unusedSimpArgs false
set_option linter.unusedVariables false
open Go.RowKit Go.Shelf
attribute [local go_sem] Oper.semAt_some
def FlnBad (w : World) (s : Int) (e : Ending) (w' : World) : Prop := e = .returned (.tuple #[.slice none 0 0, .slice none 0 0, .int .i64 s]) ∧ Below w.heap.size w w'
set_option maxRecDepth 100000 in
set_option maxHeartbeats 4000000 in
theorem fillLen_bad (l : List (Int × Int)) (len : Int) (A : Option Addr) (b off c : Nat) (w : World) (hA : Lies A l.length w.heap.size b off) (hz : FsAt w b off l) (hm : l.length ≤ 9223372036854775807) (hs : checkSt l len ≠ 0) :
    Calls Try.prog 56 #[.slice A l.length c, .int .i64 len] w (FlnBad w (checkSt l len)) := by
  have hc := checkFill_any l len A b off c w hA hz hm
  have hne := bne_t hs
  have HP : Hid (∀ W, Below w.heap.size w W → FlnBad w (checkSt l len) (.returned (.tuple #[.slice none 0 0, .slice none 0 0, .int .i64 (checkSt l len)])) W) := (show ∀ W, _ from fun W h => ⟨rfl, h⟩)
  generalize checkSt l len = s at *
  generalize l.length = n at *
  clear hs hA hz
  refine (callsIn_wide (n := 10)).1 ?_
  refine callsIn_of_wp_marks Try.func56 rfl trivial ?_ rfl
  refine wpIn_wide.2 ?_
  simp only [Try.ntmps56, List.size_toArray, List.length_cons, List.length_nil, Nat.reduceAdd, Nat.reduceSub, Array.replicate_succ, Array.replicate_zero, List.push_toArray, List.append_toArray, List.nil_append, List.cons_append]
  go_wp2_with fail
  refine hc.mono ?_
  rintro e w1 ⟨rfl, b1⟩
  have HB := Lib.hid b1
  clear b1 hc
  go_wp2_with fail
  exact ⟨.tuple #[.slice none 0 0, .slice none 0 0, .int .i64 s], by simp [results, Try.results56, go_sem], HP.out _ HB.out⟩
theorem labF0_row {W : World} {g L : Nat} {l : List (Int × Int)} (h : rowG W g (List.replicate (L + 1) (1000000 : Int)).length (fun j => .int .i64 (gz (List.replicate (L + 1) (1000000 : Int)) j))) : rowG (W.setCell ⟨g, 0, none⟩ (.int .i64 0)) g (L + 1) (fun j => .int .i64 (gz (labF l L 0) j)) := by
  have e : (List.replicate (L + 1) (1000000 : Int)).length = L + 1 := by simp
  rw [e] at h
  refine (h.set 0 _).congr fun j hj => ?_
  rw [labF_zero (by omega)]
  by_cases h0 : j = 0
  · simp [h0]
  · rw [if_neg h0, if_neg h0]
    simp [gz, List.getD_eq_getElem?_getD, hj]
/-- A row of numbers in a block of its own is a header that may be collected. -/
theorem hdAt_row {W : World} {ob : Option Nat} {g c : Nat} {zs : List Int} (h : rowG W g zs.length (fun j => .int .i64 (gz zs j))) (hne : 0 < zs.length → some g ≠ ob) : HdAt W ob zs (.slice (some ⟨g, 0, none⟩) zs.length c) :=
  ⟨_, g, c, rfl, fun _ => ⟨rfl, h.lt⟩, hne, ZsAt.of_row h⟩
/-- The box of the labels, and what has been collected. -/
structure FB (w W : World) (l : List (Int × Int)) (L bx k : Nat) (v : Value) : Prop where
  B : Below w.heap.size w W
  X : Blk W bx 76 #[v]
  C : Coll W w.heap.size (labs l L) v k
  b : w.heap.size ≤ bx
theorem FB.step {w W W' : World} {l : List (Int × Int)} {L bx k : Nat} {v : Value} (h : FB w W l L bx k v) (hb : Below W.heap.size W W') : FB w W' l L bx k v :=
  ⟨h.B.trans (hb.mono h.B.size), (hb.block bx h.X.lt).trans h.X, h.C.below hb, h.b⟩
theorem coll_at {W : World} {base : Nat} {ls : List (List Int)} {v : Value} {k i : Nat} (h : Coll W base ls v k) (hi : i < k) : ∃ g cap A' b' c', v = .slice (some ⟨g, 0, none⟩) k cap ∧ k ≤ cap ∧ W.cell? ⟨g, i, none⟩ = some (.slice A' (gl ls i).length c') ∧ Lies A' (gl ls i).length W.heap.size b' 0 ∧ ZsAt W b' 0 (gl ls i) := by
  obtain ⟨hs, h1, h2, h3⟩ := h
  rcases h2.2 with ⟨rfl, h0⟩ | ⟨g, cap, cur, rfl, hbs, hg, hnc, _, hcs, ht⟩
  · omega
  · obtain ⟨u, hu, A', b', c', rfl, l1, _, z1⟩ := h3 i hi
    refine ⟨g, cap, A', b', c', rfl, hnc, ?_, l1, z1⟩
    have : (cur.toList.take (k * 1))[i]? = hs[i]? := by rw [ht]
    rw [List.getElem?_take, if_pos (by omega), Array.getElem?_toList, hu] at this
    simp [World.cell?, hg, this]
theorem fb_start {w W2 : World} {l : List (Int × Int)} {L g0 c0 q : Nat} (hB : Below w.heap.size w W2) (hr : rowG W2 g0 (L + 1) (fun j => .int .i64 (gz (labF l L 0) j))) (hq : W2.heap.size = q) :
    FB w ((W2.alloc (Obj.cells #[Value.slice (some ⟨g0, 0, none⟩) (L + 1) c0] 23)).alloc (Obj.cells #[Value.slice (some ⟨q, 0, none⟩) 1 1] 76)) l L (q + 1) 1 (.slice (some ⟨q, 0, none⟩) 1 1) := by
  subst hq
  have h1 := hB.size
  have hb : Below W2.heap.size W2 ((W2.alloc (Obj.cells #[Value.slice (some ⟨g0, 0, none⟩) (L + 1) c0] 23)).alloc (Obj.cells #[Value.slice (some ⟨W2.heap.size, 0, none⟩) 1 1] 76)) := (below_new _ _).alloc (by simp) _
  have hX := Blk.new (W2.alloc (Obj.cells #[Value.slice (some ⟨g0, 0, none⟩) (L + 1) c0] 23)) 76 #[Value.slice (some ⟨W2.heap.size, 0, none⟩) 1 1]
  rw [World.size_alloc] at hX
  have hG : ((W2.alloc (Obj.cells #[Value.slice (some ⟨g0, 0, none⟩) (L + 1) c0] 23)).alloc (Obj.cells #[Value.slice (some ⟨W2.heap.size, 0, none⟩) 1 1] 76)).heap[W2.heap.size]? = some (.cells #[Value.slice (some ⟨g0, 0, none⟩) (L + 1) c0] 23 (0, 0)) := (Below.heap_alloc _ _ _ (by simp)).trans (heap_alloc_new W2 _)
  have hrl := hr.lt
  have hr2 := hr.of_block (hb.block g0 hrl)
  refine ⟨hB.trans (hb.mono h1), hX, ⟨[Value.slice (some ⟨g0, 0, none⟩) (L + 1) c0], rfl, ⟨rfl, .inr ⟨W2.heap.size, 1, _, rfl, h1, hG, Nat.le_refl _, by unfold maxLen; omega, rfl, rfl⟩⟩, fun i hi => ?_⟩, by omega⟩
  obtain rfl : i = 0 := by omega
  refine ⟨_, rfl, ?_⟩
  rw [gl_labs (Nat.zero_le _)]
  have := hdAt_row (ob := some W2.heap.size) (c := c0) (zs := labF l L 0) (g := g0) (by rw [labF_len]; exact hr2) (fun _ e => by injection e with e; omega)
  rw [labF_len] at this
  exact this
theorem Coll.setBox {W : World} {base bx : Nat} {ls : List (List Int)} {v u u' : Value} {k : Nat} (h : Coll W base ls v k) (hx : Blk W bx 76 #[u]) (hu : ∀ z, u ≠ .int .i64 z) : Coll (W.setCell ⟨bx, 0, none⟩ u') base ls v k := by
  obtain ⟨hs, h1, h2, h3⟩ := h
  have hk : ∀ j, j ≠ bx → (W.setCell ⟨bx, 0, none⟩ u').heap[j]? = W.heap[j]? := fun j hj => Below.heap_setCell _ _ _ _ hj
  refine ⟨hs, h1, ?_, fun i hi => ?_⟩
  · rcases h2.2 with h0 | ⟨g, cap, cur, rfl, hbs, hg, hr⟩
    · exact ⟨h2.1, .inl h0⟩
    · refine ⟨h2.1, .inr ⟨g, cap, cur, rfl, hbs, (hk g fun e => ?_).trans hg, hr⟩⟩
      subst e
      unfold Blk at hx
      rw [hx] at hg
      injection hg with hg
      injection hg with _ ht
      cases ht
  · obtain ⟨x, hxx, A', b', c', rfl, l1, l2, z1⟩ := h3 i hi
    refine ⟨_, hxx, A', b', c', rfl, l1.mono (by simp [World.setCell]), l2, fun j hj => ?_⟩
    have hne : b' ≠ bx := fun e => by
      subst e
      have h0 := z1 0 (by omega)
      have h00 := hx.cell 0
      rw [Nat.zero_add] at h0
      rw [h0] at h00
      exact hu _ (by simpa using h00.symm)
    have := z1 j hj
    rw [← this]
    simp only [World.cell?, hk b' hne]
theorem l3_start {wr : World} {cg k L : Nat} (hcg : wr.heap.size = cg) : L3 wr ((((wr.alloc (Obj.cells (madeCells #[Value.int IntKind.i64 0] k) 3)).alloc (Obj.cells #[Value.slice (some ⟨cg, 0, none⟩) k k] 23)).alloc (Obj.cells #[Value.int IntKind.i64 ↑L] 3)).alloc (Obj.cells #[Value.int IntKind.i64 (↑k - 1)] 3)) k cg (cg + 1 + 1 + 1) ((k : Int) - 1) k L (fun _ => 0) [] := by
  subst hcg
  have hr := rowG_of_rowIs (World.rowIs_made wr (.int .i64 0) k 3)
  have h1 := Blk.new (wr.alloc (Obj.cells (madeCells #[Value.int IntKind.i64 0] k) 3)) 23 #[Value.slice (some ⟨wr.heap.size, 0, none⟩) k k]
  have h2 := Blk.new ((wr.alloc (Obj.cells (madeCells #[Value.int IntKind.i64 0] k) 3)).alloc (Obj.cells #[Value.slice (some ⟨wr.heap.size, 0, none⟩) k k] 23)) 3 #[Value.int IntKind.i64 (L : Int)]
  have h3 := Blk.new (((wr.alloc (Obj.cells (madeCells #[Value.int IntKind.i64 0] k) 3)).alloc (Obj.cells #[Value.slice (some ⟨wr.heap.size, 0, none⟩) k k] 23)).alloc (Obj.cells #[Value.int IntKind.i64 (L : Int)] 3)) 3 #[Value.int IntKind.i64 ((k : Int) - 1)]
  simp only [World.size_alloc] at h1 h2 h3
  refine ⟨(((below_new _ _).alloc (by simp) _).alloc (by simp <;> omega) _).alloc (by simp <;> omega) _, rfl, ?_, ?_, ?_, h3, by omega, trivial⟩
  · refine (hr.of_block ((Below.heap_alloc _ _ _ (by simp <;> omega)).trans ((Below.heap_alloc _ _ _ (by simp <;> omega)).trans (Below.heap_alloc _ _ _ (by simp <;> omega))))).congr fun j hj => by rw [if_neg (by omega)]
  · exact (Below.heap_alloc _ _ _ (by simp <;> omega)).trans ((Below.heap_alloc _ _ _ (by simp <;> omega)).trans h1)
  · exact (Below.heap_alloc _ _ _ (by simp <;> omega)).trans h2
theorem putOnly_LsV {base : Nat} {W W' : World} {ls : List (List Int)} {v : Value} (h : LsV W ls v) (hp : PutOnly base W W') : LsV W' ls v := by
  obtain ⟨A', b', c', rfl, h1, h2, h3⟩ := h
  refine ⟨A', b', c', rfl, by rw [hp.size]; exact h1, fun h0 i hi => ?_, h3⟩
  obtain ⟨A, bi, oi, ci, e1, e2, e3⟩ := h2 h0 i hi
  exact ⟨A, bi, oi, ci, hp.cell e1, by rw [hp.size]; exact e2, fun j hj => hp.cell (e3 j hj)⟩
theorem putOnly_ints {base : Nat} {W W' : World} {g n : Nat} {c : Nat → Nat} (hp : PutOnly base W W') (h : rowG W g n (fun j => .int .i64 (c j : Int))) (hn : n ≤ 1000) : IntsV W' ((List.range n).map fun j => (c j : Int)) (.slice (some ⟨g, 0, none⟩) n n) := by
  have e : ((List.range n).map fun j => (c j : Int)).length = n := by simp
  refine ⟨some ⟨g, 0, none⟩, g, n, by rw [e], fun _ => ⟨rfl, by rw [hp.size]; exact h.lt⟩, fun j hj => ?_, by omega, by omega⟩
  rw [e] at hj
  rw [Nat.zero_add, gz_range _ hj]
  exact hp.cell (h.cell hj)
theorem mem_fins {M : Nat} : ∀ {j : Nat} (h : j ≤ M + 1) (x : Fin (M + 1)), x.val < j → x ∈ fins M j h
  | 0, _, _, hx => absurd hx (Nat.not_lt_zero _)
  | j + 1, h, x, hx => by
    show x ∈ fins M j _ ++ [_]
    by_cases e : x.val = j
    · exact List.mem_append.2 (.inr (List.mem_singleton.2 (Fin.ext e)))
    · exact List.mem_append.2 (.inl (mem_fins (by omega) x (by omega)))
theorem L3.next {W0 W : World} {n cg kb m r D : Nat} {kv kv2 : Int} {c : Nat → Nat} {ds : List Nat} (h : L3 W0 W n cg kb kv m r c ds) (hD : W.heap[D]? = some (.deferred (some []))) (hDb : cg ≤ D) (hn : D ∉ ds) :
    L3 W0 (W.alloc (Obj.cells #[.int .i64 kv2] 3)) n cg W.heap.size kv2 m r c (D :: ds) := by
  have hb : Below W.heap.size W (W.alloc (Obj.cells #[.int .i64 kv2] 3)) := below_new _ _
  have h' := h.below hb
  exact ⟨h'.B, h'.z, h'.C, h'.CB, h'.RB, Blk.new W 3 #[.int .i64 kv2], by have := h.RB.lt; omega, h'.M.add hDb ((hb.block D (Array.getElem?_eq_some_iff.1 hD).1).trans hD) hn⟩
def FlnPost (l : List (Int × Int)) (L : Nat) (w : World) (e : Ending) (w' : World) : Prop := ∃ vl, LsV w' (labs l L) vl ∧ Below w.heap.size w w' ∧
  ((gz (labF l L l.length) L = 1000000 ∧ e = .returned (.tuple #[.slice none 0 0, vl, .int .i64 12])) ∨
   (gz (labF l L l.length) L < 1000000 ∧ ∃ (cs : List Int) (vc : Value), cs.length = l.length ∧ IntsV w' cs vc ∧ e = .returned (.tuple #[vc, vl, .int .i64 0]) ∧ ∃ c : Nat → Nat, (∀ i, i < l.length → gz cs i = (c i : Int) ∧ c i ≤ stC l i) ∧ fS l c l.length = L ∧ (fN c l.length : Int) = gz (labF l L l.length) L))
set_option maxRecDepth 100000 in
set_option maxHeartbeats 8000000 in
theorem fillLen_ok (l : List (Int × Int)) (len : Int) (A : Option Addr) (b off c : Nat) (w : World) (hA : Lies A l.length w.heap.size b off) (hz : FsAt w b off l) (hs : checkSt l len = 0) :
    Calls Try.prog 56 #[.slice A l.length c, .int .i64 len] w (FlnPost l len.toNat w) := by
  have hok := st_ok hs
  have hn12 := hok.n12
  obtain ⟨L, hLe⟩ : ∃ L, L = len.toNat := ⟨_, rfl⟩
  rw [← hLe] at hok ⊢
  have hL1 := hok.L1
  obtain rfl : len = (L : Int) := hok.L0
  have hc := checkFill_any l (L : Int) A b off c w hA hz (by omega)
  rw [hs] at hc
  have HOK := Lib.hid hok
  have HFZ : Hid (∀ W, Below w.heap.size w W → FsAt W b off l) := (show ∀ W, _ from fun W hW j hj => ⟨(hW.cell (p := ⟨b, _, none⟩) (hA (by omega)).2).trans (hz j hj).1, (hW.cell (p := ⟨b, _, none⟩) (hA (by omega)).2).trans (hz j hj).2⟩)
  clear hok hs hz hLe
  generalize hn : l.length = n at *
  have HN := Lib.hid hn
  clear hn
  refine (callsIn_wide (n := 10)).1 ?_
  refine callsIn_of_wp_marks Try.func56 rfl trivial ?_ rfl
  refine wpIn_wide.2 ?_
  simp only [Try.ntmps56, List.size_toArray, List.length_cons, List.length_nil, Nat.reduceAdd, Nat.reduceSub, Array.replicate_succ, Array.replicate_zero, List.push_toArray, List.append_toArray, List.nil_append, List.cons_append]
  go_wp2_with fail
  refine hc.mono ?_
  rintro e w1 ⟨rfl, b1⟩
  have HB := Lib.hid b1
  have hsz := b1.size
  clear b1 hc
  have HREP : Hid (∀ W b0 c0, W.cell? ⟨b0, 0, none⟩ = some (.int .i64 1000000) → Calls Try.prog 116 #[.slice (some ⟨b0, 0, none⟩) 1 c0, .int .i64 ((L : Int) + 1)] W (CopyPost W (List.replicate (L + 1) 1000000))) := (show ∀ W b0 c0, _ from fun W b0 c0 h => by
    have := repeat_any 1000000 (L + 1) b0 0 c0 W h (by omega)
    rwa [show ((L + 1 : Nat) : Int) = (L : Int) + 1 by omega] at this)
  go_wp2_with fail
  refine (HREP.out _ _ _ (by simp [go_sem])).mono ?_
  rintro e w2 ⟨v, rfl, hv, b2⟩
  obtain ⟨A0, g0, c0, rfl, hc0, hl0, hz0, hr0⟩ := hv
  have hlen1 : (List.replicate (L + 1) (1000000 : Int)).length = L + 1 := by simp
  obtain ⟨hgb, hrow⟩ := hr0 (by rw [hlen1]; omega)
  obtain ⟨rfl, -⟩ := hl0 (by rw [hlen1]; omega)
  have HROW := Lib.hid (labF0_row (l := l) hrow)
  have hcell0 := hrow.cell (j := 0) (by rw [hlen1]; omega)
  have hfr0 := hrow.frozen 0
  rw [hlen1] at hc0 ⊢
  simp at hgb
  have HB2 := Lib.hid ((HB.out.trans ((below_new w1 (Obj.cells #[Value.int IntKind.i64 1000000] 3)).mono hsz)).trans (b2.mono (by simp; omega)))
  clear hl0 hz0 hr0 hlen1 b2 hrow
  go_wp2_with fail
  have hFB := fb_start (w := w) (c0 := c0) (q := w2.heap.size) (HB2.out.setCell (p := ⟨g0, 0, none⟩) (by show w.heap.size ≤ g0; omega) (.int .i64 0)) HROW.out (by simp [World.setCell])
  generalize (((w2.setCell ⟨g0, 0, none⟩ (Value.int IntKind.i64 0)).alloc (Obj.cells #[Value.slice (some ⟨g0, 0, none⟩) (L + 1) c0] 23)).alloc (Obj.cells #[Value.slice (some ⟨w2.heap.size, 0, none⟩) 1 1] 76)) = W3 at *
  generalize Value.slice (some ⟨w2.heap.size, 0, none⟩) 1 1 = v0 at *
  generalize w2.heap.size + 1 = bx at *
  have HFB := Lib.hid hFB
  clear hFB HROW hcell0 hfr0 HB2
  obtain ⟨inf, hInf, hInf0, hInf1, hInf2⟩ := info_parts Try.info23
  go_loopg [35] n (fun gg s35 wr => ∃ (k : Nat) (v : Value), k ≤ n ∧ n - k ≤ gg ∧ s35 = .int .i64 k ∧ Hid (FB w wr l L bx (k + 1) v))
  case atStart => exact ⟨0, v0, by omega, by omega, rfl, HFB.out⟩
  case round =>
    obtain ⟨k, v, hk, hgk, rfl, HF⟩ := hrel
    have hbw := HF.out.B
    have hw3 := hbw.size
    by_cases hlt : k < n
    · have hltz : (k : Int) < (n : Int) := by omega
      have hk0 : (0 : Int) ≤ (k : Int) := by omega
      have hkl : k < l.length := by have := HN.out; omega
      obtain ⟨rfl, hb⟩ := hA (by omega)
      obtain ⟨f0, f1⟩ := HFZ.out wr hbw k hkl
      obtain ⟨q1, q2, q3⟩ := HOK.out.s k hkl
      obtain ⟨q4, q5⟩ := HOK.out.c k hkl
      rw [q1] at f0
      rw [q4] at f1
      have HBND : Hid (∀ (W : World) (r : Nat) (A' : Option Addr) (b' c' : Nat), r < L + 1 → Lies A' (L + 1) W.heap.size b' 0 → ZsAt W b' 0 (labF l L k) → Calls Try.prog 115 #[.slice A' (L + 1) c', .agg #[.int .i64 (stS l k : Int), .int .i64 (stC l k : Int)], .int .i64 r] W fun e w' => e = .returned (.int .i64 (gz (labF l L (k + 1)) r)) ∧ Below W.heap.size W w') := (show ∀ W r A' b' c', _ from fun W r A' b' c' hr hl hz => by
        have := bound_any (labF l L k) (stS l k) (stC l k) r (stM l k r) A' b' 0 c' W (by rw [labF_len]; exact hl) hz (by rw [labF_len]; exact hr) (by rw [labF_len]; omega) (stM_iff q2) (by omega) (by omega) (by omega) (fun j hj => labF_win k j (by rw [labF_len] at hj; omega))
        rw [labF_len] at this
        rw [labF_succ (by omega)]
        exact this)
      have HLK : Hid (gl (labs l L) k = labF l L k) := gl_labs (by omega)
      clear q1 q2 q3 q4 q5
      generalize stS l k = S at *
      generalize stC l k = C at *
      have hmk := run_make_row' (P := Try.prog) 23 3 (.int .i64 0) 8 Try.underlying23 Try.info3 rfl .i64 .i64 (L + 1) (by omega) (by omega)
      rw [show ((L + 1 : Nat) : Int) = (L : Int) + 1 by omega] at hmk
      go_wp2_with fail
      obtain ⟨wo, rfl⟩ : ∃ wo : World, wo = wr := ⟨_, rfl⟩
      have HF4 := Lib.hid (HF.out.step (below_new wo (Obj.cells #[Value.int IntKind.i64 ↑S, Value.int IntKind.i64 ↑C] 85)))
      have HX4 := Lib.hid (Blk.new wo 85 #[Value.int IntKind.i64 ↑S, Value.int IntKind.i64 ↑C])
      have hz4 : (wo.alloc (Obj.cells #[Value.int IntKind.i64 ↑S, Value.int IntKind.i64 ↑C] 85)).heap.size = wo.heap.size + 1 := by simp
      have HM4 := Lib.hid (World.rowIs_made (wo.alloc (Obj.cells #[Value.int IntKind.i64 ↑S, Value.int IntKind.i64 ↑C] 85)) (.int .i64 0) (L + 1) 3)
      have HB5 := Lib.hid (below_new (wo.alloc (Obj.cells #[Value.int IntKind.i64 ↑S, Value.int IntKind.i64 ↑C] 85)) (Obj.cells (madeCells #[Value.int IntKind.i64 0] (L + 1)) 3))
      clear hmk f0 f1 hbw HF
      generalize wo.alloc (Obj.cells #[Value.int IntKind.i64 ↑S, Value.int IntKind.i64 ↑C] 85) = W4 at *
      generalize hgn : wo.heap.size + 1 = gn at *
      generalize W4.alloc (Obj.cells (madeCells #[Value.int IntKind.i64 0] (L + 1)) 3) = W5 at *
      rw [hz4] at HM4 HB5
      have hxb : wo.heap.size < gn := by omega
      generalize wo.heap.size = xb at *
      clear hgn
      go_loopg [45] (L + 1) (fun gg s45 wr2 => ∃ r : Nat, r ≤ L + 1 ∧ L + 1 - r ≤ gg ∧ s45 = .int .i64 r ∧ Hid (Below gn W4 wr2) ∧ Hid (wr2.rowIs gn 3 (L + 1) (fun j => if j < r then .int .i64 (gz (labF l L (k + 1)) j) else .int .i64 0)))
      case atStart => exact ⟨0, by omega, by omega, rfl, HB5.out, HM4.out⟩
      case round =>
        obtain ⟨r, hr, hgr, rfl, HBr, HRr⟩ := hrel
        have HFr := Lib.hid (HF4.out.step (by rw [hz4]; exact HBr.out))
        have HXr : Hid (Blk wr xb 85 #[Value.int IntKind.i64 ↑S, Value.int IntKind.i64 ↑C]) := (HBr.out.block xb hxb).trans HX4.out
        have hgs := HRr.out.lt
        by_cases hrl : r < L + 1
        · have hrlz : (r : Int) < (L : Int) + 1 := by omega
          have hr0 : (0 : Int) ≤ (r : Int) := by omega
          obtain ⟨gl', cap, A', b', c', hv, hcap, hcell, hlies, hzs⟩ := coll_at HFr.out.C (Nat.lt_succ_self k)
          rw [HLK.out, labF_len] at hcell hlies
          rw [HLK.out] at hzs
          subst hv
          have hX := HFr.out.X
          have x0 : wr.cell? ⟨bx, 0, none⟩ = some (.slice (some ⟨gl', 0, none⟩) (k + 1) cap) := hX.cell 0
          have y0 : wr.cell? ⟨xb, 0, none⟩ = some (.int .i64 (S : Int)) := HXr.out.cell 0
          have y1 : wr.cell? ⟨xb, 1, none⟩ = some (.int .i64 (C : Int)) := HXr.out.cell 1
          have z0 : wr.cell? ⟨gn, r, none⟩ = some (.int .i64 0) := by rw [HRr.out.cell hrl, if_neg (by omega)]
          have z1 : wr.frozen? ⟨gn, r, none⟩ = false := HRr.out.frozen r
          have hbl := block_lt_of_cell hcell
          have hxl := hX.lt
          have hbx4 : bx < gn := by have := HF4.out.X.lt; omega
          have hgl4 : gl' < gn := by
            obtain ⟨gl2, cap2, A2, b2', c2', hv2, -, hc2, -, -⟩ := coll_at HF4.out.C (Nat.lt_succ_self k)
            injection hv2 with hv2
            injection hv2 with hv2
            injection hv2 with hv2
            subst hv2
            have := block_lt_of_cell hc2
            have e : (⟨gl', k, none⟩ : Addr).block = gl' := rfl
            omega
          have HK : Hid (∀ W, Below wr.heap.size wr W → (W.cell? ⟨bx, 0, none⟩ = some (.slice (some ⟨gl', 0, none⟩) (k + 1) cap) ∧ W.cell? ⟨gl', k, none⟩ = some (.slice A' (L + 1) c') ∧ W.cell? ⟨xb, 0, none⟩ = some (.int .i64 (S : Int)) ∧ W.cell? ⟨xb, 1, none⟩ = some (.int .i64 (C : Int)))) := (show ∀ W, _ from fun W hW =>
            ⟨(hW.cell (p := ⟨bx, 0, none⟩) hxl).trans x0, (hW.cell (p := ⟨gl', k, none⟩) hbl).trans hcell, (hW.cell (p := ⟨xb, 0, none⟩) (by show xb < _; omega)).trans y0, (hW.cell (p := ⟨xb, 1, none⟩) (by show xb < _; omega)).trans y1⟩)
          have HKZ : Hid (∀ W, Below wr.heap.size wr W → W.cell? ⟨gn, r, none⟩ = some (.int .i64 0) ∧ W.frozen? ⟨gn, r, none⟩ = false) := (show ∀ W, _ from fun W hW => ⟨(hW.cell (p := ⟨gn, r, none⟩) hgs).trans z0, (hW.frozen (p := ⟨gn, r, none⟩) hgs).trans z1⟩)
          have HKS : Hid (∀ W u, Below wr.heap.size wr W → ((W.setCell ⟨gn, r, none⟩ u).cell? ⟨bx, 0, none⟩ = some (.slice (some ⟨gl', 0, none⟩) (k + 1) cap) ∧ (W.setCell ⟨gn, r, none⟩ u).cell? ⟨gl', k, none⟩ = some (.slice A' (L + 1) c') ∧ (W.setCell ⟨gn, r, none⟩ u).cell? ⟨xb, 0, none⟩ = some (.int .i64 (S : Int)) ∧ (W.setCell ⟨gn, r, none⟩ u).cell? ⟨xb, 1, none⟩ = some (.int .i64 (C : Int)))) := (show ∀ W u, _ from fun W u hW => by
            obtain ⟨a1, a2, a3, a4⟩ := HK.out W hW
            exact ⟨(World.cell?_setCell_far _ _ _ _ (by show gn ≠ bx; omega)).trans a1, (World.cell?_setCell_far _ _ _ _ (by show gn ≠ gl'; omega)).trans a2, (World.cell?_setCell_far _ _ _ _ (by show gn ≠ xb; omega)).trans a3, (World.cell?_setCell_far _ _ _ _ (by show gn ≠ xb; omega)).trans a4⟩)
          have HCL := Lib.hid (fun (W : World) (hW : Below wr.heap.size wr W) => HBND.out W r A' b' c' hrl (hlies.mono hW.size) (fun j hj => (hW.cell (p := ⟨b', 0 + j, none⟩) (hlies (by omega)).2).trans (hzs j hj)))
          have h0 : Below wr.heap.size wr wr.drew := (Below.refl _ _).drew
          have H0 := Lib.hid h0
          have hS0 := HK.out wr.drew h0
          have kz : (k : Int) < (k : Int) + 1 := by omega
          have kc : (k : Int) + 1 ≤ (cap : Int) := by omega
          have HGZ : Hid (∀ j, j = r → gz (labF l L (k + 1)) j = gz (labF l L (k + 1)) r) := fun j e => by rw [e]
          clear h0 hX x0 y0 y1 z0 z1 hcell hlies hzs
          generalize gz (labF l L (k + 1)) r = val at *
          go_wp2_with fail
          go_region_held3 (fun W => (W.cell? ⟨bx, 0, none⟩ = some (.slice (some ⟨gl', 0, none⟩) (k + 1) cap) ∧ W.cell? ⟨gl', k, none⟩ = some (.slice A' (L + 1) c') ∧ W.cell? ⟨xb, 0, none⟩ = some (.int .i64 (S : Int)) ∧ W.cell? ⟨xb, 1, none⟩ = some (.int .i64 (C : Int))))
            (first
              | exact hS0
              | exact HK.out _ hb4
              | exact HKS.out _ _ hb4
              | go_keep)
            ((go_at_call 115; (with_reducible refine (HCL.out _ H0.out).mono ?_); rintro e w4 ⟨rfl, hb4'⟩; have hb4 : Below wr.heap.size wr w4 := H0.out.trans (hb4'.mono H0.out.size); obtain ⟨zz0, zz1⟩ := HKZ.out _ hb4))
          have HB4' : Hid (Below gn W4 (w4.setCell ⟨gn, r, none⟩ (.int .i64 val))) := (HBr.out.trans (hb4.mono (by omega))).setCell (p := ⟨gn, r, none⟩) (Nat.le_refl _) _
          have HR4 := Lib.hid ((HRr.out.of_block (hb4.block gn hgs)).set r (.int .i64 val))
          clear hb4 hb4' zz0 zz1 hS0
          go_wp2_with fail
          go_roundg (L + 1 - (r + 1))
          case measure => omega
          case rel => exact ⟨r + 1, by omega, by omega, by go_num, HB4'.out, HR4.out.congr fun j hj => by
            by_cases e : j = r
            · subst e; rw [if_pos rfl, if_pos (by omega), HGZ.out j rfl]
            · rw [if_neg e]
              by_cases e2 : j < r
              · rw [if_pos e2, if_pos (by omega)]
              · rw [if_neg e2, if_neg (by omega)]⟩
        · have hrlz : ¬ (r : Int) < (L : Int) + 1 := by omega
          have hre : r = L + 1 := by omega
          subst hre
          have HRZ : Hid (rowG wr gn (L + 1) (fun j => .int .i64 (gz (labF l L (k + 1)) j))) := (rowG_of_rowIs HRr.out).congr fun j hj => by rw [if_pos hj]
          obtain ⟨hs, h1, h2, h3⟩ := HFr.out.C
          have HS1 := Lib.hid h1
          have HS2 := Lib.hid h2
          have HS3 := Lib.hid h3
          have x0 : wr.cell? ⟨bx, 0, none⟩ = some v := HFr.out.X.cell 0
          have HXB := Lib.hid HFr.out.X
          have HBW := Lib.hid HFr.out.B
          have hbw := HBW.out.size
          have hbb := HFr.out.b
          have HNE : Hid (some gn ≠ v.ownBlock) := (show _ ≠ _ from fun e => by
            obtain ⟨hs', -, h2', -⟩ := HF4.out.C
            have := (h2'.lt gn e.symm).2
            omega)
          have HV : Hid (∀ z, v ≠ .int .i64 z) := (show ∀ z, _ from fun z e => by
            rcases h2.2 with ⟨e2, _⟩ | ⟨_, _, _, e2, _⟩
            · rw [e2] at e; cases e
            · rw [e2] at e; cases e)
          have HXA : Hid (Blk (wr.alloc (Obj.cells #[Value.slice (some ⟨gn, 0, none⟩) (L + 1) (L + 1)] 23)) bx 76 #[v]) := (Below.heap_alloc _ _ _ HXB.out.lt).trans HXB.out
          have HNB : Hid (some bx ≠ v.ownBlock) := own_blk_ne h2 HXB.out (by decide)
          clear h1 h2 h3
          go_wp2_with ((at_builtin
                        refine wpList_append_lies _ rfl (.tmp 59) (.tmp 61) 76 (by rfl) w.heap.size 23 inf _ 1 24 Try.underlying76 hInf hInf0 hInf1 hInf2 rfl (by omega) _ (k + 1) _ (by rfl) (HS2.out.alloc _) ⟨wr.heap.size, 0, none⟩ 1 1 [.slice (some ⟨gn, 0, none⟩) (L + 1) (L + 1)] (by rfl) (by rfl) (World.news_of_block (cs := #[.slice (some ⟨gn, 0, none⟩) (L + 1) (L + 1)]) (t := 23) (fr := (0, 0)) (heap_alloc_new wr _)) (by simp [Value.oneCell']) (by omega) (by simp only [maxLen]; omega) (by omega) (by simp; omega) (wr.heap.size + 1) (by simp) ?_
                        intro g1 cap1 w8 hown hgrow hat hlt8
                        have hbx8 := HXA.out.grown hgrow HNB.out
                        have xx0 : w8.cell? ⟨bx, 0, none⟩ = some v := hbx8.cell 0
                        have xx1 := hbx8.frozen 0
                        have HX8 := Lib.hid hbx8
                        have HO8 := Lib.hid hown
                        have HG8 := Lib.hid hgrow
                        have HAT := Lib.hid hat
                        clear hown hgrow hat hbx8))
          go_roundg (n - (k + 1))
          case measure => omega
          case rel =>
            have hal : wr.grownBy (wr.alloc (.cells #[.slice (some ⟨gn, 0, none⟩) (L + 1) (L + 1)] 23)) v.ownBlock := World.grownBy_alloc _ _ _
            have hcoll : Coll w8 w.heap.size (labs l L) (.slice (some ⟨g1, 0, none⟩) (k + 1 + 1) cap1) (k + 1 + 1) := by
              refine Coll.add (u := .slice (some ⟨gn, 0, none⟩) (L + 1) (L + 1)) HS1.out (fun i hi => ?_) ?_ HO8.out HG8.out ?_
              · obtain ⟨u, hu, h4⟩ := HS3.out i hi
                exact ⟨u, hu, h4.step hal (.inl rfl)⟩
              · have hgl : gl (labs l L) (k + 1) = labF l L (k + 1) := gl_labs (by omega)
                rw [hgl]
                have := hdAt_row (ob := v.ownBlock) (c := L + 1) (zs := labF l L (k + 1)) (g := gn) (by rw [labF_len]; exact HRZ.out) (fun _ => HNE.out)
                rw [labF_len] at this
                exact this.step hal (.inl rfl)
              · rcases HAT.out with h | h
                · exact .inl h
                · exact .inr (by simp; omega)
            refine ⟨k + 1, .slice (some ⟨g1, 0, none⟩) (k + 1 + 1) cap1, by omega, by omega, by go_num, ⟨?_, ?_, ?_, hbb⟩⟩
            · exact ((HBW.out.alloc (by omega) _).grown HG8.out (by simp; omega) (fun t ht => (HS2.out.lt t ht).1)).setCell (p := ⟨bx, 0, none⟩) hbb _
            · exact HX8.out.set_ 0 _
            · exact hcoll.setBox HX8.out HV.out
    · have hltz : ¬ (k : Int) < (n : Int) := by omega
      have he : k = n := by omega
      subst he
      obtain ⟨gl', cap, A', b', c', hv, hcap, hcell, hlies, hzs⟩ := coll_at HF.out.C (Nat.lt_succ_self k)
      have hglk : gl (labs l L) k = labF l L k := gl_labs (by have := HN.out; omega)
      rw [hglk, labF_len] at hcell hlies
      rw [hglk] at hzs
      have hLs : LsV wr (labs l L) v := by
        obtain ⟨hs, h1, h2, h3⟩ := HF.out.C
        have e : (labs l L).length = k + 1 := by rw [labs_len, HN.out]
        exact rows_of (by rw [e]; exact h2) (by rw [e]; exact h1) (by rw [e]; exact h3)
      subst hv
      obtain ⟨rfl, hb'⟩ := hlies (by omega)
      have hX := HF.out.X
      have x0 : wr.cell? ⟨bx, 0, none⟩ = some (.slice (some ⟨gl', 0, none⟩) (k + 1) cap) := hX.cell 0
      have z0 := hzs L (by rw [labF_len]; omega)
      rw [Nat.zero_add] at z0
      have HLS := Lib.hid hLs
      have HLW := Lib.hid (labF_win (l := l) k L (Nat.le_refl _))
      have HLAB : Hid (∀ q, q = k → ∀ j, j = L → gz (labF l L q) j = gz (labF l L k) L) := (show ∀ q, _ from fun q h1 j h2 => by rw [h1, h2])
      have HZS := Lib.hid hzs
      have kz : (k : Int) < (k : Int) + 1 := by omega
      have k0 : (0 : Int) ≤ (k : Int) := by omega
      have Lz : (L : Int) < (L : Int) + 1 := by omega
      have L0 : (0 : Int) ≤ (L : Int) := by omega
      clear hglk hLs hX hzs
      generalize gz (labF l L k) L = lab at *
      by_cases hlab : lab = 1000000
      · have hlb : (lab == 1000000) = true := by simp [hlab]
        have HLB := Lib.hid hlab
        clear hlab
        go_wp2_with fail
        go_quiet (fail)
        go_wp2_with fail
        refine ⟨.tuple #[.slice none 0 0, .slice (some ⟨gl', 0, none⟩) (k + 1) cap, .int .i64 12], by simp [results, Try.results56, go_sem], ?_⟩
        exact ⟨_, HLS.out, ⟨HF.out.B.os, HF.out.B.tape, HF.out.B.output, HF.out.B.size, HF.out.B.block⟩, .inl ⟨by rw [HN.out, HLAB.out k rfl L rfl]; exact HLB.out, rfl⟩⟩
      · have hlb : (lab == 1000000) = false := by simp [hlab]
        have HLB := Lib.hid hlab
        clear hlab
        have hmk := run_make_row' (P := Try.prog) 23 3 (.int .i64 0) 8 Try.underlying23 Try.info3 rfl .i64 .i64 k (by omega) (by omega)
        go_wp2_with fail
        generalize hcg : wr.heap.size = cg at *
        have HCG := Lib.hid hcg
        have hlt0 : lab < 1000000 := by have := HLW.out; have := HLB.out; omega
        have HS3 : Hid (L3 wr ((((wr.alloc (Obj.cells (madeCells #[Value.int IntKind.i64 0] k) 3)).alloc (Obj.cells #[Value.slice (some ⟨cg, 0, none⟩) k k] 23)).alloc (Obj.cells #[Value.int IntKind.i64 ↑L] 3)).alloc (Obj.cells #[Value.int IntKind.i64 (↑k - 1)] 3)) k cg (cg + 1 + 1 + 1) ((k : Int) - 1) k L (fun _ => 0) []) := l3_start hcg
        have HP3 : Hid (Lp3 l L k k L (fun _ => 0)) := Lp3.start (by rw [HLAB.out k rfl L rfl]; exact hlt0)
        have HFWo := Lib.hid HF.out
        clear hmk hcg hlt0 x0 z0 hcell
        generalize ((((wr.alloc (Obj.cells (madeCells #[Value.int IntKind.i64 0] k) 3)).alloc (Obj.cells #[Value.slice (some ⟨cg, 0, none⟩) k k] 23)).alloc (Obj.cells #[Value.int IntKind.i64 ↑L] 3)).alloc (Obj.cells #[Value.int IntKind.i64 (↑k - 1)] 3)) = W6 at *
        refine wp_loop_ghost_k (fun gg a' W => ∃ (ds : List Nat) (kb m r : Nat) (cf : Nat → Nat) (t17 t18 t81 t82 t83 t84 t85 t86 t87 t88 t89 t90 t91 t92 t93 t94 t95 t96 t97 t98 t99 t100 t101 t102 t103 t104 t105 t106 t107 t108 t109 t110 t111 t112 t113 t114 t115 t116 : Value), m ≤ gg ∧ m ≤ k ∧ Hid (L3 wr W k cg kb ((m : Int) - 1) m r cf ds) ∧ Hid (Lp3 l L k m r cf) ∧ a' = { tmps := #[Value.slice A k c, Value.int IntKind.i64 ↑L, undef, undef, Value.slice none 0 0, Value.slice none 0 0, Value.int IntKind.i64 0, Value.int IntKind.i64 0, Value.slice (some ⟨g0, 0, none⟩) (L + 1) c0, Value.pointer (some ⟨bx, 0, none⟩), u10, u11, u12, u13, Value.pointer (some ⟨cg + 1, 0, none⟩), Value.pointer (some ⟨cg + 2, 0, none⟩), Value.pointer (some ⟨kb, 0, none⟩), t17, t18, Value.slice A k c, Value.int IntKind.i64 ↑L, Value.int IntKind.i64 0, Value.int IntKind.i64 0, Value.bool false, undef, Value.slice (some ⟨w1.heap.size, 0, none⟩) 1 1, Value.int IntKind.i64 ↑L, Value.int IntKind.i64 (↑L + 1), Value.slice (some ⟨g0, 0, none⟩) (L + 1) c0, Value.slice (some ⟨g0, 0, none⟩) (L + 1) c0, Value.pointer (some ⟨g0, 0, none⟩), Value.slice (some ⟨g0, 0, none⟩) (L + 1) c0, v0, Value.slice A k c, Value.int IntKind.i64 ↑k, Value.int IntKind.i64 ↑k, Value.bool false, u37, u38, u39, u40, u41, u42, u43, u44, u45, u46, u47, u48, u49, u50, u51, u52, u53, u54, u55, u56, u57, u58, u59, u60, u61, u62, u63, Value.slice (some ⟨gl', 0, none⟩) (k + 1) cap, Value.slice A k c, Value.int IntKind.i64 ↑k, Value.pointer (some ⟨gl', k, none⟩), Value.slice (some ⟨b', 0, none⟩) (L + 1) c', Value.int IntKind.i64 ↑L, Value.pointer (some ⟨b', L, none⟩), Value.int IntKind.i64 lab, Value.bool false, undef, Value.slice A k c, Value.int IntKind.i64 ↑k, Value.slice (some ⟨cg, 0, none⟩) k k, Value.int IntKind.i64 ↑L, Value.slice A k c, Value.int IntKind.i64 ↑k, Value.int IntKind.i64 (↑k - 1), t81, t82, t83, t84, t85, t86, t87, t88, t89, t90, t91, t92, t93, t94, t95, t96, t97, t98, t99, t100, t101, t102, t103, t104, t105, t106, t107, t108, t109, t110, t111, t112, t113, t114, t115, t116, undef, undef], defers := ds.map mark }) k ?_ ?_
        · exact ⟨[], cg + 1 + 1 + 1, k, L, fun _ => 0, _, _, _, _, _, _, _, _, _, _, _, _, _, _, _, _, _, _, _, _, _, _, _, _, _, _, _, _, _, _, _, _, _, _, _, _, _, _, by omega, by omega, HS3.out, HP3.out, rfl⟩
        · rintro gg _ W ⟨ds, kb, m, r, cf, t17, t18, t81, t82, t83, t84, t85, t86, t87, t88, t89, t90, t91, t92, t93, t94, t95, t96, t97, t98, t99, t100, t101, t102, t103, t104, t105, t106, t107, t108, t109, t110, t111, t112, t113, t114, t115, t116, hgg, hmk, H3, HP, rfl⟩ J K hJ hK
          dsimp only
          have hKB := H3.out.KB
          have hRB := H3.out.RB
          have hCB := H3.out.CB
          have hkb3 := H3.out.kb
          have hBW := HFWo.out.step (show Below wr.heap.size wr W by rw [HCG.out]; exact H3.out.B)
          have r0 : W.cell? ⟨cg + 2, 0, none⟩ = some (.int .i64 (r : Int)) := hRB.cell 0
          have cb0 : W.cell? ⟨cg + 1, 0, none⟩ = some (.slice (some ⟨cg, 0, none⟩) k k) := hCB.cell 0
          have bx0 : W.cell? ⟨bx, 0, none⟩ = some (.slice (some ⟨gl', 0, none⟩) (k + 1) cap) := hBW.X.cell 0
          rcases Nat.eq_zero_or_pos m with hm0 | hm0
          · subst hm0
            have k0' : W.cell? ⟨kb, 0, none⟩ = some (.int .i64 (-1)) := hKB.cell 0
            have HLSW : Hid (LsV W (labs l L) (.slice (some ⟨gl', 0, none⟩) (k + 1) cap)) := HLS.out.below (by rw [HCG.out]; exact H3.out.B)
            have HBB : Hid (Below w.heap.size w W) := hBW.B
            have HDN := Lib.hid HP.out.done
            have HCC : Hid (rowG W cg k (fun j => .int .i64 (cf j : Int))) := H3.out.C.congr fun j hj => by rw [if_pos (Nat.zero_le _)]
            have HMM := Lib.hid H3.out.M
            have hcgs := H3.out.C.lt
            clear hKB hRB hCB hBW H3 HP
            go_wp2_with fail
            go_quiet (fail)
            go_wp2_with fail
            refine leaves_marks (base := cg) ds _ (HMM.out.kept (w' := W.drewN nq) fun D h _ => h) fun w' hw => ⟨.tuple #[.slice (some ⟨cg, 0, none⟩) k k, .slice (some ⟨gl', 0, none⟩) (k + 1) cap, .int .i64 0], by simp [results, Try.results56, go_sem], ?_⟩
            have hrow : rowG (W.drewN nq) cg k (fun j => .int .i64 (cf j : Int)) := HCC.out
            obtain ⟨d1, d2, d3⟩ := HDN.out
            have hlk : (labF l L k) = labF l L l.length := by rw [HN.out]
            refine ⟨_, putOnly_LsV (W := W.drewN nq) HLSW.out hw, (show Below w.heap.size w (W.drewN nq) from ⟨HBB.out.os, HBB.out.tape, HBB.out.output, HBB.out.size, HBB.out.block⟩).trans (hw.below.mono (by omega)), .inr ⟨?_, (List.range k).map (fun j => (cf j : Int)), _, by rw [List.length_map, List.length_range, HN.out], ?_, rfl, cf, fun i hi => ⟨?_, d1 i (by rw [← HN.out]; exact hi)⟩, by rw [HN.out]; exact d2, by rw [HN.out]; exact d3⟩⟩
            · rw [HN.out, HLAB.out k rfl L rfl]
              have := HLW.out
              have := HLB.out
              omega
            · exact putOnly_ints hw hrow (by omega)
            · exact gz_range _ (by rw [← HN.out]; exact hi)
          · obtain ⟨m, rfl⟩ : ∃ q, m = q + 1 := ⟨m - 1, by omega⟩
            have e1 : ((m + 1 : Nat) : Int) - 1 = (m : Int) := by omega
            rw [e1] at hKB
            have k0' : W.cell? ⟨kb, 0, none⟩ = some (.int .i64 (m : Int)) := hKB.cell 0
            have mz : (0 : Int) ≤ (m : Int) := by omega
            have mk : (m : Int) < (k : Int) := by omega
            obtain ⟨rfl, hbA⟩ := hA (by omega)
            obtain ⟨f0, f1⟩ := HFZ.out W hBW.B m (by have := HN.out; omega)
            obtain ⟨q1, q2, q3⟩ := HOK.out.s m (by have := HN.out; omega)
            obtain ⟨q4, q5⟩ := HOK.out.c m (by have := HN.out; omega)
            rw [q1] at f0
            rw [q4] at f1
            have HE1 := Lib.hid e1
            clear e1 hKB hRB hCB
            go_wp2_with fail
            go_still_tail 5, (by kernel_rfl)
            change wpList _ _ _ _ _ W.drew
            go_wp2_with fail
            refine (choices_any _ _ _ _).mono ?_
            rintro e W7 ⟨rfl, rfl⟩
            go_wp2_with fail
            have hLW7 : Below W.heap.size W (((W.alloc (Obj.cells #[Value.int IntKind.i64 ↑(stS l m), Value.int IntKind.i64 ↑(stC l m)] 85)).alloc (Obj.cells #[Value.int IntKind.i64 ↑r] 3)).drew) := ((below_new _ _).alloc (by simp) _).drew
            have H7 := H3.out.below hLW7
            rw [HE1.out] at H7
            have hzW : (((W.alloc (Obj.cells #[Value.int IntKind.i64 ↑(stS l m), Value.int IntKind.i64 ↑(stC l m)] 85)).alloc (Obj.cells #[Value.int IntKind.i64 ↑r] 3)).drew).heap.size = W.heap.size + 2 := by show ((W.alloc _).alloc _).heap.size = _; simp
            have c3 : (((W.alloc (Obj.cells #[Value.int IntKind.i64 ↑(stS l m), Value.int IntKind.i64 ↑(stC l m)] 85)).alloc (Obj.cells #[Value.int IntKind.i64 ↑r] 3)).drew).cell? ⟨W.heap.size, 0, none⟩ = some (.int .i64 (stS l m : Int)) := by simp [go_sem]
            have c4 : (((W.alloc (Obj.cells #[Value.int IntKind.i64 ↑(stS l m), Value.int IntKind.i64 ↑(stC l m)] 85)).alloc (Obj.cells #[Value.int IntKind.i64 ↑r] 3)).drew).cell? ⟨W.heap.size, 1, none⟩ = some (.int .i64 (stC l m : Int)) := by simp [go_sem]
            have c5 : (((W.alloc (Obj.cells #[Value.int IntKind.i64 ↑(stS l m), Value.int IntKind.i64 ↑(stC l m)] 85)).alloc (Obj.cells #[Value.int IntKind.i64 ↑r] 3)).drew).cell? ⟨W.heap.size + 1, 0, none⟩ = some (.int .i64 (r : Int)) := by simp [go_sem]
            have hM := fun q => stM_iff (l := l) (k := m) (r := r) q2 q
            have hDS : ∀ D ∈ ds, D < W.heap.size + 2 := fun D hD => by have := H3.out.M.lt D hD; omega
            have HX7 : Hid (Blk (((W.alloc (Obj.cells #[Value.int IntKind.i64 ↑(stS l m), Value.int IntKind.i64 ↑(stC l m)] 85)).alloc (Obj.cells #[Value.int IntKind.i64 ↑r] 3)).drew) bx 76 #[.slice (some ⟨gl', 0, none⟩) (k + 1) cap]) := (hBW.step hLW7).X
            have hrL := HP.out.rL
            have hcgW := H3.out.C.lt
            have hLW0 := H3.out.B
            clear r0 cb0 bx0 k0' f0 f1 q1 q4 hBW
            generalize stM l m r = Mx at *
            generalize hS : stS l m = S at *
            generalize hC : stC l m = C at *
            have HS := Lib.hid hS
            have HC := Lib.hid hC
            clear hS hC
            generalize hwz : W.heap.size = wz at *
            generalize ((W.alloc (Obj.cells #[Value.int IntKind.i64 ↑S, Value.int IntKind.i64 ↑C] 85)).alloc (Obj.cells #[Value.int IntKind.i64 ↑r] 3)).drew = W7 at *
            have h10 : 1 ≤ 10 := by omega
            refine wpIn_wide.1 (show Code.wpIn Fence.wide 10 _ _ _ _ _ from ?_)
            refine wpIn_rangeFunc_ownF rfl h10 (gf := 140) (lb := #[.pointer (some ⟨wz, 0, none⟩), .pointer (some ⟨wz + 1, 0, none⟩)]) rfl trivial (enters_of Try.func140 (by kernel_rfl) rfl)
              (choices_stops S C r Mx wz (wz + 1) W7 hM (by omega) (by omega) (by omega) c3 c4 c5 (by omega) (by omega) 9 (by omega)) kpC_t
              (fun W l o o' hl ho _ _ => ⟨World.putObj_heap_other (by omega), World.putObj_heap_other (by omega)⟩) (Below.refl _ _) (fun _ => rfl)
              (fun pre W' => L3 wr W' k cg kb (m : Int) (m + 1) r cf ds ∧ (∀ x ∈ pre, ¬ gz (labF l L m) (r - x.val * S) + (x.val : Int) = gz (labF l L (m + 1)) r) ∧ Below wz W W' ∧ Blk W' bx 76 #[.slice (some ⟨gl', 0, none⟩) (k + 1) cap] ∧ wz + 2 ≤ W'.heap.size)
              (fun cc pre W' => cc = Code.exit 6 ∧ ∃ x : Fin (Mx + 1), gz (labF l L m) (r - x.val * S) + (x.val : Int) = gz (labF l L (m + 1)) r ∧ L3 wr W' k cg kb (m : Int) m (r - x.val * S) (fun i => if i = m then x.val else cf i) ds ∧ wz + 2 ≤ W'.heap.size)
              ?hI ?hIx ?h0 (fun x => { tmps := #[Value.slice (some ⟨b, off, none⟩) k c, Value.int IntKind.i64 ↑L, undef, undef, Value.slice none 0 0, Value.slice none 0 0, Value.int IntKind.i64 0, Value.int IntKind.i64 0, Value.slice (some ⟨g0, 0, none⟩) (L + 1) c0, Value.pointer (some ⟨bx, 0, none⟩), u10, u11, u12, u13, Value.pointer (some ⟨cg + 1, 0, none⟩), Value.pointer (some ⟨cg + 2, 0, none⟩), Value.pointer (some ⟨kb, 0, none⟩), Value.int IntKind.i64 (x.val : Int), Value.int IntKind.i64 ((r : Int) - (x.val : Int) * (S : Int)), Value.slice (some ⟨b, off, none⟩) k c, Value.int IntKind.i64 ↑L, Value.int IntKind.i64 0, Value.int IntKind.i64 0, Value.bool false, undef, Value.slice (some ⟨w1.heap.size, 0, none⟩) 1 1, Value.int IntKind.i64 ↑L, Value.int IntKind.i64 (↑L + 1), Value.slice (some ⟨g0, 0, none⟩) (L + 1) c0, Value.slice (some ⟨g0, 0, none⟩) (L + 1) c0, Value.pointer (some ⟨g0, 0, none⟩), Value.slice (some ⟨g0, 0, none⟩) (L + 1) c0, v0, Value.slice (some ⟨b, off, none⟩) k c, Value.int IntKind.i64 ↑k, Value.int IntKind.i64 ↑k, Value.bool false, u37, u38, u39, u40, u41, u42, u43, u44, u45, u46, u47, u48, u49, u50, u51, u52, u53, u54, u55, u56, u57, u58, u59, u60, u61, u62, u63, Value.slice (some ⟨gl', 0, none⟩) (k + 1) cap, Value.slice (some ⟨b, off, none⟩) k c, Value.int IntKind.i64 ↑k, Value.pointer (some ⟨gl', k, none⟩), Value.slice (some ⟨b', 0, none⟩) (L + 1) c', Value.int IntKind.i64 ↑L, Value.pointer (some ⟨b', L, none⟩), Value.int IntKind.i64 lab, Value.bool false, undef, Value.slice (some ⟨b, off, none⟩) k c, Value.int IntKind.i64 ↑k, Value.slice (some ⟨cg, 0, none⟩) k k, Value.int IntKind.i64 ↑L, Value.slice (some ⟨b, off, none⟩) k c, Value.int IntKind.i64 ↑k, Value.int IntKind.i64 (↑k - 1), Value.int IntKind.i64 ↑m, Value.bool true, t83, t84, Value.slice (some ⟨b, off, none⟩) k c, Value.int IntKind.i64 ↑m, Value.pointer (some ⟨b, off + m * 2, none⟩), Value.agg #[Value.int IntKind.i64 ↑S, Value.int IntKind.i64 ↑C], Value.int IntKind.i64 ↑r, Value.func (Fn.func 140) #[] #[Value.pointer (some ⟨wz, 0, none⟩), Value.pointer (some ⟨wz + 1, 0, none⟩)], Value.int IntKind.i64 (x.val : Int), Value.int IntKind.i64 ((r : Int) - (x.val : Int) * (S : Int)), t93, t94, t95, t96, t97, t98, t99, t100, t101, t102, t103, t104, t105, t106, t107, t108, t109, t110, t111, t112, t113, t114, t115, t116, undef, undef], defers := [] }) ?assign ?body ?done ?stop
            case hI => exact fun pre A B row hs hg hr => ⟨hs.1.kept (T := W7.heap.size) (fun D hD => by have := hDS D hD; omega) (by omega) hg hr, hs.2.1, hs.2.2.1.grown hg (by have := hs.2.2.1.size; omega) (fun q e => by have := (hr q e).1; omega), hs.2.2.2.1.grown hg (fun e => by
              obtain ⟨_, o, ho, hoc⟩ := hr bx e.symm
              have hb := hs.2.2.2.1
              unfold Blk at hb
              rw [hb] at ho
              injection ho with ho
              rw [← ho] at hoc
              cases hoc), Nat.le_trans hs.2.2.2.2 hg.size⟩
            case hIx => exact fun cc pre A B row hs hg hr => ⟨hs.1, by
              obtain ⟨x, h1, h2, h3⟩ := hs.2
              exact ⟨x, h1, h2.kept (T := W7.heap.size) (fun D hD => by have := hDS D hD; omega) (by omega) hg hr, Nat.le_trans h3 hg.size⟩⟩
            case h0 => exact ⟨H7, fun x hx => absurd hx (by simp), hLW7, HX7.out, by omega⟩
            case assign =>
              intro l x W K hK
              gi_wp2
              exact hK
            case body =>
              rintro lp pre x W8 ⟨h8, hno, hB8, hX8, hz8⟩ _
              have HF8 := HFWo.out.step (show Below wr.heap.size wr W8 by rw [HCG.out]; exact h8.B)
              obtain ⟨g1, p1, A1, b1, d1, hv1, -, s1, l1, z1⟩ := coll_at HF8.C (show m < k + 1 by omega)
              obtain ⟨g2, p2, A2, b2, d2, hv2, -, s2, l2, z2⟩ := coll_at HF8.C (show m + 1 < k + 1 by omega)
              injection hv1 with hv1
              injection hv1 with hv1
              injection hv1 with hv1
              injection hv2 with hv2
              injection hv2 with hv2
              injection hv2 with hv2
              subst hv1
              subst hv2
              have ge1 : gl (labs l L) m = labF l L m := gl_labs (by have := HN.out; omega)
              have ge2 : gl (labs l L) (m + 1) = labF l L (m + 1) := gl_labs (by have := HN.out; omega)
              rw [ge1, labF_len] at s1 l1
              rw [ge2, labF_len] at s2 l2
              rw [ge1] at z1
              rw [ge2] at z2
              obtain ⟨rfl, lb1⟩ := l1 (by omega)
              obtain ⟨rfl, lb2⟩ := l2 (by omega)
              obtain ⟨x1, x2⟩ := (hM x.val).1 (Nat.le_of_lt_succ x.isLt)
              have w1' := z1 (r - x.val * S) (by rw [labF_len]; omega)
              have w2' := z2 r (by rw [labF_len]; omega)
              rw [Nat.zero_add] at w1' w2'
              have x0 : W8.cell? ⟨bx, 0, none⟩ = some (.slice (some ⟨gl', 0, none⟩) (k + 1) cap) := hX8.cell 0
              have y0 : W8.cell? ⟨kb, 0, none⟩ = some (.int .i64 (m : Int)) := h8.KB.cell 0
              have y1 : W8.cell? ⟨cg + 2, 0, none⟩ = some (.int .i64 (r : Int)) := h8.RB.cell 0
              have y2 : W8.cell? ⟨cg + 1, 0, none⟩ = some (.slice (some ⟨cg, 0, none⟩) k k) := h8.CB.cell 0
              have y3 : W8.cell? ⟨cg, m, none⟩ = some (.int .i64 _) := h8.C.cell (by omega)
              have y4 := h8.C.frozen m
              have y5 := h8.RB.frozen 0
              have H8 := Lib.hid h8
              have HNO := Lib.hid hno
              have HB8 := Lib.hid hB8
              have HX8 := Lib.hid hX8
              have hv1 := labF_win (l := l) (L := L) m (r - x.val * S) (by omega)
              have hv2 := labF_win (l := l) (L := L) (m + 1) r (by omega)
              have hxk : (x.val : Int) ≤ 100 := by omega
              obtain ⟨ln, hln⟩ : ∃ ln, r - x.val * S = ln := ⟨_, rfl⟩
              have hli : (r : Int) - (x.val : Int) * (S : Int) = (ln : Int) := by rw [← Int.natCast_mul]; omega
              have hlL : (ln : Int) < (L : Int) + 1 := by omega
              have hl0 : (0 : Int) ≤ (ln : Int) := by omega
              have hrz : (r : Int) < (L : Int) + 1 := by omega
              have hr0 : (0 : Int) ≤ (r : Int) := by omega
              obtain ⟨va, hva⟩ : ∃ va, gz (labF l L m) (r - x.val * S) = va := ⟨_, rfl⟩
              obtain ⟨vb, hvb⟩ : ∃ vb, gz (labF l L (m + 1)) r = vb := ⟨_, rfl⟩
              have HVA := Lib.hid hva
              have HVB := Lib.hid hvb
              rw [hva] at w1' hv1
              rw [hvb] at w2' hv2
              rw [hln] at w1'
              have HLN := Lib.hid hln
              have hmk1 : (m : Int) + 1 < (k : Int) + 1 := by omega
              have hmk0 : (m : Int) < (k : Int) + 1 := by omega
              have hm10 : (0 : Int) ≤ (m : Int) + 1 := by omega
              have k5 : IntKind.i64.wrap (va + (x.val : Int)) = va + (x.val : Int) := by rw [IntWalk.i64_left]; exact IntWalk.wrap64_in _ (by omega)
              have hmx : Try.prog.follows .mixedOrders = true := by kernel_rfl
              dsimp only
              rw [hli]
              clear hva hvb hln h8 hno hB8 hX8 z1 z2 x1 x2 hli hv1 hv2
              have hbd : ∀ q, Below W8.heap.size W8 (W8.drewN q) := fun q => ⟨rfl, rfl, rfl, Nat.le_refl _, fun _ _ => rfl⟩
              have HBD := Lib.hid hbd
              clear hbd
              by_cases heq : va + (x.val : Int) = vb
              · have hbq : (va + (x.val : Int) == vb) = true := by simp [heq]
                have HEQ := Lib.hid heq
                clear heq
                gi_wp2
                refine quiet_round hmx (by kernel_rfl) (by kernel_rfl) ?_
                repeat (go_big_quiet_step (fail))
                refine wpQuiet_nil ?_
                rintro _ ⟨nq, rfl⟩
                gi_wp2
                refine ⟨((⟨Nat.le_refl _, fun _ _ h _ => h⟩ : KeepsOthers W8 (W8.drewN nq)).trans (KeepsOthers.setCell _ _ _)).trans (KeepsOthers.setCell _ _ _), rfl, x, by rw [HVA.out, HVB.out]; exact HEQ.out, ?_, ?_⟩
                · rw [HLN.out]
                  exact (H8.out.below (HBD.out nq)).found
                · show _ ≤ (((W8.drewN nq).setCell _ _).setCell _ _).heap.size
                  simp only [World.setCell, Array.size_modify]
                  exact hz8
              · have hbq : (va + (x.val : Int) == vb) = false := by simp [heq]
                have HEQ := Lib.hid heq
                clear heq
                gi_wp2
                refine quiet_round hmx (by kernel_rfl) (by kernel_rfl) ?_
                repeat (go_big_quiet_step (fail))
                refine wpQuiet_nil ?_
                rintro _ ⟨nq, rfl⟩
                gi_wp2
                refine ⟨⟨Nat.le_refl _, fun _ _ h _ => h⟩, ⟨rfl, rfl⟩, H8.out.below (HBD.out nq), fun y hy => ?_, HB8.out.trans ((HBD.out nq).mono (Nat.le_trans (Nat.le_add_right _ _) hz8)), HX8.out, hz8⟩
                rcases List.mem_append.1 hy with hy | hy
                · exact HNO.out y hy
                · obtain rfl : y = x := by simpa using hy
                  rw [HVA.out, HVB.out]
                  exact HEQ.out
            case done =>
              rintro D xs W9 hD9 hxs ⟨h9, hno, hB9, hX9, hz9⟩ hm9
              subst hxs
              exfalso
              obtain ⟨j, j1, j2, j3⟩ := HP.out.some (by rw [HS.out]; exact q2)
              rw [HC.out] at j1
              rw [HS.out] at j2 j3
              have jM := (hM j).2 ⟨j1, j2⟩
              exact hno ⟨j, Nat.lt_succ_of_le jM⟩ (mem_fins _ _ (Nat.lt_succ_of_le jM)) j3
            case stop =>
              rintro D cc pre W9 hD9 - ⟨rfl, x, e1, h9, hz9⟩ hm9
              obtain ⟨x1, x2⟩ := (hM x.val).1 (Nat.le_of_lt_succ x.isLt)
              have y0 : W9.cell? ⟨kb, 0, none⟩ = some (.int .i64 (m : Int)) := h9.KB.cell 0
              have HN9 := Lib.hid (L3.next (kv2 := (m : Int) - 1) h9 hm9 (by omega) (fun hmem => by have := hDS D hmem; omega))
              have HP9 : Hid (Lp3 l L k m (r - x.val * S) (fun i => if i = m then x.val else cf i)) := by
                have := HP.out.step (j := x.val) (by rw [HC.out]; exact x1) (by rw [HS.out]; exact x2) (by rw [HS.out]; exact e1)
                rw [HS.out] at this
                exact this
              refine wpIn_wide.2 ?_
              go_wp2_with fail
              exact Handed.intro m (by omega) (hJ _ _ _ ⟨D :: ds, _, m, _, _, _, _, _, _, _, _, _, _, _, _, _, _, _, _, _, _, _, _, _, _, _, _, _, _, _, _, _, _, _, _, _, _, _, _, _, _, _, _, by omega, by omega, HN9.out, HP9.out, rfl⟩)
end Go.Proofs.Ytlfeoofchebbkaa
