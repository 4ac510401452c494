/- ways: the best ways to all places. -/
import Derived.Test.YtefjhhgfkdkfaaaWyp
import Derived.RangeFuncFrom
import Derived.Test.YtefjhhgfkdkfaaaMrk
import Derived.Test.YtefjhhgfkdkfaaaQrd
namespace Go.Proofs.Ytefjhhgfkdkfaaa
set_option linter.unusedSimpArgs false
set_option linter.unusedVariables false
open Go.RowKit Go.Shelf
attribute [local go_sem] Oper.semAt_some
/-- ways between two rounds: the row of ways, its box, the marks. -/
structure WS (W w : World) (ob g n : Nat) (h : Nat → Nat × Int) (Ds : List Nat) : Prop where
  B : Below w.heap.size w W
  R : WR W g n h
  O : Blk W ob 103 #[.slice (some ⟨g, 0, none⟩) n n]
  nd : Ds.Nodup
  mks : ∀ D, D ∈ Ds → w.heap.size ≤ D ∧ W.heap[D]? = some (.deferred (some []))
  lo : w.heap.size ≤ g ∧ w.heap.size ≤ ob ∧ g ≠ ob
theorem WS.below {W W' w : World} {ob g n : Nat} {h : Nat → Nat × Int} {Ds : List Nat} (s : WS W w ob g n h Ds) (hb : Below W.heap.size W W') : WS W' w ob g n h Ds :=
  ⟨s.B.trans (hb.mono s.B.size), Blk.below s.R hb (Blk.lt s.R), s.O.below hb s.O.lt, s.nd, fun D hD => ⟨(s.mks D hD).1, (hb.block D (Array.getElem?_eq_some_iff.1 (s.mks D hD).2).1).trans (s.mks D hD).2⟩, s.lo⟩
theorem WS.start {w w2 : World} {g n : Nat} (hB : Below w.heap.size w w2) (hW : WR w2 g n (fun _ => (ML, -1))) (hg : w.heap.size ≤ g) (hn : 0 < n) (t : Tb) :
    WS ((w2.setCell ⟨g, 1, none⟩ (.int .i64 0)).alloc (.cells #[.slice (some ⟨g, 0, none⟩) n n] 103)) w w2.heap.size g n (fwd t 0) [] := by
  have h1 := Blk.set_ hW 1 (.int .i64 0)
  have hl := Blk.lt hW
  have hsz : (w2.setCell ⟨g, 1, none⟩ (.int .i64 0)).heap.size = w2.heap.size := by simp [World.setCell]
  have h2 := below_new (w2.setCell ⟨g, 1, none⟩ (.int .i64 0)) (.cells #[.slice (some ⟨g, 0, none⟩) n n] 103)
  have h3 := Blk.new (w2.setCell ⟨g, 1, none⟩ (.int .i64 0)) 103 #[.slice (some ⟨g, 0, none⟩) n n]
  rw [hsz] at h3
  have h4 := hB.setCell (p := ⟨g, 1, none⟩) hg (.int .i64 0)
  have e : (wcl (fun _ => (ML, -1)) n).toArray.setIfInBounds 1 (.int .i64 0) = (wcl (fwd t 0) n).toArray := by
    have hw := wcl_set (fun _ => (ML, -1)) (0, -1) n 0 hn
    have hg0 := (wcl_get (fun _ => (ML, (-1 : Int))) n 0 hn).1
    have hs : (wcl (fun _ => (ML, (-1 : Int))) n).set (0 * 2) (.int .i64 (-1)) = wcl (fun _ => (ML, -1)) n := by
      apply List.ext_getElem?
      intro j
      by_cases hj : j = 0 * 2
      · subst hj
        rw [List.getElem?_set_self (by rw [wcl_len]; omega), hg0]
      · rw [List.getElem?_set_ne (fun e => hj e.symm)]
    rw [hs] at hw
    have h5 : wcl (fun i => if i = 0 then ((0 : Nat), (-1 : Int)) else (ML, -1)) n = wcl (fwd t 0) n := wcl_congr n (fun j _ => by rw [fwd_start])
    rw [h5] at hw
    simpa using hw
  rw [e] at h1
  exact ⟨h4.trans (h2.mono (by rw [hsz]; exact hB.size)), Blk.below h1 h2 (by rw [hsz]; exact hl), h3, List.nodup_nil, fun D hD => (by cases hD), ⟨hg, hB.size, by omega⟩⟩
theorem WS.put {W w : World} {ob g n : Nat} {h : Nat → Nat × Int} {Ds : List Nat} (s : WS W w ob g n h Ds) {j : Nat} (hj : j < n) (x : Nat × Int) :
    WS ((W.setCell ⟨g, j * 2, none⟩ (.int .i64 x.2)).setCell ⟨g, j * 2 + 1, none⟩ (.int .i64 (x.1 : Int))) w ob g n (fun i => if i = j then x else h i) Ds := by
  have ho : ∀ k, k ≠ g → ((W.setCell ⟨g, j * 2, none⟩ (.int .i64 x.2)).setCell ⟨g, j * 2 + 1, none⟩ (.int .i64 (x.1 : Int))).heap[k]? = W.heap[k]? := fun k hk => (Below.heap_setCell _ _ _ _ hk).trans (Below.heap_setCell _ _ _ _ hk)
  refine ⟨(s.B.setCell (p := ⟨g, j * 2, none⟩) s.lo.1 _).setCell (p := ⟨g, j * 2 + 1, none⟩) s.lo.1 _, s.R.put hj x, (ho ob (fun e => s.lo.2.2 e.symm)).trans s.O, s.nd, fun D hD => ⟨(s.mks D hD).1, (ho D (fun e => ?_)).trans (s.mks D hD).2⟩, s.lo⟩
  have h1 := (s.mks D hD).2
  have h2 : W.heap[g]? = _ := s.R
  rw [e, h2] at h1
  cases h1
def WaPost (w : World) (t : Tb) (n : Nat) (e : Ending) (w' : World) : Prop := ∃ g, e = .returned (.slice (some ⟨g, 0, none⟩) n n) ∧ WR w' g n (fwd t n) ∧ w.heap.size ≤ g ∧ Below w.heap.size w w'
set_option maxRecDepth 100000 in
set_option maxHeartbeats 4000000 in
theorem ways_any (f : Fnt) (v : Value) (r : Rls) (ws : List PWord) (vw vp : Value) (pb : Nat) (w : World) (h : PA w pb f v r ws vw vp) (hok : POk f r ws) :
    Calls Try.prog 81 #[.pointer (some ⟨pb, 0, none⟩)] w (WaPost w (tab f r ws) (places ws).length) := by
  have hm := hok.m
  have hpos := places_pos ws
  have HOK := Lib.hid hok
  have HTB := Lib.hid (tab_ok hok.ru hm)
  obtain ⟨Ap, cp, rfl, -, -⟩ := h.L.shape
  have HA := Lib.hid h
  have z12 := h.P.cell 12
  have zl := h.P.lt
  have hb1 := below_new w (.cells #[.int .i64 (-1), .int .i64 1000000000000000] 106)
  have k1 := Blk.new w 106 #[.int .i64 (-1), .int .i64 1000000000000000]
  have HRP := Lib.hid (fun n (hn : n ≤ 1000000) W hx hy => repeatW_any (-1) 1000000000000000 n w.heap.size 0 1 W hx hy hn)
  clear h hok
  generalize hN : (places ws).length = N at *
  have HN := Lib.hid hN
  clear hN
  refine (callsIn_wide (n := 10)).1 ?_
  refine callsIn_of_wp_marks Try.func81 rfl trivial ?_ rfl
  simp only [Try.ntmps81, List.size_toArray, List.length_cons, List.length_nil, Nat.reduceAdd, Nat.reduceSub, Array.replicate_succ, Array.replicate_zero, List.push_toArray, List.append_toArray, List.nil_append, List.cons_append]
  refine wpIn_wide.2 ?_
  go_wp2_with fail
  have hx1 := k1.cell 0
  have hy1 := k1.cell 1
  refine (HRP.out N (by omega) _ hx1 hy1).mono ?_
  rintro e w2 ⟨rfl, hrow, hb2⟩
  have hML : ((ML : Nat) : Int) = 1000000000000000 := rfl
  rw [← hML, rp_wcl (-1) ML N] at hrow
  have HB2 := Lib.hid (hb1.trans (hb2.mono (by simp)))
  have HW2 : Hid (WR w2 (w.alloc (.cells #[.int .i64 (-1), .int .i64 1000000000000000] 106)).heap.size N (fun _ => (ML, -1))) := hrow
  have hgz : w.heap.size < (w.alloc (.cells #[.int .i64 (-1), .int .i64 1000000000000000] 106)).heap.size := by simp
  generalize (w.alloc (.cells #[.int .i64 (-1), .int .i64 1000000000000000] 106)).heap.size = g at *
  clear hrow hb2 hx1 hy1 hb1 k1 HRP z12 zl
  have hW2c := (WR.cells HW2.out (j := 0) hpos)
  have c1 := hW2c.2
  have c1f := Blk.frozen HW2.out 1
  have c1l := Blk.lt HW2.out
  clear hW2c
  have hNz : (0 : Int) < (N : Int) := by omega
  go_wp2_with fail
  have HS0 : Hid (WS ((w2.setCell ⟨g, 1, none⟩ (.int .i64 0)).alloc (.cells #[.slice (some ⟨g, 0, none⟩) N N] 103)) w w2.heap.size g N (fwd (tab f r ws) 0) []) := WS.start HB2.out HW2.out (by omega) hpos _
  generalize ((w2.setCell ⟨g, 1, none⟩ (.int .i64 0)).alloc (.cells #[.slice (some ⟨g, 0, none⟩) N N] 103)) = W3 at *
  generalize w2.heap.size = ob at *
  clear HW2 HB2 c1 c1f c1l hgz
  refine wp_loop_ghost_k (fun gg a' wr => ∃ (u4 u5 u6 u20 u21 u22 u23 u24 u25 u26 u27 u28 u29 u30 u31 u32 u33 u34 u35 u36 u37 u38 u39 u40 u41 u42 u43 u44 u45 u46 u47 u48 u49 u50 u51 u52 u53 u54 u55 u56 : Value) (dl : List Deferred), (∃ (k : Nat) (Ds : List Nat), k ≤ N ∧ N - k ≤ gg ∧ u20 = .int .i64 (k : Int) ∧ dl = Ds.map mrk ∧ Hid (WS wr w ob g N (fwd (tab f r ws) k) Ds)) ∧ a' = { tmps := #[.pointer (some ⟨pb, 0, none⟩), undef, .slice none 0 0, .pointer (some ⟨ob, 0, none⟩), u4, u5, u6, .agg #[.int .i64 (-1), .int .i64 1000000000000000], .slice (some ⟨w.heap.size, 0, none⟩) 1 1, .pointer (some ⟨pb, 0, none⟩), .pointer (some ⟨pb, 0, none⟩), .pointer (some ⟨pb, 12, none⟩), .slice Ap N cp, .int .i64 (N : Int), .slice (some ⟨g, 0, none⟩) N N, .slice (some ⟨g, 0, none⟩) N N, .pointer (some ⟨g, 0, none⟩), .pointer (some ⟨g, 1, none⟩), .slice (some ⟨g, 0, none⟩) N N, .int .i64 (N : Int), u20, u21, u22, u23, u24, u25, u26, u27, u28, u29, u30, u31, u32, u33, u34, u35, u36, u37, u38, u39, u40, u41, u42, u43, u44, u45, u46, u47, u48, u49, u50, u51, u52, u53, u54, u55, u56, undef], defers := dl }) N ?_ ?_
  · (repeat apply Exists.intro)
    refine ⟨?_, rfl⟩
    exact ⟨0, [], by omega, by omega, rfl, rfl, HS0.out⟩
  intro gk _ wr hinv
  obtain ⟨u4, u5, u6, u20, u21, u22, u23, u24, u25, u26, u27, u28, u29, u30, u31, u32, u33, u34, u35, u36, u37, u38, u39, u40, u41, u42, u43, u44, u45, u46, u47, u48, u49, u50, u51, u52, u53, u54, u55, u56, dl, hrel, ha⟩ := hinv
  subst ha
  intro _ _ _ _
  obtain ⟨k, Ds, hk, hgk, rfl, rfl, HS⟩ := hrel
  have o0 := HS.out.O.cell 0
  have ol := HS.out.O.lt
  by_cases hlt : k < N
  · have hltz : (k : Int) < (N : Int) := by omega
    have hwc := HS.out.R.cells hlt
    have w1 := hwc.1
    have w2' := hwc.2
    have wl := Blk.lt HS.out.R
    clear hwc
    by_cases hml : (fwd (tab f r ws) k k).1 = ML
    · have HF : Hid (fwd (tab f r ws) (k + 1) = fwd (tab f r ws) k) := by show _ = _; funext j; exact fwd_ml hml j
      have hmz : (((fwd (tab f r ws) k k).1 : Nat) : Int) = 1000000000000000 := by rw [hml]; exact hML
      clear hml
      generalize (fwd (tab f r ws) k k).1 = dk at *
      go_wp2_with fail
      go_roundg (N - (k + 1))
      case measure => omega
      case rel => exact ⟨k + 1, Ds, by omega, by omega, by go_num, rfl, by rw [HF.out]; exact HS.out.below (below_new wr _)⟩
    · have hmlt : (fwd (tab f r ws) k k).1 < ML := Nat.lt_of_le_of_ne (fwd_le_ML _ _ _) hml
      have hmz : ¬ (((fwd (tab f r ws) k k).1 : Nat) : Int) = 1000000000000000 := by rw [← hML]; omega
      have HMLT := Lib.hid hmlt
      clear hml hmlt
      go_wp2_with ((go_at_call 39; (with_reducible refine (steps_any _ _ _).mono ?_); rintro e w5 ⟨rfl, rfl⟩))
      have hb3 : Below wr.heap.size wr (((wr.alloc (.cells #[.int .i64 (k : Int)] 3)).alloc (.cells #[.pointer (some ⟨pb, 0, none⟩)] 74)).alloc (.cells #[.int .i64 (k : Int)] 3)) := ((below_new wr _).alloc (by simp) _).alloc (by simp; omega) _
      have HSW : Hid (SW w (((wr.alloc (.cells #[.int .i64 (k : Int)] 3)).alloc (.cells #[.pointer (some ⟨pb, 0, none⟩)] 74)).alloc (.cells #[.int .i64 (k : Int)] 3)) (wr.heap.size + 1 + 1) (wr.heap.size + 1) k pb) := by
        refine ⟨HS.out.B.trans (hb3.mono HS.out.B.size), ?_, ?_, by simp, by simp⟩ <;> simp [go_sem]
      generalize hW0 : (((wr.alloc (.cells #[.int .i64 (k : Int)] 3)).alloc (.cells #[.pointer (some ⟨pb, 0, none⟩)] 74)).alloc (.cells #[.int .i64 (k : Int)] 3)) = W0 at *
      refine (wpIn_wide (n := 10)).1 ?_
      refine wpIn_rangeFunc_ownH rfl (by omega : 1 ≤ 10) (gf := 82) (lb := #[.pointer (some ⟨wr.heap.size + 1 + 1, 0, none⟩), .pointer (some ⟨wr.heap.size + 1, 0, none⟩)]) rfl trivial (enters_of Try.func82 (by kernel_rfl) rfl)
        (steps_stops f v r ws _ _ pb k (wr.heap.size + 1 + 1) (wr.heap.size + 1) w W0 HA.out HOK.out (by rw [HN.out]; exact hlt) HSW.out 9 (by omega)) kpS_t ?hKb (Below.refl _ _) (fun _ => rfl)
        (fun pre W => WS W w ob g N (prt (tab f r ws) k (pre.map Subtype.val)) Ds ∧ W.cell? ⟨wr.heap.size, 0, none⟩ = some (.int .i64 (k : Int)) ∧ W0.heap.size ≤ W.heap.size) (fun _ _ _ => False) ?hI ?hIx ?h0 ?Ax ?hAx ?assign ?body ?done ?stop
      case hKb =>
        intro W l o o' hl ho hc hw
        have hwz := HS.out.B.size
        have hz0 := hb3.size
        have hsz := HSW.out.bx
        have hsz2 := HSW.out.bp
        exact ⟨belowK_b (w := w) (Nat.le_refl _) W l o o' (by omega) ho hc hw, World.putObj_heap_other (by omega), World.putObj_heap_other (by omega)⟩
      case h0 =>
        rw [List.map_nil, prt_nil]
        exact ⟨HS.out.below hb3, by rw [← hW0]; simp [go_sem], Nat.le_refl _⟩
      case hIx => exact fun _ _ _ _ _ hs _ _ => hs
      case stop =>
        rintro D c pre W _ _ hs _
        exact hs.elim
      case hI =>
        intro s W W' row hs hg hr
        have hwz := HS.out.B.size
        have hz0 := hb3.size
        have hgl := Blk.lt HS.out.R
        have hol := HS.out.O.lt
        have hfl := HSW.out.bp
        have hne : ∀ q, q < W0.heap.size → some q ≠ row := fun q hq e => by have := (hr q e.symm).1; omega
        have hz1 := hs.1.B.size
        refine ⟨⟨hs.1.B.grown hg hz1 (fun q e => by have := (hr q e).1; omega), Blk.grown hs.1.R hg (hne g (by omega)), hs.1.O.grown hg (hne ob (by omega)), hs.1.nd, fun D hD => ?_, hs.1.lo⟩, ?_, Nat.le_trans hs.2.2 hg.size⟩
        · have h1 := hs.1.mks D hD
          have h2 := (Array.getElem?_eq_some_iff.1 (HS.out.mks D hD).2).1
          exact ⟨h1.1, (hg.block D (Array.getElem?_eq_some_iff.1 h1.2).1 (hne D (by omega))).trans h1.2⟩
        · exact hg.cell hs.2.1 (hne wr.heap.size (by omega))
      case done =>
        rintro D xs W hD hxs ⟨hws, hc4, -⟩ hK
        have hDs : D ∉ Ds := fun hm => by
          have h2 := (Array.getElem?_eq_some_iff.1 (HS.out.mks D hm).2).1
          have := hb3.size
          omega
        have HF : Hid (∀ j, j < N → prt (tab f r ws) k (xs.map Subtype.val) j = fwd (tab f r ws) (k + 1) j) := (show ∀ j, _ from fun j hj => by
          rw [hxs, HN.out]
          exact prt_end HTB.out hlt j hj)
        have HWS : Hid (WS W w ob g N (fwd (tab f r ws) (k + 1)) (D :: Ds)) := ⟨hws.B, (show Blk W g 106 _ from by rw [← wcl_congr N HF.out]; exact hws.R), hws.O, List.nodup_cons.2 ⟨hDs, hws.nd⟩, fun D' hD' => (by
          rcases List.mem_cons.1 hD' with e | e
          · subst e; exact ⟨by have := HS.out.B.size; have := hb3.size; omega, hK⟩
          · exact hws.mks D' e), hws.lo⟩
        clear hws hc4 hxs HF
        go_wp2_with fail
        go_roundg (N - (k + 1))
        case measure => omega
        case rel => exact ⟨k + 1, D :: Ds, by omega, by omega, by go_num, rfl, HWS.out⟩
      case Ax =>
        exact fun x a' W => ∃ Bx, Blk W Bx 87 #[.int .i64 (k : Int), .int .i64 (x.1 : Int), .int .i64 (((tab f r ws k x.1).getD 0 : Nat) : Int)] ∧ a' = { tmps := #[.pointer (some ⟨pb, 0, none⟩), undef, .slice none 0 0, .pointer (some ⟨ob, 0, none⟩), .pointer (some ⟨wr.heap.size, 0, none⟩), .pointer (some ⟨Bx, 0, none⟩), u6, .agg #[.int .i64 (-1), .int .i64 1000000000000000], .slice (some ⟨w.heap.size, 0, none⟩) 1 1, .pointer (some ⟨pb, 0, none⟩), .pointer (some ⟨pb, 0, none⟩), .pointer (some ⟨pb, 12, none⟩), .slice Ap N cp, .int .i64 (N : Int), .slice (some ⟨g, 0, none⟩) N N, .slice (some ⟨g, 0, none⟩) N N, .pointer (some ⟨g, 0, none⟩), .pointer (some ⟨g, 1, none⟩), .slice (some ⟨g, 0, none⟩) N N, .int .i64 (N : Int), .int .i64 (k : Int), .bool true, .int .i64 (k : Int), .slice (some ⟨g, 0, none⟩) N N, .int .i64 (k : Int), .pointer (some ⟨g, k * 2, none⟩), .pointer (some ⟨g, k * 2 + 1, none⟩), .int .i64 ((fwd (tab f r ws) k k).1 : Int), .bool false, .pointer (some ⟨pb, 0, none⟩), .int .i64 (k : Int), .func (.func 82) #[] #[.pointer (some ⟨wr.heap.size + 1 + 1, 0, none⟩), .pointer (some ⟨wr.heap.size + 1, 0, none⟩)], .agg #[.int .i64 (k : Int), .int .i64 (x.1 : Int), .int .i64 (((tab f r ws k x.1).getD 0 : Nat) : Int)], u33, u34, u35, u36, u37, u38, u39, u40, u41, u42, u43, u44, u45, u46, u47, u48, u49, u50, u51, u52, u53, u54, u55, u56, undef], defers := [] }
      case hAx =>
        rintro x a' _ X Y row ⟨Bx, h2, h3⟩ hg hr
        refine ⟨Bx, Blk.grown h2 hg (fun e => ?_), h3⟩
        obtain ⟨_, o, ho, hc⟩ := hr Bx e.symm
        have h4 : X.heap[Bx]? = _ := h2
        rw [h4] at ho
        cases ho
        cases hc
      case assign =>
        rintro l pre x W K ⟨hws, hc4, hwl⟩ hK
        have hwz := HS.out.B.size
        have hz0 := hb3.size
        have hz1 := hws.B.size
        gi_wp2
        have hsz := HSW.out.bx
        have hsz2 := HSW.out.bp
        have hbn := below_new W (.cells #[.int .i64 (k : Int), .int .i64 (x.1 : Int), .int .i64 (((tab f r ws k x.1).getD 0 : Nat) : Int)] 87)
        have hne : ∀ q, q < W.heap.size → (W.alloc (.cells #[.int .i64 (k : Int), .int .i64 (x.1 : Int), .int .i64 (((tab f r ws k x.1).getD 0 : Nat) : Int)] 87)).heap[q]? = W.heap[q]? := fun q hq => hbn.block q hq
        exact hK _ _ ((KeepsOthers.alloc _ _).from _) ⟨hbn.mono hz1, hne _ (by omega), hne _ (by omega)⟩ ⟨hws.below hbn, (hbn.cell (p := ⟨wr.heap.size, 0, none⟩) (by show wr.heap.size < _; omega)).trans hc4, by have := hbn.size; omega⟩ ⟨W.heap.size, Blk.new W _ _, rfl⟩
      case body =>
        rintro l pre x a' W hl ⟨rl, hrl⟩ ⟨hws, hc4, hwl⟩ ⟨Bx, hbx, rfl⟩ hlen
        obtain ⟨j, hj⟩ := x
        obtain ⟨d, hd⟩ := Option.isSome_iff_exists.1 hj
        have hgd : (tab f r ws k j).getD 0 = d := by rw [hd]; rfl
        have hup := HTB.out.up hd
        have hdm : DMX = 400200000 := rfl
        have hpk : prt (tab f r ws) k (pre.map Subtype.val) k = fwd (tab f r ws) k k := prt_k HTB.out
        have hck := hws.R.cells hlt
        have hcj := hws.R.cells (j := j) (by omega)
        rw [hpk] at hck
        have hle : (fwd (tab f r ws) k k).1 < 1000000000000000 := HMLT.out
        have HPS := Lib.hid (prt_step (pre := pre.map Subtype.val) hd HMLT.out)
        have HST := Lib.hid (fun hn => prt_stay (pre := pre.map Subtype.val) hd HMLT.out hn)
        have HWS := Lib.hid hws
        have x1 := hbx.cell 1
        have x2 := hbx.cell 2
        have xl := hbx.lt
        have fz0 := Blk.frozen hws.R (j * 2)
        have fz1 := Blk.frozen hws.R (j * 2 + 1)
        have gl0 := Blk.lt hws.R
        have oc := hws.O.cell 0
        have ocl := hws.O.lt
        dsimp only at x1 x2
        simp only [hgd] at x2 ⊢
        have hc0 := hck.2
        have hc1 := hcj.1
        have hc2 := hcj.2
        have hbl : wr.heap.size < W.heap.size := by have := HSW.out.bp; omega
        clear hck hcj hws hbx hpk hd
        generalize hdk : (fwd (tab f r ws) k k).1 = dk at *
        generalize hpj : (prt (tab f r ws) k (pre.map Subtype.val) j).1 = pj at *
        have hjz : (j : Int) < (N : Int) := by omega
        have hmx : Try.prog.follows .mixedOrders = true := by kernel_rfl
        gi_wp2
        refine quiet_round hmx (by kernel_rfl) (by kernel_rfl) ?_
        repeat (go_big_quiet_step (fail))
        refine wpQuiet_nil ?_
        rintro _ ⟨nq, rfl⟩
        by_cases hn : dk + d < pj
        · have hnz : ((dk : Int) + (d : Int)) < (pj : Int) := by omega
          rw [if_pos hn] at HPS
          clear HST hn
          gi_wp2
          have hb1 := below_drewN W nq
          have hwz := HS.out.B.size
          have hz1 := HWS.out.B.size
          have HW1 := HWS.out.below hb1
          have HW2 := HW1.put (j := j) (by omega) (dk + d, (k : Int))
          have hcast : (((dk + d : Nat)) : Int) = (dk : Int) + (d : Int) := by omega
          have hgl : g < wr.heap.size := Blk.lt HS.out.R
          have ho : ∀ q, q ≠ g → (((W.drewN nq).setCell ⟨g, j * 2, none⟩ (.int .i64 (k : Int))).setCell ⟨g, j * 2 + 1, none⟩ (.int .i64 ((dk : Int) + (d : Int)))).heap[q]? = W.heap[q]? := fun q hq => ((Below.heap_setCell _ _ _ _ hq).trans (Below.heap_setCell _ _ _ _ hq)).trans rfl
          dsimp only at HW2
          rw [hcast] at HW2
          refine ⟨((((⟨Nat.le_refl _, fun _ _ h _ => h⟩ : KeepsOthers W (W.drewN nq)).trans (KeepsOthers.setCell _ _ _)).trans (KeepsOthers.setCell _ _ _))).from _, ⟨?_, ho _ (by omega), ho _ (by omega)⟩, ?_, ?_, ?_⟩
          · exact ((hb1.mono hz1).setCell (p := ⟨g, j * 2, none⟩) HWS.out.lo.1 _).setCell (p := ⟨g, j * 2 + 1, none⟩) HWS.out.lo.1 _
          · show WS _ w ob g N (prt (tab f r ws) k ((pre ++ [(⟨j, hj⟩ : Al f r ws k)]).map Subtype.val)) Ds
            rw [List.map_append, List.map_cons, List.map_nil, prt_snoc, ← HPS.out]
            exact HW2
          · exact (cell_blk (ho _ (by omega))).trans hc4
          · simp only [World.setCell, Array.size_modify]
            exact hwl
        · have hnz : ¬ ((dk : Int) + (d : Int)) < (pj : Int) := by omega
          have HS1 := Lib.hid (HST.out hn)
          clear HST hn HPS
          gi_wp2
          have hb1 := below_drewN W nq
          have hwz := HS.out.B.size
          have hz1 := HWS.out.B.size
          refine ⟨⟨Nat.le_refl _, fun _ _ _ h _ => h⟩, ⟨hb1.mono hz1, rfl, rfl⟩, ?_, hc4, hwl⟩
          show WS _ w ob g N (prt (tab f r ws) k ((pre ++ [(⟨j, hj⟩ : Al f r ws k)]).map Subtype.val)) Ds
          rw [List.map_append, List.map_cons, List.map_nil, HS1.out]
          exact HWS.out.below hb1
  · have hltz : ¬ (k : Int) < (N : Int) := by omega
    have hke : k = N := by omega
    subst hke
    clear hlt hltz
    go_wp2_with fail
    refine leaves_marks (by simp) Ds _ HS.out.nd (fun D hD => (HS.out.mks D hD).2) (fun W' hW' => ?_)
    have hgD : g ∉ Ds := fun hm => by
      have h1 := (HS.out.mks g hm).2
      have h2 : wr.heap[g]? = _ := HS.out.R
      rw [h2] at h1
      cases h1
    exact ⟨_, results_tmp rfl _ _ _, g, rfl, (hW'.2.2.2.2 g hgD).trans HS.out.R, HS.out.lo.1, HS.out.B.trans (hW'.below (fun D hD => (HS.out.mks D hD).1))⟩
end Go.Proofs.Ytefjhhgfkdkfaaa
