/- steps: the iterator over the allowed lines from a place. -/
import Derived.RangeFuncNested
import Derived.RangeFuncBound
import Derived.RangeFuncCalls
import Derived.RangeFuncLeaves
import Derived.Shelf.Abstract
import Derived.Shelf.RegionOpen
import Derived.WalkKit
import Derived.OwnWalkIn
import Derived.TacticsInMore
import Derived.LoopNIn
import Derived.LoopIn
import Derived.IntWalk
import Derived.Test.YtefjhhgfkdkfaaaDem
import Derived.Deep.RegionHeld3
namespace Go.Proofs.Ytefjhhgfkdkfaaa
set_option linter.unusedSimpArgs false
set_option linter.unusedVariables false
open Go.RowKit Go.Shelf Go.Sort
attribute [local go_sem] Oper.semAt_some
/-- The places that end an allowed line from i, among the k behind it. -/
def stp (t : Tb) (i : Nat) : Nat → List Nat
  | 0 => []
  | k + 1 => if (t i (i + 1 + k)).isSome = true then stp t i k ++ [i + 1 + k] else stp t i k
theorem stp_len (t : Tb) (i : Nat) : ∀ k, (stp t i k).length ≤ k
  | 0 => Nat.le_refl _
  | k + 1 => by
    have := stp_len t i k
    unfold stp
    split
    · rw [List.length_append, List.length_singleton]; omega
    · omega
theorem stp_stop {t : Tb} {i k : Nat} (h : ∀ j, i + 1 + k ≤ j → t i j = none) : ∀ m, k ≤ m → stp t i m = stp t i k
  | 0, hm => by rw [show k = 0 by omega]
  | m + 1, hm => by
    by_cases e : k = m + 1
    · rw [e]
    · have h1 := stp_stop h m (by omega)
      have h2 : stp t i (m + 1) = if (t i (i + 1 + m)).isSome = true then stp t i m ++ [i + 1 + m] else stp t i m := rfl
      rw [h2, h (i + 1 + m) (by omega), if_neg (by simp)]
      exact h1
theorem tab_wide {ns : Nat} {f : Fnt} {r : Rls} {ws : List PWord} (h : WsOk ns ws) {i k : Nat} (hw : wideB (lineF f r ws i (i + 1 + k)) = true) : ∀ j, i + 1 + k ≤ j → tab f r ws i j = none := fun j hj => by
  unfold tab
  rw [if_neg]
  intro ⟨h1, h2, h3⟩
  rw [wide_all h (by omega) hj h2 hw] at h3
  cases h3
theorem tab_some {f : Fnt} {r : Rls} {ws : List PWord} {i j : Nat} (hr : RuOk f r) (hij : i < j) (hj : j < (places ws).length) (ha : allowB r (lineF f r ws i j) = true) :
    (tab f r ws i j).isSome = true ∧ (((tab f r ws i j).getD 0 : Nat) : Int) = demF f r (lineF f r ws i j) (divB ws i) (divB ws j) := by
  unfold tab
  rw [if_pos ⟨hij, hj, ha⟩]
  exact ⟨rfl, by show (((demF f r (lineF f r ws i j) (divB ws i) (divB ws j)).toNat : Nat) : Int) = _; exact Int.toNat_of_nonneg (dem_bound hr ha).1⟩
theorem tab_none {f : Fnt} {r : Rls} {ws : List PWord} {i j : Nat} (ha : allowB r (lineF f r ws i j) = false) : (tab f r ws i j).isSome = false := by
  unfold tab
  rw [if_neg]
  · rfl
  · intro h; rw [h.2.2] at ha; cases ha
/-- How large a line is. -/
theorem line_size {f : Fnt} {r : Rls} {ws : List PWord} (hok : POk f r ws) {i j : Nat} (hij : i < j) (hj : j < (places ws).length) :
    (lineF f r ws i j).ps.length ≤ 200 ∧ lenS (lineF f r ws i j).ps ≤ 12001 ∧ -2000000000 ≤ (lineF f r ws i j).room ∧ (lineF f r ws i j).room ≤ 2000000000 := by
  have hlx := places_up hok.wo hij hj
  have hia := places_in hok.wo (j := i) (by omega)
  have hib := places_ok hok.wo hj
  have hpr := raw_pos hlx hia
  have hn := hok.n
  have h1 := pieces_len60 hok.wo (hy := r.hyphen) (a := gpl (places ws) i) (by omega) hib hpr
  have h2 : ∀ s ∈ (piecesF ws r.hyphen (gpl (places ws) i) (gpl (places ws) j)).flatten, 0 ≤ s ∧ s < f.sorts.length := fun s hs => pieces_mem hok.wo hok.ru.hy (by omega) hpr hs
  have h3 := widL_bound hok.fn h2
  have h4 := hok.ru.me
  have h5 := hok.ru.ind
  refine ⟨by show (piecesF _ _ _ _).length ≤ 200; omega, by show (piecesF _ _ _ _).flatten.length ≤ 12001; omega, ?_⟩
  show -2000000000 ≤ r.measure - widL f (piecesF ws r.hyphen (gpl (places ws) i) (gpl (places ws) j)).flatten - (if i = 0 then r.indent else 0) ∧ r.measure - widL f (piecesF ws r.hyphen (gpl (places ws) i) (gpl (places ws) j)).flatten - (if i = 0 then r.indent else 0) ≤ 2000000000
  split <;> omega
abbrev Al (f : Fnt) (r : Rls) (ws : List PWord) (i : Nat) := { j : Nat // (tab f r ws i j).isSome = true }
abbrev encS (f : Fnt) (r : Rls) (ws : List PWord) (i : Nat) (x : Al f r ws i) : Array Value := #[.agg #[.int .i64 (i : Int), .int .i64 (x.1 : Int), .int .i64 (((tab f r ws i x.1).getD 0 : Nat) : Int)]]
/-- What a round keeps: what lay below m, and the two captured boxes. -/
def KpS (m bx bp : Nat) (A B : World) : Prop := Below m A B ∧ B.heap[bx]? = A.heap[bx]? ∧ B.heap[bp]? = A.heap[bp]?
theorem kpS_t {m bx bp : Nat} {A B C : World} (h : KpS m bx bp A B) (k : KpS m bx bp B C) : KpS m bx bp A C := ⟨h.1.trans k.1, k.2.1.trans h.2.1, k.2.2.trans h.2.2⟩
theorem cell_blk {A B : World} {b o : Nat} (h : B.heap[b]? = A.heap[b]?) : B.cell? ⟨b, o, none⟩ = A.cell? ⟨b, o, none⟩ := by
  simp only [World.cell?, h]
/-- The world of a round: the paragraph lies as it lay, so do the boxes. -/
structure SW (wm W : World) (bx bp i pb : Nat) : Prop where
  B : Below wm.heap.size wm W
  x : W.cell? ⟨bx, 0, none⟩ = some (.int .i64 (i : Int))
  p : W.cell? ⟨bp, 0, none⟩ = some (.pointer (some ⟨pb, 0, none⟩))
  bx : bx < W.heap.size
  bp : bp < W.heap.size
theorem SW.below {wm W W' : World} {bx bp i pb : Nat} (h : SW wm W bx bp i pb) (hb : Below W.heap.size W W') : SW wm W' bx bp i pb :=
  ⟨h.B.trans (hb.mono h.B.size), (hb.cell (p := ⟨bx, 0, none⟩) h.bx).trans h.x, (hb.cell (p := ⟨bp, 0, none⟩) h.bp).trans h.p, Nat.lt_of_lt_of_le h.bx hb.size, Nat.lt_of_lt_of_le h.bp hb.size⟩
theorem SW.kp {wm W W' : World} {bx bp i pb : Nat} (h : SW wm W bx bp i pb) (hb : KpS wm.heap.size bx bp W W') : SW wm W' bx bp i pb :=
  ⟨h.B.trans hb.1, (cell_blk hb.2.1).trans h.x, (cell_blk hb.2.2).trans h.p, Nat.lt_of_lt_of_le h.bx hb.1.size, Nat.lt_of_lt_of_le h.bp hb.1.size⟩
theorem abides_below {β : Type} {n : Nat} {J : β → World → Prop} (h : AbidesFrom n J) {s : β} {W W' : World} (hs : J s W) (hb : Below W.heap.size W W') : J s W' :=
  h s W W' none hs (grown_of_below hb none) (fun r e => by cases e)
set_option maxRecDepth 100000 in
set_option maxHeartbeats 4000000 in
theorem steps_stops (f : Fnt) (v : Value) (r : Rls) (ws : List PWord) (vw vp : Value) (pb i bx bp : Nat) (wm w : World) (h : PA wm pb f v r ws vw vp) (hok : POk f r ws) (hi : i < (places ws).length) (hw : SW wm w bx bp i pb) (n : Nat) (hn : 2 ≤ n) :
    SeqStopsK Fence.wide n Try.prog 82 #[.pointer (some ⟨bx, 0, none⟩), .pointer (some ⟨bp, 0, none⟩)] (encS f r ws i) (KpS wm.heap.size bx bp) (fun xs => xs.map Subtype.val = stp (tab f r ws) i ((places ws).length - 1 - i)) (fun _ => True) (places ws).length w := fun l J Jx W hW hJ hJx hY h0 => by
  have hsw := hw.below hW
  have hx0 := hsw.x
  have hxl := hsw.bx
  have HSW := Lib.hid hsw
  have HPA := Lib.hid h
  have HOK := Lib.hid hok
  have HJ := Lib.hid hJ
  have HJX := Lib.hid hJx
  have HY := Lib.hid hY
  have hm := hok.m
  have hpos := places_pos ws
  have HLS : Hid (∀ W, SW wm W bx bp i pb → Calls Try.prog 38 #[.pointer (some ⟨pb, 0, none⟩)] W fun e w' => e = .returned (.int .i64 ((places ws).length - 1 : Nat)) ∧ w' = W) := (show ∀ W, _ from fun W hW => last_any f v r ws vw vp pb W (HPA.out.step hW.B) hm)
  have HST : Hid (stp (tab f r ws) i 0 = []) := rfl
  clear h hok hw hsw hJ hJx hY
  generalize hN : (places ws).length = N at *
  have HN := Lib.hid hN
  clear hN
  refine callsIn_of_wp Try.func82 rfl trivial ?_ rfl
  simp only [Try.ntmps82, List.size_toArray, List.length_cons, List.length_nil, Nat.reduceAdd, Nat.reduceSub, Array.replicate_succ, Array.replicate_zero, List.push_toArray, List.append_toArray, List.nil_append, List.cons_append]
  gi_wp2
  gi_loopw [4] (fun s4 wr => ∃ (k : Nat) (pre : List (Al f r ws i)), k ≤ N - 1 - i ∧ s4 = .int .i64 ((i + 1 + k : Nat) : Int) ∧ pre.map Subtype.val = stp (tab f r ws) i k ∧ Hid (J pre wr) ∧ Hid (SW wm wr bx bp i pb)) (fun s4 wr => N - (intOf s4).toNat)
  case atStart =>
    exact ⟨0, [], by omega, by go_num, rfl, h0, HSW.out⟩
  case round =>
    obtain ⟨k, pre, hk, rfl, hpre, HJS, HS⟩ := hrel
    have HPRE := Lib.hid hpre
    clear hpre
    have y0 := HS.out.x
    have yl := HS.out.bx
    have y1 := HS.out.p
    have y1l := HS.out.bp
    have HL1 := Lib.hid (HLS.out wr HS.out)
    by_cases hlt : i + 1 + k < N
    · have HTO : Hid (i < i + 1 + k ∧ i + 1 + k < (places ws).length) := (show _ ∧ _ from ⟨by omega, by rw [HN.out]; exact hlt⟩)
      have HLN := Lib.hid (line_any f v r ws vw vp pb i (i + 1 + k) wr (HPA.out.step HS.out.B) HOK.out HTO.out.1 HTO.out.2)
      generalize hto : i + 1 + k = to1 at *
      have hz : (to1 : Int) ≤ ((N - 1 : Nat) : Int) := by omega
      have HSZ : Hid ((lineF f r ws i to1).ps.length ≤ 200 ∧ lenS (lineF f r ws i to1).ps ≤ 12001 ∧ -2000000000 ≤ (lineF f r ws i to1).room ∧ (lineF f r ws i to1).room ≤ 2000000000) := line_size HOK.out HTO.out.1 HTO.out.2
      have HWST : Hid (wideB (lineF f r ws i to1) = true → stp (tab f r ws) i (N - 1 - i) = stp (tab f r ws) i k) := (show _ → _ from fun hw => stp_stop (fun j hj => tab_wide HOK.out.wo (by rw [hto]; exact hw) j hj) _ hk)
      have HSTS : Hid (stp (tab f r ws) i (k + 1) = if (tab f r ws i to1).isSome = true then stp (tab f r ws) i k ++ [to1] else stp (tab f r ws) i k) := by show _ = _; rw [← hto]; rfl
      have HRU := Lib.hid HOK.out.ru
      have HTO1 := Lib.hid hto
      clear hto
      cases hwb : wideB (lineF f r ws i to1) with
      | true =>
        have HW2 := Lib.hid (HWST.out hwb)
        have HWD : Hid (∀ Av cv W, LV W (lineF f r ws i to1).ps (.slice Av (lineF f r ws i to1).ps.length cv) → Calls Try.prog 84 #[.agg (lcs i to1 (.slice Av (lineF f r ws i to1).ps.length cv) (lineF f r ws i to1).room (lineF f r ws i to1).ends)] W fun e w' => e = .returned (.bool true) ∧ Below W.heap.size W w') := (show ∀ Av cv W, _ from fun Av cv W hW => by
          have := wide_any i to1 (lineF f r ws i to1) _ W hW (by have := HSZ.out; omega) (by have := HSZ.out; omega)
          rwa [hwb] at this)
        clear hwb HWST HSTS
        gi_wp2_with (first
          | (refine ⟨trivial, (fun _ => by omega), ?_⟩; gi_at_call 38; refine (callsIn_wide.2 HL1.out).mono ?_; rintro e w' ⟨rfl, hw'⟩; have hw'' := hw'.symm; subst hw''; clear HL1)
          | (refine ⟨trivial, (fun _ => by omega), ?_⟩; gi_at_call 83; refine (callsIn_wide.2 HLN.out).mono ?_; rintro e w3 ⟨vps, rfl, ⟨hd, hps⟩, hb3⟩; have hlv := hps.lv; clear HLN hps; obtain ⟨Av, cv, rfl, -, -⟩ := hlv.shape; have HLV := Lib.hid hlv; clear hlv)
          | (refine ⟨trivial, (fun _ => by omega), ?_⟩; gi_at_call 84; refine (callsIn_wide.2 (HWD.out _ _ _ (HLV.out.below (below_new _ _)))).mono ?_; rintro e w4 ⟨rfl, hb4⟩))
        refine bodyPost_ret (results_none rfl _ _ _) rfl ?_
        have hb := hb3.trans (((below_new w3 _).trans (hb4.mono (by simp))).mono hb3.size)
        exact ⟨⟨_, rfl⟩, .inl ⟨pre, by rw [HPRE.out, ← HW2.out], abides_below HJ.out HJS.out hb⟩⟩
      | false =>
        have HWD : Hid (∀ Av cv W, LV W (lineF f r ws i to1).ps (.slice Av (lineF f r ws i to1).ps.length cv) → Calls Try.prog 84 #[.agg (lcs i to1 (.slice Av (lineF f r ws i to1).ps.length cv) (lineF f r ws i to1).room (lineF f r ws i to1).ends)] W fun e w' => e = .returned (.bool false) ∧ Below W.heap.size W w') := (show ∀ Av cv W, _ from fun Av cv W hW => by
          have := wide_any i to1 (lineF f r ws i to1) _ W hW (by have := HSZ.out; omega) (by have := HSZ.out; omega)
          rwa [hwb] at this)
        clear hwb HWST
        gi_wp2_with (first
          | (refine ⟨trivial, (fun _ => by omega), ?_⟩; gi_at_call 38; refine (callsIn_wide.2 HL1.out).mono ?_; rintro e w' ⟨rfl, hw'⟩; have hw'' := hw'.symm; subst hw''; clear HL1)
          | (refine ⟨trivial, (fun _ => by omega), ?_⟩; gi_at_call 83; refine (callsIn_wide.2 HLN.out).mono ?_; rintro e w3 ⟨vps, rfl, ⟨hd, hps⟩, hb3⟩; have hlv := hps.lv; clear HLN hps; obtain ⟨Av, cv, rfl, -, -⟩ := hlv.shape; have HLV := Lib.hid hlv; clear hlv)
          | (refine ⟨trivial, (fun _ => by omega), ?_⟩; gi_at_call 84; refine (callsIn_wide.2 (HWD.out _ _ _ (HLV.out.below (below_new _ _)))).mono ?_; rintro e w4 ⟨rfl, hb4⟩))
        have hbx3 : Below wr.heap.size wr (w3.alloc (.cells (lcs i to1 (.slice Av (lineF f r ws i to1).ps.length cv) (lineF f r ws i to1).room (lineF f r ws i to1).ends) 92)) := hb3.trans ((below_new w3 _).mono hb3.size)
        have hbk := Blk.new w3 92 (lcs i to1 (.slice Av (lineF f r ws i to1).ps.length cv) (lineF f r ws i to1).room (lineF f r ws i to1).ends)
        have HS4 := Lib.hid ((HS.out.below hbx3).below hb4)
        have HB4 := Lib.hid (hbk.below hb4 hbk.lt)
        have HJ4 : Hid (∀ W, Below w4.heap.size w4 W → J pre W) := (show ∀ W, _ from fun W hW => abides_below HJ.out (abides_below HJ.out (abides_below HJ.out HJS.out hbx3) hb4) hW)
        have HLV4 := Lib.hid ((HLV.out.below (below_new _ _)).below hb4)
        have HCE : Hid (∀ W, Below w4.heap.size w4 W → (W.cell? ⟨bx, 0, none⟩ = some (.int .i64 (i : Int)) ∧ W.cell? ⟨bp, 0, none⟩ = some (.pointer (some ⟨pb, 0, none⟩))) ∧ (W.cell? ⟨w3.heap.size, 0, none⟩ = some (.int .i64 (i : Int)) ∧ W.cell? ⟨w3.heap.size, 1, none⟩ = some (.int .i64 (to1 : Int)) ∧ W.cell? ⟨w3.heap.size, 2, none⟩ = some (.slice Av (lineF f r ws i to1).ps.length cv) ∧ W.cell? ⟨w3.heap.size, 3, none⟩ = some (.int .i64 (lineF f r ws i to1).room) ∧ W.cell? ⟨w3.heap.size, 4, none⟩ = some (.bool (lineF f r ws i to1).ends)) ∧ bx < W.heap.size ∧ bp < W.heap.size ∧ w3.heap.size < W.heap.size) := (show ∀ W, _ from fun W hW => by
          have h1 := HS4.out.below hW
          have h2 := HB4.out.below hW HB4.out.lt
          exact ⟨⟨h1.x, h1.p⟩, ⟨h2.cell 0, h2.cell 1, h2.cell 2, h2.cell 3, h2.cell 4⟩, h1.bx, h1.bp, h2.lt⟩)
        obtain ⟨⟨c0, c1⟩, ⟨b0, b1, b2, b3, b4⟩, l0, l1, l2⟩ := HCE.out w4 (Below.refl _ _)
        clear hb3 hb4 hbx3 hbk HLV
        have HLVV : Hid (∀ b, allowB r (lineF f r ws i to1) = b → ∀ W, Below w4.heap.size w4 W → Calls Try.prog 43 #[.pointer (some ⟨pb, 0, none⟩), .agg (lcs i to1 (.slice Av (lineF f r ws i to1).ps.length cv) (lineF f r ws i to1).room (lineF f r ws i to1).ends)] W fun e w' => e = .returned (.bool b) ∧ Below W.heap.size W w') := (show ∀ b, _ from fun b hb W hW => by
          have := allowed_any f v r ws vw vp pb i to1 (lineF f r ws i to1) _ W (HPA.out.step (HS4.out.below hW).B) HRU.out (HLV4.out.below hW) (by have := HSZ.out; omega) (by have := HSZ.out; omega) (by have := HSZ.out; omega)
          rwa [hb] at this)
        have HDEM : Hid (∀ W, Below w4.heap.size w4 W → Calls Try.prog 41 #[.pointer (some ⟨pb, 0, none⟩), .agg (lcs i to1 (.slice Av (lineF f r ws i to1).ps.length cv) (lineF f r ws i to1).room (lineF f r ws i to1).ends)] W fun e w' => e = .returned (.int .i64 (demF f r (lineF f r ws i to1) (divB ws i) (divB ws to1))) ∧ Below w4.heap.size w4 w') := (show ∀ W, _ from fun W hW => by
          have := demerits_any f v r ws vw vp pb i to1 (lineF f r ws i to1) _ W (HPA.out.step (HS4.out.below hW).B) HOK.out (by have := HTO.out; omega) HTO.out.2 (HLV4.out.below hW) (by have := HSZ.out; omega) (by have := HSZ.out; omega)
          exact this.mono fun e w' h => ⟨h.1, hW.trans (h.2.mono hW.size)⟩)
        cases hab : allowB r (lineF f r ws i to1) with
        | false =>
          have HAL := Lib.hid (HLVV.out false hab)
          have HST1 : Hid (stp (tab f r ws) i (k + 1) = stp (tab f r ws) i k) := by show _ = _; rw [HSTS.out, if_neg (by rw [tab_none hab]; decide)]
          clear hab HLVV HDEM
          generalize hlf : lineF f r ws i to1 = l at *
          clear hlf
          generalize hbq : w3.heap.size = bq at *
          refine wpIn_wide.2 ?_
          have xc0 := cell_regrown c0
          have xc1 := cell_regrown c1
          have xb0 := cell_regrown b0
          have xb1 := cell_regrown b1
          have xb2 := cell_regrown b2
          have xb3 := cell_regrown b3
          have xb4 := cell_regrown b4
          have cN : ∀ d os, Calls Try.prog 43 #[.pointer (some ⟨pb, 0, none⟩), .agg (lcs i to1 (.slice Av l.ps.length cv) l.room l.ends)] (grow (redrawn w4 d) os) fun e w'' => e = .returned (.bool false) ∧ ∃ p : Regrown, w'' = grow (redrawn w4 p.d) p.os := fun d os => Calls.regrown_of (HAL.out _ (below_regrown w4 d os))
          refine wp_region_quiet_below (by kernel_rfl) (by kernel_rfl) ?_
          repeat (first | go_big_quiet_step (exact cN _ _) | quiet_step (exact cN _ _))
          refine wpQuiet_nil ?_
          intro _ hw'
          obtain ⟨⟨dq, osq⟩, hw''⟩ := hw'
          subst hw''
          have b5 := below_regrown w4 dq osq
          have HS5 := Lib.hid (HS4.out.below b5)
          have HJ5 := Lib.hid (HJ4.out _ b5)
          clear xc0 xc1 xb0 xb1 xb2 xb3 xb4 cN b5
          generalize grow (redrawn w4 dq) osq = w5 at *
          clear c0 c1 b0 b1 b2 b3 b4 l0 l1 l2 HCE HAL
          gi_wp2
          refine ⟨⟨k + 1, pre, by have := HTO1.out; omega, by have := HTO1.out; go_num, by rw [HPRE.out, HST1.out], HJ5.out, HS5.out⟩, ?_⟩
          simp only [intOf, Int.toNat_natCast]
          rw [show (((to1 : Int) + 1).toNat) = to1 + 1 by omega]
          omega
        | true =>
          have HAL := Lib.hid (HLVV.out true hab)
          have HTS : Hid ((tab f r ws i to1).isSome = true ∧ (((tab f r ws i to1).getD 0 : Nat) : Int) = demF f r (lineF f r ws i to1) (divB ws i) (divB ws to1)) := tab_some HRU.out HTO.out.1 HTO.out.2 hab
          have HST1 : Hid (stp (tab f r ws) i (k + 1) = stp (tab f r ws) i k ++ [to1]) := by show _ = _; rw [HSTS.out, if_pos HTS.out.1]
          have HLEN : Hid (pre.length < N) := by
            show _ < _
            have h1 := congrArg List.length HPRE.out
            rw [List.length_map] at h1
            have h2 := stp_len (tab f r ws) i k
            omega
          have HYY : Hid (∀ W1, Below w4.heap.size w4 W1 → YieldAt Fence.wide (n - 1) Try.prog l #[.agg #[.int .i64 (i : Int), .int .i64 (to1 : Int), .int .i64 (demF f r (lineF f r ws i to1) (divB ws i) (divB ws to1))]] W1 fun e W' => ∃ b : Bool, e = .returned (.bool b) ∧ ((b = true ∧ J (pre ++ [⟨to1, HTS.out.1⟩]) W' ∧ SW wm W' bx bp i pb) ∨ (b = false ∧ Jx (pre ++ [⟨to1, HTS.out.1⟩]) W'))) := (show ∀ W1, _ from fun W1 hW1 => by
            obtain ⟨fn, tmps, assign, body, hy, hR⟩ := HY.out pre ⟨to1, HTS.out.1⟩ W1 (HJ4.out W1 hW1) HLEN.out
            dsimp only [encS] at hy
            rw [HTS.out.2] at hy
            refine ⟨fn, tmps, assign, body, hy, hR.mono ?_⟩
            rintro e W' (⟨rfl, h1, h2⟩ | ⟨rfl, h1⟩)
            · exact ⟨true, rfl, .inl ⟨rfl, h1, (HS4.out.below hW1).kp h2⟩⟩
            · exact ⟨false, rfl, .inr ⟨rfl, h1⟩⟩)
          clear hab HLVV HSTS HY
          generalize hdm : demF f r (lineF f r ws i to1) (divB ws i) (divB ws to1) = dm at *
          generalize hlf : lineF f r ws i to1 = l0 at *
          clear hlf hdm
          generalize hbq : w3.heap.size = bq at *
          gi_region_with (first
            | (refine ⟨trivial, (fun _ => by omega), ?_⟩; gi_at_call 43; refine (callsIn_wide.2 (HAL.out _ (Below.refl _ _).drew)).mono ?_; rintro e w5 ⟨rfl, hb5'⟩; have hb5 : Below w4.heap.size w4 w5 := (Below.refl w4.heap.size w4).drew.trans hb5'; obtain ⟨⟨c0', c1'⟩, ⟨b0', b1', b2', b3', b4'⟩, l0', l1', l2'⟩ := HCE.out w5 hb5)
            | (refine ⟨trivial, (fun _ => by omega), ?_⟩; gi_at_call 41; refine (callsIn_wide.2 (HDEM.out _ hb5)).mono ?_; rintro e w6 ⟨rfl, hb6⟩; obtain ⟨⟨c0'', c1''⟩, ⟨b0'', b1'', b2'', b3'', b4''⟩, l0'', l1'', l2''⟩ := HCE.out w6 hb6; obtain ⟨fn, tmps, assign, body, hy, hR⟩ := HYY.out w6 hb6)
            | (refine ⟨(fun _ => by omega), hR.mono ?_⟩; rintro e W7 ⟨bb, rfl, hbb⟩))
          all_goals
            (rcases hbb with ⟨rfl, hJ3, hs3⟩ | ⟨rfl, hJx3⟩
             · have HJ3 := Lib.hid hJ3
               have HS3 := Lib.hid hs3
               clear hJ3 hs3 hR hy HYY HCE HAL HDEM HJ4 HS4
               gi_wp2
               refine ⟨⟨k + 1, _, ?_, ?_, ?_, HJ3.out, HS3.out⟩, ?_⟩
               · have := HTO1.out; omega
               · have := HTO1.out; go_num
               · rw [List.map_append, HPRE.out, HST1.out]; rfl
               simp only [intOf, Int.toNat_natCast]
               rw [show (((to1 : Int) + 1).toNat) = to1 + 1 by omega]
               omega
             · have HJX3 := Lib.hid hJx3
               clear hJx3 hR hy HYY HCE HAL HDEM HJ4 HS4
               gi_wp2
               refine bodyPost_ret (results_none rfl _ _ _) rfl ?_
               exact ⟨⟨_, rfl⟩, .inr ⟨_, trivial, HJX3.out⟩⟩)
    · have hke : k = N - 1 - i := by omega
      have HFIN : Hid (pre.map Subtype.val = stp (tab f r ws) i (N - 1 - i)) := by show _ = _; rw [HPRE.out, hke]
      clear hke HPRE
      generalize i + 1 + k = to1 at *
      have hz : ¬ (to1 : Int) ≤ ((N - 1 : Nat) : Int) := by omega
      gi_wp2_with (first
        | (refine ⟨trivial, (fun _ => by omega), ?_⟩; gi_at_call 38; refine (callsIn_wide.2 HL1.out).mono ?_; rintro e w' ⟨rfl, hw'⟩; have hw'' := hw'.symm; subst hw''; clear HL1))
      go_end0
      exact ⟨⟨_, rfl⟩, .inl ⟨pre, HFIN.out, HJS.out⟩⟩
end Go.Proofs.Ytefjhhgfkdkfaaa
