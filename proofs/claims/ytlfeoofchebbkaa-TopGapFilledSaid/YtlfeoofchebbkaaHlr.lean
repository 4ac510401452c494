/- ref.Held, Loose. -/
import Derived.Test.YtlfeoofchebbkaaLw
namespace Go.Proofs.Ytlfeoofchebbkaa
set_option linter.unusedSimpArgs false
set_option linter.unusedVariables false
open Go.RowKit
/-- What is collected behind k rounds. -/
def colTo (g : Nat → List Int) : Nat → List Int
  | 0 => []
  | k + 1 => colTo g k ++ g k
theorem colTo_len {g : Nat → List Int} (h : ∀ j, (g j).length ≤ 1) : ∀ k, (colTo g k).length ≤ k
  | 0 => Nat.le_refl _
  | k + 1 => by
    have := colTo_len h k
    have := h k
    simp only [colTo, List.length_append]
    omega
theorem ints_v {w : World} {B : Nat} {zs : List Int} {v : Value} (h : w.ownsRow B 3 1 v zs.length (zs.map (Value.int .i64))) : IntsV w zs v := by
  refine (ints_own h).v ?_
  rcases h.2 with ⟨_, h0⟩ | ⟨g, cap, cur, _, _, _, h1, h2, _⟩
  · omega
  · unfold maxLen at h2; omega
def heldG (f : Forme) (r : Real) (j : Nat) : List Int := [heldA f r j + heldD f r j]
def heldL (f : Forme) (r : Real) : List Int := colTo (heldG f r) f.ps.length
theorem heldL_len (f : Forme) (r : Real) (k : Nat) : (colTo (heldG f r) k).length = k := by
  induction k with
  | zero => rfl
  | succ k ih => simp [colTo, heldG, ih]
theorem heldL_get (f : Forme) (r : Real) (k j : Nat) (hj : j < k) : gz (colTo (heldG f r) k) j = heldA f r j + heldD f r j := by
  induction k with
  | zero => omega
  | succ k ih =>
    have hl := heldL_len f r k
    simp only [colTo, gz]
    by_cases e : j = k
    · subst e
      rw [List.getD_eq_getElem?_getD, List.getElem?_append_right (by omega)]
      simp [hl, heldG]
    · have := ih (by omega)
      rw [List.getD_eq_getElem?_getD, List.getElem?_append_left (by omega)]
      rw [gz, List.getD_eq_getElem?_getD] at this
      exact this
def IntsPostV (w : World) (zs : List Int) (e : Ending) (w' : World) : Prop := ∃ v, e = .returned v ∧ IntsV w' zs v ∧ Below w.heap.size w w'
set_option maxRecDepth 100000 in
set_option maxHeartbeats 4000000 in
theorem refHeld_any (f : Forme) (r : Real) (A A1 A2 A3 : Option Addr) (b off b1 o1 b2 o2 b3 o3 c c1 c2 c3 : Nat) (w : World) (h : FR w w.heap.size f r A A1 A2 A3 b off b1 o1 b2 o2 b3 o3) (hok : Okay f r) :
    Calls Try.prog 39 #[.agg #[.int .i64 f.W, .int .i64 f.H, .slice A f.ps.length c], .agg #[.slice A1 r.ws.length c1, .slice A2 r.hs.length c2, .slice A3 r.ts.length c3]] w (IntsPostV w (heldL f r)) := by
  obtain ⟨inf, hInf, hInf0, hInf1, hInf2⟩ := info_parts Try.info3
  have hfew := hok.right.few
  have w1' := hok.right.w1
  have w2' := hok.right.w2
  have w3' := hok.right.h1
  have w4' := hok.right.h2
  obtain ⟨B0, F0, T0, Z0⟩ := boxes w f (.slice A f.ps.length c) (.slice A1 r.ws.length c1) (.slice A2 r.hs.length c2) (.slice A3 r.ts.length c3)
  have hFR := (h.below B0).mono B0.size
  have HPOST : Hid (∀ v W', W'.ownsRow w.heap.size 3 1 v f.ps.length ((colTo (heldG f r) f.ps.length).map (Value.int .i64)) → Below w.heap.size w W' → IntsPostV w (heldL f r) (.returned v) W') := by
    show ∀ v W', _
    intro v W' ho hb
    refine ⟨v, rfl, ?_, hb⟩
    refine ints_v (B := w.heap.size) ?_
    rw [show (heldL f r).length = f.ps.length from heldL_len f r _]
    exact ho
  go_enter Try.func39, Try.ntmps39
  go_wp2_with fail
  generalize (w.alloc (.cells #[.int .i64 f.W, .int .i64 f.H, .slice A f.ps.length c] 37)).alloc (.cells #[.slice A1 r.ws.length c1, .slice A2 r.hs.length c2, .slice A3 r.ts.length c3] 39) = W0 at *
  have hl1 : r.ws.length = f.ps.length := hok.ws.len
  have hl2 : r.hs.length = f.ps.length := hok.hs.len
  have HTA : Hid (∀ W, Below W0.heap.size W0 W → Calls Try.prog 94 #[.agg #[.int .i64 f.W, .int .i64 f.H, .slice A f.ps.length c], .slice A1 f.ps.length c1] W (ThruPost W (across f r.ws))) := (show ∀ W, _ from fun W hW =>
    thru_any f r.ws A A1 b off c b1 o1 c1 W (hFR.la.mono hW.size) (fun j hj => (hFR.ps j hj).below hW (hFR.la (by omega)).2) hok.right.toLaid hok.uw (by omega) (hFR.rr.l1.mono hW.size) (ZsAt.mono' hFR.rr.l1 hFR.rr.z1 hW))
  have HSW := Lib.hid (swap_call f A b off c W0.heap.size W0 hFR.la hFR.ps hok.right)
  have HTD := Lib.hid (down_thru f r.hs A2 b2 o2 c2 W0.heap.size W0 hok.right.toLaid hok.uh (by omega) hFR.rr.l2 hFR.rr.z2)
  have hna : (across f r.ws).n = f.ps.length := hl1
  have hnd : (down f r.hs).n = f.ps.length := hl2
  have HNA := Lib.hid hna
  have HND := Lib.hid hnd
  rw [hl1, hl2] at T0
  rw [hl1, hl2]
  clear hl1 hl2 hFR h hok hna hnd
  have HB0 := Lib.hid B0
  have HK : Hid (∀ W, Below W0.heap.size W0 W → (W.cell? ⟨w.heap.size, 0, none⟩ = some (.int .i64 f.W) ∧ W.cell? ⟨w.heap.size, 1, none⟩ = some (.int .i64 f.H) ∧ W.cell? ⟨w.heap.size, 2, none⟩ = some (.slice A f.ps.length c) ∧ W.cell? ⟨w.heap.size + 1, 0, none⟩ = some (.slice A1 f.ps.length c1) ∧ W.cell? ⟨w.heap.size + 1, 1, none⟩ = some (.slice A2 f.ps.length c2))) := (show ∀ W, _ from fun W hW => by
    obtain ⟨x0, x1, x2⟩ := F0.below hW (by omega)
    obtain ⟨y0, y1, y2⟩ := T0.below hW (by omega)
    exact ⟨x0, x1, x2, y0, y1⟩)
  have h0 : Below W0.heap.size W0 W0.drew := (Below.refl _ _).drew
  have H0 := Lib.hid h0
  have hS0 := HK.out W0.drew h0
  clear h0 B0 F0 T0
  go_region_held3 (fun W => (W.cell? ⟨w.heap.size, 0, none⟩ = some (.int .i64 f.W) ∧ W.cell? ⟨w.heap.size, 1, none⟩ = some (.int .i64 f.H) ∧ W.cell? ⟨w.heap.size, 2, none⟩ = some (.slice A f.ps.length c) ∧ W.cell? ⟨w.heap.size + 1, 0, none⟩ = some (.slice A1 f.ps.length c1) ∧ W.cell? ⟨w.heap.size + 1, 1, none⟩ = some (.slice A2 f.ps.length c2)))
    (first
      | exact hS0
      | exact HK.out _ hb6
      | exact HK.out _ hb5
      | exact HK.out _ hb4
      | go_keep)
    (first
      | (go_at_call 94; (with_reducible refine (HTA.out _ H0.out).mono ?_); rintro e w4 ⟨ga, rfl, hga, RA, hb4'⟩; have hb4 : Below W0.heap.size W0 w4 := H0.out.trans hb4')
      | (go_at_call 89; (with_reducible refine (HSW.out _ hb4 hb4.size).mono ?_); rintro e w5 ⟨A', b', c', rfl, hl5, hp5, hb5'⟩; have hb5 : Below W0.heap.size W0 w5 := hb4.trans (hb5'.mono hb4.size))
      | (go_at_call 94; (with_reducible refine (HTD.out _ _ _ _ hb5 hb5.size hl5 hp5).mono ?_); rintro e w6 ⟨gd, rfl, hgd, RD, hb6'⟩; have hb6 : Below W0.heap.size W0 w6 := hb5.trans (hb6'.mono hb5.size)))
  rw [HNA.out] at RA
  rw [HND.out] at RD
  rw [HNA.out, HND.out]
  have hgla := RA.lt
  have hgld := RD.lt
  have RA6 := (RA.of_block (hb5'.block ga hgla)).of_block (hb6'.block ga (by have := hb5'.size; omega))
  have HRA : Hid (∀ W, Below w6.heap.size w6 W → W.rowIs ga 3 f.ps.length (fun j => .int .i64 ((across f r.ws).thr j))) := fun W hW => RA6.of_block (hW.block ga RA6.lt)
  have HRD : Hid (∀ W, Below w6.heap.size w6 W → W.rowIs gd 3 f.ps.length (fun j => .int .i64 ((down f r.hs).thr j))) := fun W hW => RD.of_block (hW.block gd hgld)
  have HB6 := Lib.hid (HB0.out.trans (hb6.mono HB0.out.size))
  have HK6 : Hid (∀ W, Below w6.heap.size w6 W → (W.cell? ⟨w.heap.size, 0, none⟩ = some (.int .i64 f.W) ∧ W.cell? ⟨w.heap.size, 1, none⟩ = some (.int .i64 f.H) ∧ W.cell? ⟨w.heap.size, 2, none⟩ = some (.slice A f.ps.length c))) := (show ∀ W, _ from fun W hW => by
    obtain ⟨x0, x1, x2, -⟩ := HK.out W (hb6.trans (hW.mono hb6.size))
    exact ⟨x0, x1, x2⟩)
  clear RA RA6 RD hgla hgld hb4 hb4' hb5 hb5' hb6 hb6' hga hgd HTA HSW HTD HK hS0 H0 HB0 hl5 hp5
  go_wp2_with fail
  have HAH : Hid (∀ j, heldA f r j = if (across f r.ws).thr j = 60 * f.W then 1 else 0) := (show ∀ j, _ from fun j => by unfold heldA; rfl)
  have HDH : Hid (∀ j, heldD f r j = if (down f r.hs).thr j = 60 * f.H then 2 else 0) := (show ∀ j, _ from fun j => by unfold heldD; rfl)
  have HGG : Hid (∀ j, heldG f r j = [heldA f r j + heldD f r j]) := (show ∀ j, _ from fun j => rfl)
  generalize f.ps.length = n at *
  generalize heldG f r = hG at *
  generalize heldA f r = hA at *
  generalize heldD f r = hD at *
  have HCL : Hid (∀ k, (colTo hG k).length = k) := (show ∀ k, _ from fun k => by
    induction k with
    | zero => rfl
    | succ k ih => simp [colTo, HGG.out, ih])
  go_loopg [7, 8, 9] n (fun gg s7 s8 _ wr => ∃ k : Nat, k ≤ n ∧ n - k ≤ gg ∧ s8 = .int .i64 k ∧ Hid (wr.ownsRow w6.heap.size 3 1 s7 k ((colTo hG k).map (Value.int .i64))) ∧ Hid (Below w6.heap.size w6 wr))
  case atStart => exact ⟨0, Nat.zero_le _, by omega, rfl, World.ownsRow_nil _ _ _ _, Below.refl _ _⟩
  case round =>
    obtain ⟨k, hk, hgk, rfl, R, BW⟩ := hrel
    obtain ⟨f0, f1, f2⟩ := HK6.out wr BW.out
    have hsz := BW.out.size
    have hB6s := HB6.out.size
    by_cases hlt : k < n
    · have hltz : (k : Int) < (n : Int) := by omega
      have hk0 : (0 : Int) ≤ (k : Int) := by omega
      have ra := (HRA.out wr BW.out).cell hlt
      have rd := (HRD.out wr BW.out).cell hlt
      have HA1 := Lib.hid (HAH.out k)
      have HD1 := Lib.hid (HDH.out k)
      have HG1 := Lib.hid (HGG.out k)
      have HSN : Hid (colTo hG (k + 1) = colTo hG k ++ hG k) := rfl
      have HCK := Lib.hid (HCL.out k)
      generalize (across f r.ws).thr k = ta at *
      generalize (down f r.hs).thr k = td at *
      have e1 : IntKind.i64.wrap (60 * f.W) = 60 * f.W := IntWalk.i64_in _ (by omega)
      have e2 : IntKind.i64.wrap (60 * f.H) = 60 * f.H := IntWalk.i64_in _ (by omega)
      by_cases qa : ta = 60 * f.W
      · by_cases qd : td = 60 * f.H
        · have hqa : (ta == 60 * f.W) = true := by simp [qa]
          have hqd : (td == 60 * f.H) = true := by simp [qd]
          have HV : Hid (hA k + hD k = 3) := by show _ = _; rw [HA1.out, HD1.out, if_pos qa, if_pos qd]; rfl
          clear qa qd
          go_wp2_with fail
          go_quiet (fail)
          go_wp2_with fail
          go_quiet (fail)
          have HSZ := Lib.hid hsz
          go_wp2_with ((at_builtin
                        refine wpList_append_lies _ rfl (.tmp 44) (.tmp 46) 23 (by rfl) w6.heap.size 3 inf _ 1 8 Try.underlying23 hInf hInf0 hInf1 hInf2 rfl (by omega) _ k _ (by rfl) ((own_drewN R.out _).alloc _) ⟨wr.heap.size, 0, none⟩ 1 1 [.int .i64 3] (by rfl) (by rfl) (World.news_of_block (cs := #[.int .i64 3]) (t := 3) (fr := (0, 0)) (heap_alloc_new (wr.drewN _) _)) (by simp [Value.oneCell']) (by omega) (by simp only [maxLen]; omega) (by omega) (by simp; omega) (wr.heap.size + 1) (by simp) ?_
                        intro g1 cap1 w8 hown hgrow hat hlt8
                        have HO8 := Lib.hid hown
                        have HG8 := Lib.hid hgrow
                        clear hown hgrow hat))
          go_roundg (n - (k + 1))
          case measure => omega
          case rel =>
            refine ⟨k + 1, by omega, by omega, by go_num, ?_, ?_⟩
            · show World.ownsRow _ _ _ _ _ _ _
              have := HO8.out
              rw [HSN.out, HG1.out, HV.out, List.map_append]
              exact this
            · show Below _ _ _
              exact ((below_drewN BW.out _).alloc (by simp; omega) _).grown HG8.out (by simp; omega) (fun t ht => (R.out.lt t ht).1)
        · have hqa : (ta == 60 * f.W) = true := by simp [qa]
          have hqd : (td == 60 * f.H) = false := by simpa using qd
          have HV : Hid (hA k + hD k = 1) := by show _ = _; rw [HA1.out, HD1.out, if_pos qa, if_neg qd]; rfl
          clear qa qd
          go_wp2_with fail
          go_quiet (fail)
          go_wp2_with fail
          go_quiet (fail)
          have HSZ := Lib.hid hsz
          go_wp2_with ((at_builtin
                        refine wpList_append_lies _ rfl (.tmp 44) (.tmp 46) 23 (by rfl) w6.heap.size 3 inf _ 1 8 Try.underlying23 hInf hInf0 hInf1 hInf2 rfl (by omega) _ k _ (by rfl) ((own_drewN R.out _).alloc _) ⟨wr.heap.size, 0, none⟩ 1 1 [.int .i64 1] (by rfl) (by rfl) (World.news_of_block (cs := #[.int .i64 1]) (t := 3) (fr := (0, 0)) (heap_alloc_new (wr.drewN _) _)) (by simp [Value.oneCell']) (by omega) (by simp only [maxLen]; omega) (by omega) (by simp; omega) (wr.heap.size + 1) (by simp) ?_
                        intro g1 cap1 w8 hown hgrow hat hlt8
                        have HO8 := Lib.hid hown
                        have HG8 := Lib.hid hgrow
                        clear hown hgrow hat))
          go_roundg (n - (k + 1))
          case measure => omega
          case rel =>
            refine ⟨k + 1, by omega, by omega, by go_num, ?_, ?_⟩
            · show World.ownsRow _ _ _ _ _ _ _
              have := HO8.out
              rw [HSN.out, HG1.out, HV.out, List.map_append]
              exact this
            · show Below _ _ _
              exact ((below_drewN BW.out _).alloc (by simp; omega) _).grown HG8.out (by simp; omega) (fun t ht => (R.out.lt t ht).1)
      · by_cases qd : td = 60 * f.H
        · have hqa : (ta == 60 * f.W) = false := by simpa using qa
          have hqd : (td == 60 * f.H) = true := by simp [qd]
          have HV : Hid (hA k + hD k = 2) := by show _ = _; rw [HA1.out, HD1.out, if_neg qa, if_pos qd]; rfl
          clear qa qd
          go_wp2_with fail
          go_quiet (fail)
          go_wp2_with fail
          go_quiet (fail)
          have HSZ := Lib.hid hsz
          go_wp2_with ((at_builtin
                        refine wpList_append_lies _ rfl (.tmp 44) (.tmp 46) 23 (by rfl) w6.heap.size 3 inf _ 1 8 Try.underlying23 hInf hInf0 hInf1 hInf2 rfl (by omega) _ k _ (by rfl) ((own_drewN R.out _).alloc _) ⟨wr.heap.size, 0, none⟩ 1 1 [.int .i64 2] (by rfl) (by rfl) (World.news_of_block (cs := #[.int .i64 2]) (t := 3) (fr := (0, 0)) (heap_alloc_new (wr.drewN _) _)) (by simp [Value.oneCell']) (by omega) (by simp only [maxLen]; omega) (by omega) (by simp; omega) (wr.heap.size + 1) (by simp) ?_
                        intro g1 cap1 w8 hown hgrow hat hlt8
                        have HO8 := Lib.hid hown
                        have HG8 := Lib.hid hgrow
                        clear hown hgrow hat))
          go_roundg (n - (k + 1))
          case measure => omega
          case rel =>
            refine ⟨k + 1, by omega, by omega, by go_num, ?_, ?_⟩
            · show World.ownsRow _ _ _ _ _ _ _
              have := HO8.out
              rw [HSN.out, HG1.out, HV.out, List.map_append]
              exact this
            · show Below _ _ _
              exact ((below_drewN BW.out _).alloc (by simp; omega) _).grown HG8.out (by simp; omega) (fun t ht => (R.out.lt t ht).1)
        · have hqa : (ta == 60 * f.W) = false := by simpa using qa
          have hqd : (td == 60 * f.H) = false := by simpa using qd
          have HV : Hid (hA k + hD k = 0) := by show _ = _; rw [HA1.out, HD1.out, if_neg qa, if_neg qd]; rfl
          clear qa qd
          go_wp2_with fail
          go_quiet (fail)
          go_wp2_with fail
          go_quiet (fail)
          have HSZ := Lib.hid hsz
          go_wp2_with ((at_builtin
                        refine wpList_append_lies _ rfl (.tmp 44) (.tmp 46) 23 (by rfl) w6.heap.size 3 inf _ 1 8 Try.underlying23 hInf hInf0 hInf1 hInf2 rfl (by omega) _ k _ (by rfl) ((own_drewN R.out _).alloc _) ⟨wr.heap.size, 0, none⟩ 1 1 [.int .i64 0] (by rfl) (by rfl) (World.news_of_block (cs := #[.int .i64 0]) (t := 3) (fr := (0, 0)) (heap_alloc_new (wr.drewN _) _)) (by simp [Value.oneCell']) (by omega) (by simp only [maxLen]; omega) (by omega) (by simp; omega) (wr.heap.size + 1) (by simp) ?_
                        intro g1 cap1 w8 hown hgrow hat hlt8
                        have HO8 := Lib.hid hown
                        have HG8 := Lib.hid hgrow
                        clear hown hgrow hat))
          go_roundg (n - (k + 1))
          case measure => omega
          case rel =>
            refine ⟨k + 1, by omega, by omega, by go_num, ?_, ?_⟩
            · show World.ownsRow _ _ _ _ _ _ _
              have := HO8.out
              rw [HSN.out, HG1.out, HV.out, List.map_append]
              exact this
            · show Below _ _ _
              exact ((below_drewN BW.out _).alloc (by simp; omega) _).grown HG8.out (by simp; omega) (fun t ht => (R.out.lt t ht).1)
    · have hltz : ¬ (k : Int) < (n : Int) := by omega
      have he : k = n := by omega
      subst he
      have HFN := Lib.hid (HPOST.out _ wr (own_mono R.out (show w.heap.size ≤ w6.heap.size by omega)) (HB6.out.trans (BW.out.mono hB6s)))
      clear R
      go_wp2_with fail
      go_ret
      exact HFN.out
def HeldYes (w : World) (f : Forme) (r : Real) (e : Ending) (w' : World) : Prop := ∃ g, e = .returned (.tuple #[.slice (some ⟨g, 0, none⟩) f.ps.length f.ps.length, .int .i64 0]) ∧ w.heap.size ≤ g ∧ w'.rowIs g 3 f.ps.length (fun j => .int .i64 (heldA f r j + heldD f r j)) ∧ Below w.heap.size w w'
def HeldNo (s : Int) (w : World) (e : Ending) (w' : World) : Prop := e = .returned (.tuple #[.slice none 0 0, .int .i64 s]) ∧ Below w.heap.size w w'
theorem HeldPost.yes {w : World} {f : Forme} {r : Real} {e : Ending} {w' : World} (hs : (checkR f r).2 = 0) (h : HeldPost w f r e w') : HeldYes w f r e w' := by
  rcases h with ⟨h, _⟩ | ⟨_, h⟩
  · exact absurd hs h
  · exact h
theorem HeldPost.no {w : World} {f : Forme} {r : Real} {e : Ending} {w' : World} (hs : (checkR f r).2 ≠ 0) (h : HeldPost w f r e w') : HeldNo (checkR f r).2 w e w' := by
  rcases h with ⟨_, h⟩ | ⟨h, _⟩
  · exact h
  · exact absurd h hs
/-- The numbers of those that are not held. -/
def looseG (h : Nat → Int) (j : Nat) : List Int := if h j = 0 then [(j : Int)] else []
def HeldV (f : Forme) (r : Real) (w : World) (e : Ending) (w' : World) : Prop := ∃ v, e = .returned (.tuple #[v, .int .i64 0]) ∧ IntsV w' (heldL f r) v ∧ Below w.heap.size w w'
theorem HeldYes.v {w : World} {f : Forme} {r : Real} {e : Ending} {w' : World} (hl : f.ps.length ≤ 1000) (h : HeldYes w f r e w') : HeldV f r w e w' := by
  obtain ⟨g, rfl, h1, h2, h3⟩ := h
  have hn : (heldL f r).length = f.ps.length := heldL_len f r _
  refine ⟨_, rfl, ⟨some ⟨g, 0, none⟩, g, f.ps.length, by rw [hn], fun _ => ⟨rfl, h2.lt⟩, fun j hj => ?_, by rw [hn]; exact Nat.le_refl _, by rw [hn]; omega⟩, h3⟩
  rw [hn] at hj
  rw [Nat.zero_add, h2.cell hj, show gz (heldL f r) j = _ from heldL_get f r _ j hj]
def LooseV (f : Forme) (r : Real) (w : World) (e : Ending) (w' : World) : Prop := ∃ v, e = .returned (.tuple #[v, .int .i64 0]) ∧ IntsV w' (colTo (looseG fun j => heldA f r j + heldD f r j) f.ps.length) v ∧ Below w.heap.size w w'
set_option maxRecDepth 100000 in
set_option maxHeartbeats 4000000 in
theorem loose_no (f : Forme) (r : Real) (A A1 A2 A3 : Option Addr) (b off b1 o1 b2 o2 b3 o3 c c1 c2 c3 : Nat) (w : World) (h : FR w w.heap.size f r A A1 A2 A3 b off b1 o1 b2 o2 b3 o3) (hnm : NameOk f.ps) (hc : f.ps.length ≤ c) (hm : f.ps.length ≤ 9223372036854775807)
    (hc1 : r.ws.length ≤ c1) (hc2 : r.hs.length ≤ c2) (hc3 : r.ts.length ≤ c3) (hs : (checkR f r).2 ≠ 0) :
    Calls Try.prog 38 #[.agg #[.int .i64 f.W, .int .i64 f.H, .slice A f.ps.length c], .agg #[.slice A1 r.ws.length c1, .slice A2 r.hs.length c2, .slice A3 r.ts.length c3]] w (HeldNo (checkR f r).2 w) := by
  obtain ⟨B0, F0, T0, Z0⟩ := boxes w f (.slice A f.ps.length c) (.slice A1 r.ws.length c1) (.slice A2 r.hs.length c2) (.slice A3 r.ts.length c3)
  have hFR := (h.below B0).mono B0.size
  go_enter Try.func38, Try.ntmps38
  go_wp2_with fail
  generalize (w.alloc (.cells #[.int .i64 f.W, .int .i64 f.H, .slice A f.ps.length c] 37)).alloc (.cells #[.slice A1 r.ws.length c1, .slice A2 r.hs.length c2, .slice A3 r.ts.length c3] 39) = W0 at *
  have hh := (held_any f r A A1 A2 A3 b off b1 o1 b2 o2 b3 o3 c c1 c2 c3 W0 hFR hnm hc hm hc1 hc2 hc3).mono (fun _ _ h => h.no hs)
  generalize (checkR f r).2 = s at *
  have HS := Lib.hid hs
  clear hs
  refine hh.mono ?_
  rintro e w1 ⟨rfl, b1⟩
  have HB := Lib.hid (B0.trans (b1.mono B0.size))
  clear hh B0 F0 T0 hFR h
  go_wp2_with fail
  go_loopg [8, 9, 10, 19] 0 (fun gg s8 _ _ s19 wr => s8 = .slice none 0 0 ∧ s19 = .int .i64 0 ∧ w1 = wr)
  case atStart => exact ⟨rfl, rfl, rfl⟩
  case round =>
    obtain ⟨rfl, rfl, rfl⟩ := hrel
    go_wp2_with fail
    go_ret2
    exact ⟨rfl, HB.out⟩
set_option maxRecDepth 100000 in
set_option maxHeartbeats 4000000 in
theorem loose_yes (f : Forme) (r : Real) (A A1 A2 A3 : Option Addr) (b off b1 o1 b2 o2 b3 o3 c c1 c2 c3 : Nat) (w : World) (h : FR w w.heap.size f r A A1 A2 A3 b off b1 o1 b2 o2 b3 o3) (hnm : NameOk f.ps) (hc : f.ps.length ≤ c) (hm : f.ps.length ≤ 1000)
    (hc1 : r.ws.length ≤ c1) (hc2 : r.hs.length ≤ c2) (hc3 : r.ts.length ≤ c3) (hs : (checkR f r).2 = 0) :
    Calls Try.prog 38 #[.agg #[.int .i64 f.W, .int .i64 f.H, .slice A f.ps.length c], .agg #[.slice A1 r.ws.length c1, .slice A2 r.hs.length c2, .slice A3 r.ts.length c3]] w (LooseV f r w) := by
  obtain ⟨inf, hInf, hInf0, hInf1, hInf2⟩ := info_parts Try.info3
  obtain ⟨B0, F0, T0, Z0⟩ := boxes w f (.slice A f.ps.length c) (.slice A1 r.ws.length c1) (.slice A2 r.hs.length c2) (.slice A3 r.ts.length c3)
  have hFR := (h.below B0).mono B0.size
  go_enter Try.func38, Try.ntmps38
  go_wp2_with fail
  generalize (w.alloc (.cells #[.int .i64 f.W, .int .i64 f.H, .slice A f.ps.length c] 37)).alloc (.cells #[.slice A1 r.ws.length c1, .slice A2 r.hs.length c2, .slice A3 r.ts.length c3] 39) = W0 at *
  have hh := (held_any f r A A1 A2 A3 b off b1 o1 b2 o2 b3 o3 c c1 c2 c3 W0 hFR hnm hc (by omega) hc1 hc2 hc3).mono (fun _ _ h => h.yes hs)
  clear hs
  refine hh.mono ?_
  rintro e w1 ⟨g, rfl, hg, R1, b1⟩
  have HB := Lib.hid (B0.trans (b1.mono B0.size))
  have HR : Hid (∀ W, Below w1.heap.size w1 W → W.rowIs g 3 f.ps.length (fun j => .int .i64 (heldA f r j + heldD f r j))) := fun W hW => R1.of_block (hW.block g R1.lt)
  have HFN : Hid (∀ v W', W'.ownsRow w1.heap.size 3 1 v (colTo (looseG fun j => heldA f r j + heldD f r j) f.ps.length).length ((colTo (looseG fun j => heldA f r j + heldD f r j) f.ps.length).map (Value.int .i64)) → Below w1.heap.size w1 W' → LooseV f r w (.returned (.tuple #[v, .int .i64 0])) W') :=
    (show ∀ v W', _ from fun v W' ho hb => ⟨v, rfl, ints_v ho, HB.out.trans (hb.mono HB.out.size)⟩)
  have HLE : Hid (∀ k, (colTo (looseG fun j => heldA f r j + heldD f r j) k).length ≤ k) := fun k => colTo_len (fun j => by unfold looseG; split <;> simp) k
  have HGG : Hid (∀ j, looseG (fun j => heldA f r j + heldD f r j) j = if heldA f r j + heldD f r j = 0 then [(j : Int)] else []) := fun j => rfl
  clear hh B0 F0 T0 hFR h R1 b1
  generalize looseG (fun j => heldA f r j + heldD f r j) = lg at *
  generalize f.ps.length = n at *
  go_wp2_with fail
  go_loopg [8, 9, 10, 19] n (fun gg s8 _ _ s19 wr => ∃ k : Nat, k ≤ n ∧ n - k ≤ gg ∧ s19 = .int .i64 k ∧ Hid (wr.ownsRow w1.heap.size 3 1 s8 (colTo lg k).length ((colTo lg k).map (Value.int .i64))) ∧ Hid (Below w1.heap.size w1 wr))
  case atStart => exact ⟨0, Nat.zero_le _, by omega, rfl, World.ownsRow_nil _ _ _ _, Below.refl _ _⟩
  case round =>
    obtain ⟨k, hk, hgk, rfl, R, BW⟩ := hrel
    have hsz := BW.out.size
    by_cases hlt : k < n
    · have hltz : (k : Int) < (n : Int) := by omega
      have hk0 : (0 : Int) ≤ (k : Int) := by omega
      have r1 := (HR.out wr BW.out).cell hlt
      have HG1 := Lib.hid (HGG.out k)
      have HSN : Hid (colTo lg (k + 1) = colTo lg k ++ lg k) := rfl
      have hle := HLE.out k
      have HLK := Lib.hid hle
      clear hle
      generalize heldA f r k + heldD f r k = v at *
      by_cases hv : v = 0
      · have hvb : (v == 0) = true := by simp [hv]
        have HV := Lib.hid hv
        clear hv
        go_wp2_with ((at_builtin
                      refine wpList_append_lies _ rfl (.tmp 26) (.tmp 28) 23 (by rfl) w1.heap.size 3 inf _ 1 8 Try.underlying23 hInf hInf0 hInf1 hInf2 rfl (by omega) _ (colTo lg k).length _ (by rfl) (R.out.alloc _) ⟨wr.heap.size, 0, none⟩ 1 1 [.int .i64 k] (by rfl) (by rfl) (World.news_of_block (cs := #[.int .i64 k]) (t := 3) (fr := (0, 0)) (heap_alloc_new wr _)) (by simp [Value.oneCell']) (by omega) (by have := HLK.out; simp only [maxLen]; omega) (by have := HLK.out; omega) (by simp; omega) (wr.heap.size + 1) (by simp) ?_
                      intro g1 cap1 w8 hown hgrow hat hlt8
                      have HO8 := Lib.hid hown
                      have HG8 := Lib.hid hgrow
                      clear hown hgrow hat))
        go_roundg (n - (k + 1))
        case measure => omega
        case rel =>
          refine ⟨k + 1, by omega, by omega, by go_num, ?_, ?_⟩
          · show World.ownsRow _ _ _ _ _ _ _
            have := HO8.out
            rw [HSN.out, HG1.out, if_pos HV.out, List.map_append, List.length_append]
            exact this
          · show Below _ _ _
            exact (BW.out.alloc (by omega) _).grown HG8.out (by simp; omega) (fun t ht => (R.out.lt t ht).1)
      · have hvb : (v == 0) = false := by simp [hv]
        have HV := Lib.hid hv
        clear hv
        go_wp2_with fail
        go_roundg (n - (k + 1))
        case measure => omega
        case rel =>
          refine ⟨k + 1, by omega, by omega, by go_num, ?_, BW.out⟩
          show World.ownsRow _ _ _ _ _ _ _
          rw [HSN.out, HG1.out, if_neg HV.out, List.append_nil]
          exact R.out
    · have hltz : ¬ (k : Int) < (n : Int) := by omega
      have he : k = n := by omega
      subst he
      have HF := Lib.hid (HFN.out _ wr R.out BW.out)
      clear R
      go_wp2_with fail
      go_ret2
      exact HF.out
theorem looseN_at (f : Forme) (r : Real) (hnm : NameOk f.ps) (hm : f.ps.length ≤ 1000) (hs : (checkR f r).2 ≠ 0) : AtCopies 38 f r (HeldNo (checkR f r).2) := by
  rintro W vf vr ⟨A', b', c', rfl, h1, h2, h3⟩ ⟨A1, A2, A3, c1, c2, c3, b1, b2, b3, rfl, g1, g2, g3, g4⟩
  exact loose_no f r A' A1 A2 A3 b' 0 b1 0 b2 0 b3 0 c' c1 c2 c3 W ⟨h1, h2, g1⟩ hnm h3 (by omega) g2 g3 g4 hs
theorem looseY_at (f : Forme) (r : Real) (hnm : NameOk f.ps) (hm : f.ps.length ≤ 1000) (hs : (checkR f r).2 = 0) : AtCopies 38 f r (LooseV f r) := by
  rintro W vf vr ⟨A', b', c', rfl, h1, h2, h3⟩ ⟨A1, A2, A3, c1, c2, c3, b1, b2, b3, rfl, g1, g2, g3, g4⟩
  exact loose_yes f r A' A1 A2 A3 b' 0 b1 0 b2 0 b3 0 c' c1 c2 c3 W ⟨h1, h2, g1⟩ hnm h3 hm g2 g3 g4 hs
end Go.Proofs.Ytlfeoofchebbkaa
