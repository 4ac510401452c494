/- TopGapFilled: the walk. -/
import Derived.Test.YtlfeoofchebbkaaGfm
import Derived.Test.YtlfeoofchebbkaaLkd
import Derived.Test.YtlfeoofchebbkaaCpf
namespace Go.Proofs.Ytlfeoofchebbkaa
set_option linter.unusedSimpArgs false
set_option linter.unusedVariables false
open Go.RowKit
/-- The box of a law of one forme, and its argument. -/
structure LG (w W : World) (f : Forme) (A : Option Addr) (b off c : Nat) : Prop where
  B : Below w.heap.size w W
  F : Blk W w.heap.size 37 #[.int .i64 f.W, .int .i64 f.H, .slice A f.ps.length c]
  la : Lies A f.ps.length w.heap.size b off
  ps : PsAt W b off f.ps
theorem LG.step {w W W' : World} {f : Forme} {A : Option Addr} {b off c : Nat} (h : LG w W f A b off c) (hb : Below W.heap.size W W') : LG w W' f A b off c :=
  ⟨h.B.trans (hb.mono h.B.size), h.F.below hb h.F.lt, h.la, fun j hj => (h.ps j hj).below (hb.mono h.B.size) (h.la (by omega)).2⟩
theorem LG.l {w W : World} {f : Forme} {A : Option Addr} {b off c : Nat} (h : LG w W f A b off c) : Lies A f.ps.length W.heap.size b off := h.la.mono h.B.size
/-- The last piece of furniture that a filling may replace. -/
def lastF (f : Forme) : Nat → Int
  | 0 => -1
  | k + 1 => if (gp f.ps k).kind = 2 ∧ (gp f.ps k).w ≤ 300 then (k : Int) else lastF f k
theorem lastF_spec (f : Forme) : ∀ k, lastF f k = -1 ∨ ∃ a : Nat, a < k ∧ lastF f k = (a : Int) ∧ (gp f.ps a).kind = 2 ∧ (gp f.ps a).w ≤ 300
  | 0 => .inl rfl
  | k + 1 => by
    by_cases h : (gp f.ps k).kind = 2 ∧ (gp f.ps k).w ≤ 300
    · exact .inr ⟨k, by omega, by unfold lastF; rw [if_pos h], h.1, h.2⟩
    · have e : lastF f (k + 1) = lastF f k := by rw [lastF, if_neg h]
      rw [e]
      rcases lastF_spec f k with h1 | ⟨a, h1, h2⟩
      · exact .inl h1
      · exact .inr ⟨a, by omega, h2⟩
set_option maxRecDepth 100000 in
set_option maxHeartbeats 8000000 in
theorem topGap_any (f : Forme) (l : List (Int × Int)) (zs : List Int) (A Al Az : Option Addr) (b off c bl ol cl bz oz cz : Nat) (w : World) (hA : Lies A f.ps.length w.heap.size b off) (hps : PsAt w b off f.ps) (hc : f.ps.length ≤ c) (hm : c ≤ maxLen)
    (hAl : Lies Al l.length w.heap.size bl ol) (hzl : FsAt w bl ol l) (hml : l.length ≤ 9223372036854775807) (hAz : Lies Az zs.length w.heap.size bz oz) (hzz : ZsAt w bz oz zs) (hmz : zs.length ≤ 9223372036854775807) :
    Calls Try.prog 17 #[.agg #[.int .i64 f.W, .int .i64 f.H, .slice A f.ps.length c], .slice Al l.length cl, .slice Az zs.length cz] w fun e w' => e = .returned (.bool true) ∧ Below w.heap.size w w' := by
  unfold maxLen at hm
  obtain ⟨inf, hInf, hInf0, hInf1, hInf2⟩ := info_parts Try.info3
  have hB := below_new w (Obj.cells #[Value.int IntKind.i64 f.W, Value.int IntKind.i64 f.H, Value.slice A f.ps.length c] 37)
  have HL0 : Hid (LG w (w.alloc (Obj.cells #[Value.int IntKind.i64 f.W, Value.int IntKind.i64 f.H, Value.slice A f.ps.length c] 37)) f A b off c) := ⟨hB, Blk.new w 37 _, hA, fun j hj => (hps j hj).below hB (hA (by omega)).2⟩
  have HAl := Lib.hid hAl
  have HZl := Lib.hid hzl
  have HAz := Lib.hid hAz
  have HZz := Lib.hid hzz
  clear hA hps hAl hzl hAz hzz hB
  go_enter Try.func17, Try.ntmps17
  go_wp2_with fail
  generalize w.alloc (Obj.cells #[Value.int IntKind.i64 f.W, Value.int IntKind.i64 f.H, Value.slice A f.ps.length c] 37) = W0 at *
  refine (locked74_any _).mono ?_
  rintro e W1 ⟨rfl, e1⟩
  have HL := Lib.hid (HL0.out.step e1)
  clear HL0 e1
  have a0 := HL.out.F.cell 0
  have a1 := HL.out.F.cell 1
  have a2 := HL.out.F.cell 2
  go_wp2_with fail
  refine (light_any f A b off c W1 HL.out.l HL.out.ps (by omega)).mono ?_
  rintro e W2 ⟨rfl, e1⟩
  have HL2 := Lib.hid (HL.out.step e1)
  clear HL e1 a0 a1 a2
  have a0 := HL2.out.F.cell 0
  have a1 := HL2.out.F.cell 1
  have a2 := HL2.out.F.cell 2
  have HLT := Lib.hid (fun h => lightB_t (f := f) h)
  generalize lightB f = lb at *
  cases lb with
  | false =>
    go_wp2_with fail
    go_ret
    exact ⟨rfl, HL2.out.B⟩
  | true =>
    obtain ⟨hnm, hlen⟩ := HLT.out rfl
    have HNM := Lib.hid hnm
    clear hnm HLT
    by_cases h12z : (12 : Int) < (f.ps.length : Int)
    · go_wp2_with fail
      go_ret
      exact ⟨rfl, HL2.out.B⟩
    by_cases h4z : (4 : Int) < (l.length : Int)
    · go_wp2_with fail
      go_ret
      exact ⟨rfl, HL2.out.B⟩
    by_cases h6z : (6 : Int) < (zs.length : Int)
    · go_wp2_with fail
      go_ret
      exact ⟨rfl, HL2.out.B⟩
    go_wp2_with fail
    refine (refForme_any f A b off c _ HL2.out.l HL2.out.ps HNM.out hc (by omega)).mono ?_
    rintro e W3 ⟨rfl, e1⟩
    have HL := Lib.hid (HL2.out.step e1)
    clear HL2 e1 a0 a1 a2
    have a0 := HL.out.F.cell 0
    have a1 := HL.out.F.cell 1
    have a2 := HL.out.F.cell 2
    by_cases hce : (checkF f).2 = 0
    case neg =>
      have hcb : ((checkF f).2 != 0) = true := bne_t hce
      generalize (checkF f).2 = cf2 at *
      generalize (checkF f).1 = cf1 at *
      go_wp2_with fail
      go_ret
      exact ⟨rfl, HL.out.B⟩
    have hR := checkF_zero hce
    rw [hce]
    have HRT := Lib.hid hR
    clear hce hR
    generalize (checkF f).1 = cf1 at *
    go_wp2_with fail
    refine (isFull_any f A b off c _ HL.out.l HL.out.ps HRT.out.toLaid hc (by omega)).mono ?_
    rintro e W4 ⟨rfl, e1⟩
    have HL4 := Lib.hid (HL.out.step e1)
    clear HL e1 a0 a1 a2
    have a0 := HL4.out.F.cell 0
    have a1 := HL4.out.F.cell 1
    have a2 := HL4.out.F.cell 2
    by_cases hfu : f.W * f.H - areas f.ps = 0
    case neg =>
      have hfb : (f.W * f.H - areas f.ps == 0) = false := by simp [hfu]
      rw [hfb]
      go_wp2_with fail
      go_ret
      exact ⟨rfl, HL4.out.B⟩
    have hfb : (f.W * f.H - areas f.ps == 0) = true := by simp [hfu]
    rw [hfb]
    have HFU : Hid (areas f.ps = f.W * f.H) := (show _ = _ by omega)
    clear hfu hfb
    have HLS := Lib.hid (lastF_spec f)
    have HLF : Hid (∀ k, lastF f (k + 1) = if (gp f.ps k).kind = 2 ∧ (gp f.ps k).w ≤ 300 then (k : Int) else lastF f k) := (show ∀ k, _ from fun k => rfl)
    have HLF0 : lastF f 0 = -1 := rfl
    generalize hlf : lastF f = lf at *
    clear hlf
    go_wp2_with fail
    go_loopg [9, 10] f.ps.length (fun gg s9 s10 wr => ∃ k : Nat, k ≤ f.ps.length ∧ f.ps.length - k ≤ gg ∧ s9 = .int .i64 (lf k) ∧ s10 = .int .i64 k ∧ W4 = wr)
    case atStart => exact ⟨0, Nat.zero_le _, by omega, by rw [HLF0], rfl, rfl⟩
    case round =>
      obtain ⟨k, hk, hg, rfl, rfl, rfl⟩ := hrel
      by_cases hlt : k < f.ps.length
      · have hltz : (k : Int) < (f.ps.length : Int) := by omega
        have hk0 : (0 : Int) ≤ (k : Int) := by omega
        obtain ⟨rfl, hbw⟩ := HL4.out.l (by omega)
        obtain ⟨p0, p1, p2, p3, p4, p5⟩ := HL4.out.ps k hlt
        have hst := HLF.out k
        have HST := Lib.hid hst
        clear hst
        generalize gp f.ps k = p at *
        by_cases hk2 : p.kind = 2
        · have hkb : (p.kind == 2) = true := by simp [hk2]
          by_cases hw3 : p.w ≤ 300
          · go_wp2_with fail
            go_roundg (f.ps.length - (k + 1))
            case measure => omega
            case rel => exact ⟨k + 1, by omega, by omega, by rw [HST.out, if_pos ⟨hk2, hw3⟩], by go_num, rfl⟩
          · go_wp2_with fail
            go_roundg (f.ps.length - (k + 1))
            case measure => omega
            case rel => exact ⟨k + 1, by omega, by omega, by rw [HST.out, if_neg (fun h => by have := h.2; omega)], by go_num, rfl⟩
        · have hkb : (p.kind == 2) = false := by simp [hk2]
          go_wp2_with fail
          go_roundg (f.ps.length - (k + 1))
          case measure => omega
          case rel => exact ⟨k + 1, by omega, by omega, by rw [HST.out, if_neg (fun h => hk2 h.1)], by go_num, rfl⟩
      · have hltz : ¬ (k : Int) < (f.ps.length : Int) := by omega
        have he : k = f.ps.length := by omega
        rcases HLS.out k with hlk | ⟨a, ha, hlk, hak, haw⟩
        · rw [hlk]
          go_wp2_with fail
          go_ret
          exact ⟨rfl, HL4.out.B⟩
        · rw [hlk]
          have hal : a < f.ps.length := by omega
          have haz : (a : Int) < (f.ps.length : Int) := by omega
          have ha0 : (0 : Int) ≤ (a : Int) := by omega
          have ha1 : ¬ (a : Int) < 0 := by omega
          obtain ⟨rfl, hbw⟩ := HL4.out.l (by omega)
          obtain ⟨p0, p1, p2, p3, p4, p5⟩ := HL4.out.ps a hal
          have hin := HRT.out.inn _ (gp_mem hal)
          have hWs := HRT.out.w2
          have hHs := HRT.out.h2
          have HP := Lib.hid (rfl : gp f.ps a = gp f.ps a)
          obtain ⟨p, hp⟩ : ∃ p, gp f.ps a = p := ⟨_, rfl⟩
          rw [hp] at p0 p1 p2 p3 p4 p5 hin hak haw
          have HPE := Lib.hid hp
          clear hp HP HLS HLF HLF0 hlk
          obtain ⟨i1, i2, i3, i4, i5, i6⟩ := hin
          go_wp2_with fail
          refine (refStock_any l p.w Al bl ol cl _ (HAl.out.mono HL4.out.B.size) (HZl.out.mono' HAl.out HL4.out.B) hml).mono ?_
          rintro e W5 ⟨rfl, e1⟩
          have HL5 := Lib.hid (HL4.out.step e1)
          clear HL4 e1 a0 a1 a2 p0 p1 p2 p3 p4 p5
          by_cases hs : checkSt l p.w = 0
          case neg =>
            have hsb : (checkSt l p.w != 0) = true := bne_t hs
            generalize checkSt l p.w = s at *
            go_wp2_with fail
            go_ret
            exact ⟨rfl, HL5.out.B⟩
          rw [hs]
          have HS := Lib.hid hs
          clear hs
          have a2 := HL5.out.F.cell 2
          obtain ⟨p0, p1, p2, p3, p4, p5⟩ := HL5.out.ps a hal
          rw [HPE.out] at p0 p1 p2 p3 p4 p5
          have hbo := below_new W5 (Obj.cells #[Value.string p.name, Value.int IntKind.i64 2, Value.int IntKind.i64 p.x, Value.int IntKind.i64 p.y, Value.int IntKind.i64 p.w, Value.int IntKind.i64 p.h] 70)
          have HL6 := Lib.hid (HL5.out.step hbo)
          have HOB : Hid (Blk (W5.alloc (Obj.cells #[Value.string p.name, Value.int IntKind.i64 2, Value.int IntKind.i64 p.x, Value.int IntKind.i64 p.y, Value.int IntKind.i64 p.w, Value.int IntKind.i64 p.h] 70)) W5.heap.size 70 #[Value.string p.name, Value.int IntKind.i64 2, Value.int IntKind.i64 p.x, Value.int IntKind.i64 p.y, Value.int IntKind.i64 p.w, Value.int IntKind.i64 p.h]) := Blk.new W5 70 _
          have hob : w.heap.size < W5.heap.size := HL5.out.F.lt
          go_wp2_with fail
          clear a2 p0 p1 p2 p3 p4 p5 hbo HL5
          generalize W5.alloc (Obj.cells #[Value.string p.name, Value.int IntKind.i64 2, Value.int IntKind.i64 p.x, Value.int IntKind.i64 p.y, Value.int IntKind.i64 p.w, Value.int IntKind.i64 p.h] 70) = W6 at *
          generalize W5.heap.size = ob at *
          have q4 : W6.cell? ⟨ob, 4, none⟩ = some (.int .i64 p.w) := HOB.out.cell 4
          have HKS : Hid (∀ W, Below W6.heap.size W6 W → W.cell? ⟨ob, 4, none⟩ = some (.int .i64 p.w)) := (show ∀ W, _ from fun W hW => (hW.cell (p := ⟨ob, 4, none⟩) HOB.out.lt).trans (HOB.out.cell 4))
          obtain ⟨i0, hi0, hz0, hz1, hz2⟩ := info_parts (show (Try.prog.info? 85).map (fun i => (i.zero, i.size, i.bytes)) = some (some (.agg #[.int .i64 0, .int .i64 0]), 2, 16) by kernel_rfl)
          have HAl6 := Lib.hid (HAl.out.mono HL6.out.B.size)
          have HH6 : Hid (∀ W, Below W6.heap.size W6 W → (∀ j, j < l.length * 2 → W.cell? ⟨bl, ol + j, none⟩ = (fcells l)[j]?) ∧ Lies Al l.length W.heap.size bl ol) := (show ∀ W, _ from fun W hW => ⟨(HZl.out.mono' HAl.out (HL6.out.B.trans (hW.mono HL6.out.B.size))).cells, HAl6.out.mono hW.size⟩)
          have hBd : Below W6.heap.size W6 (W6.alloc (Obj.cells #[] 85)).drew := (below_new W6 _).drew
          have hgd : (W6.alloc (Obj.cells #[] 85)).drew.heap[W6.heap.size]? = some (.cells #[] 85 (0, 0)) := heap_alloc_new W6 _
          have hzd : (W6.alloc (Obj.cells #[] 85)).drew.heap.size = W6.heap.size + 1 := by show (W6.alloc _).heap.size = _; simp
          have hll : l.length ≤ 4 := by omega
          go_region_held3 (fun W => W.cell? ⟨ob, 4, none⟩ = some (.int .i64 p.w))
            (first | exact q4 | exact HKS.out _ hb7 | exact HKS.out _ hb8 | go_keep)
            ((first
              | (refine step_copyG rfl (.tmp 102) (.tmp 103) 22 rfl 85 i0 _ 2 16 Try.underlying22 hi0 hz0 hz1 hz2 rfl (by omega) W6.heap.size hgd rfl Al bl ol l.length cl _ rfl (fcells_length l) (HH6.out _ hBd).2 (HH6.out _ hBd).1 (fcells_one l) (by simp only [maxLen]; omega) (by omega) ?_
                 intro v7 w7 hown7 hb7'
                 have hb7 : Below W6.heap.size W6 w7 := hBd.grown hb7' (by omega) (fun k hk => by injection hk with hk; omega)
                 obtain ⟨A7, b7, c7, rfl, hA7, hz7⟩ := fs_of_own hown7)
              | (go_at_call 56
                 (with_reducible refine (fillLen_ok l p.w A7 b7 0 c7 _ hA7 hz7 HS.out).mono ?_)
                 rintro e w8 hp8
                 obtain ⟨vc, vl, e0, rfl, hc8, hb8'⟩ := fln_one hp8
                 have hb8 : Below W6.heap.size W6 w8 := hb7.trans (hb8'.mono hb7.size))))
          have HL8 := Lib.hid (HL6.out.step hb8)
          have HOB8 : Hid (Blk w8 ob 70 #[Value.string p.name, Value.int IntKind.i64 2, Value.int IntKind.i64 p.x, Value.int IntKind.i64 p.y, Value.int IntKind.i64 p.w, Value.int IntKind.i64 p.h]) := HOB.out.below hb8 HOB.out.lt
          have HC8 := Lib.hid hc8
          clear q4 hBd hgd hzd hown7 hb7' hb7 hA7 hz7 hp8 hc8 hb8' hb8 HAl6 HH6 HKS HL6 HOB
          rcases HC8.out with ⟨rfl, rfl, hlab⟩ | ⟨rfl, cs, cf, hvc, hcl, hcc, hcf⟩
          · have hne : (checkFl l p.w zs).2 ≠ 0 := fun h => by have := lab_least HS.out h; rw [hlab] at this; omega
            have hnb : ((checkFl l p.w zs).2 != 0) = true := bne_t hne
            have q8 : w8.cell? ⟨ob, 4, none⟩ = some (.int .i64 p.w) := HOB8.out.cell 4
            have HKS : Hid (∀ W, Below w8.heap.size w8 W → W.cell? ⟨ob, 4, none⟩ = some (.int .i64 p.w)) := (show ∀ W, _ from fun W hW => (hW.cell (p := ⟨ob, 4, none⟩) HOB8.out.lt).trans (HOB8.out.cell 4))
            have HH8 : Hid (∀ W, Below w8.heap.size w8 W → (∀ j, j < l.length * 2 → W.cell? ⟨bl, ol + j, none⟩ = (fcells l)[j]?) ∧ Lies Al l.length W.heap.size bl ol) := (show ∀ W, _ from fun W hW => ⟨(HZl.out.mono' HAl.out (HL8.out.B.trans (hW.mono HL8.out.B.size))).cells, HAl.out.mono (HL8.out.B.trans (hW.mono HL8.out.B.size)).size⟩)
            have HCI : Hid (∀ W, Below w8.heap.size w8 W → Calls Try.prog 22 #[.slice Az zs.length cz] W (CopyPost W zs)) := (show ∀ W, _ from fun W hW => copyIntsO_any zs Az bz oz cz W (HAz.out.mono (HL8.out.B.trans (hW.mono HL8.out.B.size)).size) (HZz.out.mono' HAz.out (HL8.out.B.trans (hW.mono HL8.out.B.size))) (by omega))
            have hb0 : Below w8.heap.size w8 w8.drew := (Below.refl _ _).drew
            have hbA : Below w8.heap.size w8 (w8.alloc (Obj.cells #[] 85)).drew := (below_new w8 _).drew
            have hgA : (w8.alloc (Obj.cells #[] 85)).drew.heap[w8.heap.size]? = some (.cells #[] 85 (0, 0)) := heap_alloc_new w8 _
            have hzA : (w8.alloc (Obj.cells #[] 85)).drew.heap.size = w8.heap.size + 1 := by show (w8.alloc _).heap.size = _; simp
            clear hlab hne HC8 HOB8
            go_wp2_with fail
            go_region_held3 (fun W => W.cell? ⟨ob, 4, none⟩ = some (.int .i64 p.w))
              (first | exact q8 | exact HKS.out _ hb12 | exact HKS.out _ hbF | exact HKS.out _ hb11 | exact HKS.out _ hb9 | exact HKS.out _ hbA | go_keep)
              ((first
                | (refine step_copyG rfl (.tmp 114) (.tmp 115) 22 rfl 85 i0 _ 2 16 Try.underlying22 hi0 hz0 hz1 hz2 rfl (by omega) w8.heap.size hgA rfl Al bl ol l.length cl _ rfl (fcells_length l) (HH8.out _ hbA).2 (HH8.out _ hbA).1 (fcells_one l) (by simp only [maxLen]; omega) (by omega) ?_
                   intro v11 w11 hown11 hb11'
                   have hb11 : Below w8.heap.size w8 w11 := hbA.grown hb11' (by omega) (fun k hk => by injection hk with hk; omega)
                   obtain ⟨A11, b11, c11, rfl, hA11, hz11⟩ := fs_of_own hown11)
                | (refine step_copyG rfl (.tmp 114) (.tmp 115) 22 rfl 85 i0 _ 2 16 Try.underlying22 hi0 hz0 hz1 hz2 rfl (by omega) w8.heap.size hgY rfl Al bl ol l.length cl _ rfl (fcells_length l) (HH8.out _ hb9).2 (HH8.out _ hb9).1 (fcells_one l) (by simp only [maxLen]; omega) (by omega) ?_
                   intro v11 w11 hown11 hb11'
                   have hbF : Below w8.heap.size w8 w11 := hb9.grown hb11' hb9.size (fun k hk => by injection hk with hk; omega)
                   obtain ⟨A11, b11, c11, rfl, hAs, hzs⟩ := fs_of_own hown11
                   have hAc := hA9.mono hb11'.size
                   have hzc : ZsAt w11 b9 0 zs := fun j hj => (grown_cell hb11' (hA9 (by omega)).2 (by have := hne9 (by omega); omega) _).trans (hz9 j hj))
                | (refine step_copyG rfl (.tmp 114) (.tmp 115) 22 rfl 85 i0 _ 2 16 Try.underlying22 hi0 hz0 hz1 hz2 rfl (by omega) w9.heap.size (heap_alloc_new w9 _) rfl Al bl ol l.length cl _ rfl (fcells_length l) (HH8.out _ (hb9.trans ((below_new w9 (Obj.cells #[] 85)).mono hb9.size))).2 (HH8.out _ (hb9.trans ((below_new w9 (Obj.cells #[] 85)).mono hb9.size))).1 (fcells_one l) (by simp only [maxLen]; omega) (by omega) ?_
                   intro v11 w11 hown11 hb11'
                   have hs9 := hb9.size
                   have hbF : Below w8.heap.size w8 w11 := (hb9.trans ((below_new w9 (Obj.cells #[] 85)).mono hb9.size)).grown hb11' (by simp; omega) (fun k hk => by injection hk with hk; omega)
                   obtain ⟨A11, b11, c11, rfl, hAs, hzs⟩ := fs_of_own hown11
                   have hAc := (hA9.mono (below_new w9 (Obj.cells #[] 85)).size).mono hb11'.size
                   have hzc : ZsAt w11 b9 0 zs := fun j hj => (grown_cell hb11' (by have := (hA9 (by omega)).2; simp; omega) (by have := (hA9 (by omega)).2; omega) _).trans (((below_new w9 (Obj.cells #[] 85)).cell (p := ⟨b9, _, none⟩) (hA9 (by omega)).2).trans (hz9 j hj)))
                | (go_at_call 22
                   (with_reducible refine (HCI.out _ hb11).mono ?_)
                   rintro e w9 ⟨v9, rfl, ⟨A9, b9, c9, rfl, -, hAc, hzc, -⟩, hb9'⟩
                   have hbF : Below w8.heap.size w8 w9 := hb11.trans (hb9'.mono hb11.size)
                   have hAs := hA11.mono hb9'.size
                   have hzs := hz11.mono' hA11 hb9')
                | (go_at_call 22
                   (with_reducible refine (HCI.out _ hbA).mono ?_)
                   rintro e w9 ⟨v9, rfl, ⟨A9, b9, c9, rfl, -, hA9, hz9, hown9⟩, hb9'⟩
                   have hb9 : Below w8.heap.size w8 w9 := hbA.trans (hb9'.mono hbA.size)
                   have hgY : w9.heap[w8.heap.size]? = some (.cells #[] 85 (0, 0)) := (hb9'.block _ (by omega)).trans hgA
                   have hne9 : 0 < zs.length → w8.heap.size + 1 ≤ b9 := fun h => by have := (hown9 h).1; omega)
                | (go_at_call 22
                   (with_reducible refine (HCI.out _ hb0).mono ?_)
                   rintro e w9 ⟨v9, rfl, ⟨A9, b9, c9, rfl, -, hA9, hz9, -⟩, hb9'⟩
                   have hb9 : Below w8.heap.size w8 w9 := hb0.trans (hb9'.mono hb0.size))
                | (go_at_call 20
                   (with_reducible refine (checkFilling_any l p.w zs A11 A9 b11 0 c11 b9 0 c9 _ hAs hzs hml hAc hzc hmz).mono ?_)
                   rintro e w12 ⟨rfl, hb12'⟩
                   have hb12 : Below w8.heap.size w8 w12 := hbF.trans (hb12'.mono hbF.size))))
            all_goals (
              have HBF := Lib.hid (HL8.out.B.trans (hb12.mono HL8.out.B.size))
              clear hbF hAs hzs hAc hzc hb12 hb12' hbA hb0 hgA q8 HKS HH8 HCI
              generalize checkFl l p.w zs = q at *
              go_wp2_with fail
              go_ret
              exact ⟨ret_bool (by simp), HBF.out⟩)
          · obtain ⟨Av, bv, cv, hvE, hAv, hzv, -, -⟩ := hvc
            rw [hcl] at hvE hAv
            subst hvE
            have HCF := Lib.hid hcf
            have HOK := Lib.hid (st_ok HS.out)
            have HAv := Lib.hid hAv
            have HZv : Hid (∀ W, Below w8.heap.size w8 W → ∀ j, j < l.length → W.cell? ⟨bv, j, none⟩ = some (.int .i64 (cf j : Int)) ∧ cf j ≤ stC l j) := (show ∀ W, _ from fun W hW j hj => ⟨by
              have h1 := hzv j (by omega)
              rw [Nat.zero_add] at h1
              rw [← (hcc j hj).1]
              exact (hW.cell (p := ⟨bv, j, none⟩) (hAv (by omega)).2).trans h1, (hcc j hj).2⟩)
            have HZs : Hid (∀ W, Below w8.heap.size w8 W → ∀ j, j < l.length → W.cell? ⟨bl, ol + j * 2, none⟩ = some (.int .i64 (stS l j : Int)) ∧ W.cell? ⟨bl, ol + j * 2 + 1, none⟩ = some (.int .i64 (stC l j : Int))) := (show ∀ W, _ from fun W hW j hj => by
              have h1 := HZl.out.mono' HAl.out (HL8.out.B.trans (hW.mono HL8.out.B.size)) j hj
              rw [(HOK.out.s j hj).1, (HOK.out.c j hj).1] at h1
              exact h1)
            clear hcl hcc hcf hAv hzv HC8
            have a0 := HL8.out.F.cell 0
            have a1 := HL8.out.F.cell 1
            have a2 := HL8.out.F.cell 2
            go_wp2_with fail
            refine (copyF_any f (some ⟨b, off, none⟩) b off c _ HL8.out.l HL8.out.ps (by omega)).mono ?_
            rintro e w9 ⟨vN, rfl, ⟨A9, b9, c9, rfl, hc9, hA9, hps9, hown9⟩, hb9'⟩
            obtain ⟨rfl, hb9l⟩ := hA9 (by omega)
            have hb98 := (hown9 (by omega)).1
            have hnb8 := hb9'.size
            have hbn := below_new w9 (Obj.cells #[.int .i64 f.W, .int .i64 f.H, .slice (some ⟨b9, 0, none⟩) f.ps.length c9] 37)
            have HB10 := Lib.hid (hb9'.trans (hbn.mono hnb8))
            have HN10 := Lib.hid (Blk.new w9 37 #[.int .i64 f.W, .int .i64 f.H, .slice (some ⟨b9, 0, none⟩) f.ps.length c9])
            have HP10 : Hid (PsAt (w9.alloc (Obj.cells #[.int .i64 f.W, .int .i64 f.H, .slice (some ⟨b9, 0, none⟩) f.ps.length c9] 37)) b9 0 f.ps) := (show PsAt _ _ _ _ from fun j hj => (hps9 j hj).below hbn hb9l)
            have hb10 : b9 < (w9.alloc (Obj.cells #[.int .i64 f.W, .int .i64 f.H, .slice (some ⟨b9, 0, none⟩) f.ps.length c9] 37)).heap.size := by simp; omega
            clear a0 a1 a2 hA9 hps9 hown9 hb9' hbn
            go_wp2_with fail
            generalize w9.alloc (Obj.cells #[.int .i64 f.W, .int .i64 f.H, .slice (some ⟨b9, 0, none⟩) f.ps.length c9] 37) = W10 at *
            generalize w9.heap.size = nb at *
            obtain ⟨i1', hi1, hi1z, hi1s, hi1b⟩ := info_parts Try.info70
            have n2 : W10.cell? ⟨nb, 2, none⟩ = some (.slice (some ⟨b9, 0, none⟩) f.ps.length c9) := HN10.out.cell 2
            obtain ⟨ad, had, hsl⟩ := slice_from (b := b9) (n := f.ps.length) (c := c9) (k := a) (by omega) hc9
            have hc9z : (f.ps.length : Int) ≤ (c9 : Int) := by omega
            have hp10 : PsAt W10.drew b9 0 f.ps := HP10.out
            have hb10d : b9 < W10.drew.heap.size := hb10
            have hs10d : w8.heap.size ≤ W10.drew.heap.size := HB10.out.size
            have hn10 : Blk W10.drew nb 37 #[.int .i64 f.W, .int .i64 f.H, .slice (some ⟨b9, 0, none⟩) f.ps.length c9] := HN10.out
            have hl10 : f.ps.length ≤ 1000 := by omega
            have hsl0 := slice_cut (b := b9) (n := f.ps.length) (c := c9) (k := a) (by omega) hc9
            have hwr : IntKind.i64.wrap ((a : Int) + 1) = (a : Int) + 1 := IntWalk.i64_in _ (by omega)
            go_still_tail 10, (by kernel_rfl)
            change wpList _ _ _ _ _ W10.drew
            clear hsl hsl0
            go_wp2_with ((at_builtin
                          refine wpList_of_step rfl fun K hK => ?_
                          refine step_cut_pv rfl (.tmp 146) (.tmp 151) rfl i1' _ hi1 hi1z hi1s hi1b rfl w8.heap.size b9 a (c9 - (a + 1)) ad f.ps hal rfl rfl had hb98 hb10d hp10 hs10d hl10 ?_
                          intro g11 cap11 w11 hpv11 hg11
                          refine hK _ _ ?_
                          clear hK K
                          have hN11 : Blk w11 nb 37 #[.int .i64 f.W, .int .i64 f.H, .slice (some ⟨b9, 0, none⟩) f.ps.length c9] := hn10.grown hg11 (by simp)
                          have k2 := hN11.cell 2
                          have k2f := hN11.frozen 2
                          have hb11 : Below w8.heap.size w8 w11 := (HB10.out.drew).grown hg11 hs10d (fun k hk => by cases hk)
                          have hS12 : GS w8 (w11.setCell ⟨nb, 2, none⟩ (.slice (some ⟨g11, 0, none⟩) (f.ps.length - 1) cap11)) f a nb (.slice (some ⟨g11, 0, none⟩) (f.ps.length - 1) cap11) [] p.x := ⟨hb11.setCell (p := ⟨nb, 2, none⟩) hnb8 _, hN11.set_ 2 _, hnb8, by unfold Forme.fill; rw [List.append_nil]; exact hpv11.setBox2 hN11, by rw [HPE.out]; exact Strip.nil⟩
                          have HS12 := Lib.hid hS12
                          have k5 : (w11.setCell ⟨nb, 2, none⟩ (.slice (some ⟨g11, 0, none⟩) (f.ps.length - 1) cap11)).cell? ⟨ob, 2, none⟩ = some (.int .i64 p.x) := (hS12.B.cell (p := ⟨ob, 2, none⟩) HOB8.out.lt).trans (HOB8.out.cell 2)
                          clear hS12 hb11 hpv11 hg11))
            clear k2 k2f k5 hN11 hn10 hp10 n2 had hwr hb10d hs10d HB10 HN10 HP10
            generalize Value.slice (some ⟨g11, 0, none⟩) (f.ps.length - 1) cap11 = v12 at *
            generalize w11.setCell ⟨nb, 2, none⟩ v12 = W12 at *
            have HOBW : Hid (∀ W, Below w8.heap.size w8 W → W.cell? ⟨ob, 2, none⟩ = some (.int .i64 p.x) ∧ W.cell? ⟨ob, 3, none⟩ = some (.int .i64 p.y) ∧ W.cell? ⟨ob, 4, none⟩ = some (.int .i64 p.w) ∧ W.cell? ⟨ob, 5, none⟩ = some (.int .i64 p.h)) := (show ∀ W, _ from fun W hW => ⟨(hW.cell (p := ⟨ob, _, none⟩) HOB8.out.lt).trans (HOB8.out.cell 2), (hW.cell (p := ⟨ob, _, none⟩) HOB8.out.lt).trans (HOB8.out.cell 3), (hW.cell (p := ⟨ob, _, none⟩) HOB8.out.lt).trans (HOB8.out.cell 4), (hW.cell (p := ⟨ob, _, none⟩) HOB8.out.lt).trans (HOB8.out.cell 5)⟩)
            have hL0 : p.w.toNat ≤ 300 := HOK.out.L1
            go_loopg [18, 19, 20] l.length (fun gg s18 s19 s20 wr => ∃ (i : Nat) (v : Value) (qs : List Piece), i ≤ l.length ∧ l.length - i ≤ gg ∧ s18 = .int .i64 (p.x + (fS l cf i : Int)) ∧ s19 = .int .i64 (qs.length : Int) ∧ s20 = .int .i64 i ∧ qs.length = fN cf i ∧ Hid (GS w8 wr f a nb v qs (p.x + (fS l cf i : Int))))
            case atStart => exact ⟨0, v12, [], by omega, by omega, by show _ = Value.int _ (p.x + ((0 : Nat) : Int)); simp, rfl, rfl, rfl, (show GS _ _ _ _ _ _ _ (p.x + ((0 : Nat) : Int)) by rw [show p.x + ((0 : Nat) : Int) = p.x by omega]; exact HS12.out)⟩
            case round =>
              obtain ⟨i, v, qs, hi, hgi, rfl, rfl, rfl, hqn, HG⟩ := hrel
              by_cases hlt : i < l.length
              · have hltz : (i : Int) < (l.length : Int) := by omega
                have hi0 : (0 : Int) ≤ (i : Int) := by omega
                obtain ⟨rfl, hbv⟩ := HAv.out (by omega)
                obtain ⟨rfl, hbl⟩ := HAl.out (by omega)
                obtain ⟨z0, hcle⟩ := HZv.out wr HG.out.B i hlt
                obtain ⟨s0, s1⟩ := HZs.out wr HG.out.B i hlt
                obtain ⟨u1, u2, u3⟩ := HOK.out.s i hlt
                obtain ⟨u4, u5⟩ := HOK.out.c i hlt
                have hmono := fS_mono (l := l) (c := cf) (show i + 1 ≤ l.length by omega)
                rw [HCF.out] at hmono
                have hfs1 : fS l cf (i + 1) = fS l cf i + cf i * stS l i := rfl
                have hfn1 : fN cf (i + 1) = fN cf i + cf i := rfl
                rw [hfs1] at hmono
                have hfnb : fN cf i ≤ 100 * i := fN_le fun j hj => by have := (HZv.out wr HG.out.B j (by omega)).2; have := (HOK.out.c j (by omega)).2; omega
                have HF1 := Lib.hid hfs1
                have HN1 := Lib.hid hfn1
                have HQN := Lib.hid hqn
                clear hfs1 hfn1 u1 u4 hqn
                obtain ⟨S, hS⟩ : ∃ S, stS l i = S := ⟨_, rfl⟩
                obtain ⟨C, hC⟩ : ∃ C, stC l i = C := ⟨_, rfl⟩
                obtain ⟨ci, hci⟩ : ∃ ci, cf i = ci := ⟨_, rfl⟩
                obtain ⟨Fi, hFi⟩ : ∃ Fi, fS l cf i = Fi := ⟨_, rfl⟩
                rw [hS] at s0 u2 u3 hmono
                rw [hC] at s1 u5 hcle
                rw [hci] at z0 hcle hmono
                rw [hFi] at HG hmono ⊢
                have HS' := Lib.hid hS
                have HC' := Lib.hid hC
                have HI' := Lib.hid hci
                have HFi := Lib.hid hFi
                clear hS hC hci hFi
                have hwin : win (ci : Int) 0 (C : Int) = true := win_t.2 ⟨by omega, by omega⟩
                have HWI : Hid (∀ W : World, Calls Try.prog 49 #[.int .i64 (ci : Int), .int .i64 0, .int .i64 (C : Int)] W fun e w' => e = .returned (.bool true) ∧ W = w') := (show ∀ W : World, _ from fun W => by have := within49_any (ci : Int) 0 (C : Int) W; rw [hwin] at this; exact this)
                clear hwin
                go_wp2_with fail
                go_quiet ((go_at_call 49; exact Calls.quiet_of_same ((HWI.out _).mono fun _ _ ⟨h1, h2⟩ => ⟨h1, h2.symm⟩)))
                have HGq : Hid (GS w8 (wr.drewN nq) f a nb v qs (p.x + (Fi : Int))) := HG.out.below ⟨rfl, rfl, rfl, Nat.le_refl _, fun _ _ => rfl⟩
                clear HG z0 s0 s1
                generalize wr.drewN nq = wq at *
                go_wp2_with fail
                go_loopg [18, 19, 21] ci (fun gg s18 s19 s21 wi => ∃ (m : Nat) (v : Value) (rs : List Piece), m ≤ ci ∧ ci - m ≤ gg ∧ s18 = .int .i64 (p.x + ((Fi + m * S : Nat) : Int)) ∧ s19 = .int .i64 (rs.length : Int) ∧ s21 = .int .i64 m ∧ rs.length = qs.length + m ∧ Hid (GS w8 wi f a nb v rs (p.x + ((Fi + m * S : Nat) : Int))))
                case atStart => exact ⟨0, v, qs, by omega, by omega, by rw [Nat.zero_mul, Nat.add_zero], rfl, rfl, rfl, (show GS _ _ _ _ _ _ _ _ by rw [Nat.zero_mul, Nat.add_zero]; exact HGq.out)⟩
                case round =>
                  obtain ⟨m, v, rs, hm, hgm, rfl, rfl, rfl, hrn, HG2⟩ := hrel
                  have z0 := (HZv.out wr HG2.out.B i hlt).1
                  rw [HI'.out] at z0
                  have HRN := Lib.hid hrn
                  clear hrn
                  obtain ⟨t, ht⟩ : ∃ t, Fi + m * S = t := ⟨_, rfl⟩
                  rw [ht] at HG2 ⊢
                  have HTT := Lib.hid ht
                  by_cases hmc : m < ci
                  · have hmcz : (m : Int) < (ci : Int) := by omega
                    have hts : t + S ≤ 300 := by
                      have h1 : (m + 1) * S ≤ ci * S := Nat.mul_le_mul_right _ (by omega)
                      rw [Nat.succ_mul] at h1
                      omega
                    have ht2 : Fi + (m + 1) * S = t + S := by rw [Nat.succ_mul]; omega
                    have HT2 := Lib.hid ht2
                    clear ht ht2 hmono
                    have hrb : rs.length ≤ 500 := by have := HQN.out; have := HRN.out; omega
                    have hdc : ∀ W, Calls Try.prog 77 #[.int .i64 ((rs.length : Int) + 1)] W fun e w' => e = .returned (.string (decB (rs.length + 1))) ∧ Below W.heap.size W w' := fun W => by
                      have := dec_any (rs.length + 1) W (by omega)
                      rwa [show ((rs.length + 1 : Nat) : Int) = (rs.length : Int) + 1 by omega] at this
                    have HDC := Lib.hid hdc
                    have hdz : (decB (rs.length + 1)).size ≤ 1000 := by have := decB_size (rs.length + 1); omega
                    have HZZ : Hid (zzN (rs.length + 1) = ⟨#[122, 122, 45]⟩ ++ decB (rs.length + 1)) := rfl
                    clear hdc
                    obtain ⟨db, hdb⟩ : ∃ db, decB (rs.length + 1) = db := ⟨_, rfl⟩
                    rw [hdb] at hdz HZZ HDC
                    clear hdb
                    have hcz : ¬ 9223372036854775807 < 3 + db.size := by omega
                    have n2 : wr.cell? ⟨nb, 2, none⟩ = some v := HG2.out.N.cell 2
                    have hS0 : (wr.drew.cell? ⟨nb, 2, none⟩ = some v ∧ wr.drew.cell? ⟨ob, 3, none⟩ = some (.int .i64 p.y) ∧ wr.drew.cell? ⟨ob, 5, none⟩ = some (.int .i64 p.h) ∧ wr.drew.cell? ⟨bl, ol + i * 2, none⟩ = some (.int .i64 (S : Int))) := ⟨n2, (HOBW.out wr HG2.out.B).2.1, (HOBW.out wr HG2.out.B).2.2.2, by have := (HZs.out wr HG2.out.B i hlt).1; rw [HS'.out] at this; exact this⟩
                    have HKS : Hid (∀ W, Below wr.heap.size wr W → (W.cell? ⟨nb, 2, none⟩ = some v ∧ W.cell? ⟨ob, 3, none⟩ = some (.int .i64 p.y) ∧ W.cell? ⟨ob, 5, none⟩ = some (.int .i64 p.h) ∧ W.cell? ⟨bl, ol + i * 2, none⟩ = some (.int .i64 (S : Int)))) := (show ∀ W, _ from fun W hW => ⟨(hW.cell (p := ⟨nb, 2, none⟩) HG2.out.N.lt).trans hS0.1, (HOBW.out W (HG2.out.B.trans (hW.mono HG2.out.B.size))).2.1, (HOBW.out W (HG2.out.B.trans (hW.mono HG2.out.B.size))).2.2.2, by have := (HZs.out W (HG2.out.B.trans (hW.mono HG2.out.B.size)) i hlt).1; rw [HS'.out] at this; exact this⟩)
                    have HFL : Hid ((f.fill a rs).ps.length ≤ 1000) := (show _ ≤ _ by unfold Forme.fill; rw [List.length_append, fill_len hal]; omega)
                    clear n2
                    go_wp2_with fail
                    refine wp_region_split (fun W => (W.cell? ⟨nb, 2, none⟩ = some v ∧ W.cell? ⟨ob, 3, none⟩ = some (.int .i64 p.y) ∧ W.cell? ⟨ob, 5, none⟩ = some (.int .i64 p.h) ∧ W.cell? ⟨bl, ol + i * 2, none⟩ = some (.int .i64 (S : Int)))) 17 (by kernel_rfl) (by decide) ?_
                    refine wpG_take 17 0 (v := ?_) rfl (by kernel_rfl) (fun _ _ _ h => h) (Or.inl ⟨by rfl, ?_⟩) (by assumption) ?_
                    rotate_left
                    · intro w hSw; (try dsimp only at hSw); go_simp; (try with_reducible rfl)
                    (try simp only [Act.put, List.getElem_toArray, List.getElem_cons_zero, List.getElem_cons_succ, List.setIfInBounds_toArray, List.set_cons_zero, List.set_cons_succ])
                    refine wpG_take 17 1 (v := ?_) rfl (by kernel_rfl) (fun _ _ _ h => h) (Or.inl ⟨by rfl, ?_⟩) (by assumption) ?_
                    rotate_left
                    · intro w hSw; (try dsimp only at hSw); go_simp; (try with_reducible rfl)
                    (try simp only [Act.put, List.getElem_toArray, List.getElem_cons_zero, List.getElem_cons_succ, List.setIfInBounds_toArray, List.set_cons_zero, List.set_cons_succ])
                    refine wpG_take 17 2 (v := ?_) rfl (by kernel_rfl) (fun _ _ _ h => h) (Or.inl ⟨by rfl, ?_⟩) (by assumption) ?_
                    rotate_left
                    · intro w hSw; (try dsimp only at hSw); go_simp; (try with_reducible rfl)
                    (try simp only [Act.put, List.getElem_toArray, List.getElem_cons_zero, List.getElem_cons_succ, List.setIfInBounds_toArray, List.set_cons_zero, List.set_cons_succ])
                    refine wpG_take 17 5 (v := ?_) rfl (by kernel_rfl) (fun _ _ _ h => h) (Or.inl ⟨by rfl, ?_⟩) (by assumption) ?_
                    rotate_left
                    · intro w hSw; (try dsimp only at hSw); go_simp; (try with_reducible rfl)
                    (try simp only [Act.put, List.getElem_toArray, List.getElem_cons_zero, List.getElem_cons_succ, List.setIfInBounds_toArray, List.set_cons_zero, List.set_cons_succ])
                    refine wpG_take 17 6 (v := ?_) rfl (by kernel_rfl) (fun _ _ _ h => h) (Or.inl ⟨by rfl, ?_⟩) (by assumption) ?_
                    rotate_left
                    · intro w hSw; (try dsimp only at hSw); go_simp; (try with_reducible rfl)
                    (try simp only [Act.put, List.getElem_toArray, List.getElem_cons_zero, List.getElem_cons_succ, List.setIfInBounds_toArray, List.set_cons_zero, List.set_cons_succ])
                    refine wpG_take 17 7 (v := ?_) rfl (by kernel_rfl) (fun _ _ _ h => h) (Or.inl ⟨by rfl, ?_⟩) (by assumption) ?_
                    rotate_left
                    · intro w hSw; (try dsimp only at hSw); go_simp; (try with_reducible rfl)
                    (try simp only [Act.put, List.getElem_toArray, List.getElem_cons_zero, List.getElem_cons_succ, List.setIfInBounds_toArray, List.set_cons_zero, List.set_cons_succ])
                    refine wpG_take 17 8 (v := ?_) rfl (by kernel_rfl) (fun _ _ _ h => h) (Or.inl ⟨by rfl, ?_⟩) (by assumption) ?_
                    rotate_left
                    · intro w hSw; (try dsimp only at hSw); go_simp; (try with_reducible rfl)
                    (try simp only [Act.put, List.getElem_toArray, List.getElem_cons_zero, List.getElem_cons_succ, List.setIfInBounds_toArray, List.set_cons_zero, List.set_cons_succ])
                    refine wpG_take 17 9 (v := ?_) rfl (by kernel_rfl) (fun _ _ _ h => h) (Or.inl ⟨by rfl, ?_⟩) (by assumption) ?_
                    rotate_left
                    · intro w hSw; (try dsimp only at hSw); go_simp; (try with_reducible rfl)
                    (try simp only [Act.put, List.getElem_toArray, List.getElem_cons_zero, List.getElem_cons_succ, List.setIfInBounds_toArray, List.set_cons_zero, List.set_cons_succ])
                    refine wpG_take 17 10 (v := ?_) rfl (by kernel_rfl) (fun _ _ _ h => h) (Or.inl ⟨by rfl, ?_⟩) (by assumption) ?_
                    rotate_left
                    · intro w hSw; (try dsimp only at hSw); go_simp; (try with_reducible rfl)
                    (try simp only [Act.put, List.getElem_toArray, List.getElem_cons_zero, List.getElem_cons_succ, List.setIfInBounds_toArray, List.set_cons_zero, List.set_cons_succ])
                    refine wpG_take 17 11 (v := ?_) rfl (by kernel_rfl) (fun _ _ _ h => h) (Or.inl ⟨by rfl, ?_⟩) (by assumption) ?_
                    rotate_left
                    · intro w hSw; (try dsimp only at hSw); go_simp; (try with_reducible rfl)
                    (try simp only [Act.put, List.getElem_toArray, List.getElem_cons_zero, List.getElem_cons_succ, List.setIfInBounds_toArray, List.set_cons_zero, List.set_cons_succ])
                    refine wpG_take 17 12 (v := ?_) rfl (by kernel_rfl) (fun _ _ _ h => h) (Or.inl ⟨by rfl, ?_⟩) (by assumption) ?_
                    rotate_left
                    · intro w hSw; (try dsimp only at hSw); go_simp; (try with_reducible rfl)
                    (try simp only [Act.put, List.getElem_toArray, List.getElem_cons_zero, List.getElem_cons_succ, List.setIfInBounds_toArray, List.set_cons_zero, List.set_cons_succ])
                    refine wpG_take 17 13 (v := ?_) rfl (by kernel_rfl) (fun _ _ _ h => h) (Or.inl ⟨by rfl, ?_⟩) (by assumption) ?_
                    rotate_left
                    · intro w hSw; (try dsimp only at hSw); go_simp; (try with_reducible rfl)
                    (try simp only [Act.put, List.getElem_toArray, List.getElem_cons_zero, List.getElem_cons_succ, List.setIfInBounds_toArray, List.set_cons_zero, List.set_cons_succ])
                    refine wpG_take 17 14 (v := ?_) rfl (by kernel_rfl) (fun _ _ _ h => h) (Or.inl ⟨by rfl, ?_⟩) (by assumption) ?_
                    rotate_left
                    · intro w hSw; (try dsimp only at hSw); go_simp; (try with_reducible rfl)
                    (try simp only [Act.put, List.getElem_toArray, List.getElem_cons_zero, List.getElem_cons_succ, List.setIfInBounds_toArray, List.set_cons_zero, List.set_cons_succ])
                    refine wpG_one (i := 3) (by kernel_rfl) ?_
                    refine wpOp_step rfl (fun K hK => ?_)
                    go_simp
                    go_at_call 77
                    (with_reducible refine (HDC.out _).mono ?_)
                    rintro e w14 ⟨rfl, hb14'⟩
                    have hb14 : Below wr.heap.size wr w14 := (Below.refl _ wr).drew.trans hb14'
                    have n14 := HKS.out w14 hb14
                    (try dsimp only)
                    refine hK _ _ ⟨n14, ?_⟩
                    clear hK K hS0 hb14'
                    (try simp only [Act.put, List.getElem_toArray, List.getElem_cons_zero, List.getElem_cons_succ, List.setIfInBounds_toArray, List.set_cons_zero, List.set_cons_succ])
                    refine wpG_take 17 4 (v := ?_) rfl (by kernel_rfl) (fun _ _ _ h => h) (Or.inl ⟨by rfl, ?_⟩) (by assumption) ?_
                    rotate_left
                    · intro w hSw; (try dsimp only at hSw); go_simp; (try with_reducible rfl)
                    (try simp only [Act.put, List.getElem_toArray, List.getElem_cons_zero, List.getElem_cons_succ, List.setIfInBounds_toArray, List.set_cons_zero, List.set_cons_succ])
                    refine wpG_take 17 15 (v := ?_) rfl (by kernel_rfl) (fun _ _ _ h => h) (Or.inl ⟨by rfl, ?_⟩) (by assumption) ?_
                    rotate_left
                    · intro w hSw; (try dsimp only at hSw); go_simp; (try with_reducible rfl)
                    (try simp only [Act.put, List.getElem_toArray, List.getElem_cons_zero, List.getElem_cons_succ, List.setIfInBounds_toArray, List.set_cons_zero, List.set_cons_succ])
                    have hb15 : Below wr.heap.size wr (w14.alloc (Obj.cells #[Value.string (⟨#[122, 122, 45]⟩ ++ db), Value.int IntKind.i64 2, Value.int IntKind.i64 (p.x + (t : Int)), Value.int IntKind.i64 p.y, Value.int IntKind.i64 (S : Int), Value.int IntKind.i64 p.h] 70)) := hb14.trans ((below_new w14 _).mono hb14.size)
                    have n15 := HKS.out _ hb15
                    refine wpG_one (i := 16) (by kernel_rfl) ?_
                    refine wpOp_step rfl (fun K hK => ?_)
                    go_simp
                    refine hK _ _ ⟨n15, ?_⟩
                    clear hK K n14
                    (try simp only [Act.put, List.getElem_toArray, List.getElem_cons_zero, List.getElem_cons_succ, List.setIfInBounds_toArray, List.set_cons_zero, List.set_cons_succ])
                    have hq15 : (w14.alloc (Obj.cells #[Value.string (⟨#[122, 122, 45]⟩ ++ db), Value.int IntKind.i64 2, Value.int IntKind.i64 (p.x + (t : Int)), Value.int IntKind.i64 p.y, Value.int IntKind.i64 (S : Int), Value.int IntKind.i64 p.h] 70)).heap[w14.heap.size]? = some (.cells (pcs ⟨⟨#[122, 122, 45]⟩ ++ db, 2, p.x + (t : Int), p.y, (S : Int), p.h⟩) 70 (0, 0)) := heap_alloc_new w14 _
                    have hpv15 := (HG2.out.below hb15).pv
                    have hB15 := (HG2.out.below hb15).B.size
                    have HB15 := Lib.hid hb15
                    clear hb14 hb15 n15
                    generalize w14.alloc (Obj.cells #[Value.string (⟨#[122, 122, 45]⟩ ++ db), Value.int IntKind.i64 2, Value.int IntKind.i64 (p.x + (t : Int)), Value.int IntKind.i64 p.y, Value.int IntKind.i64 (S : Int), Value.int IntKind.i64 p.h] 70) = W15 at *
                    generalize w14.heap.size = tb at *
                    refine ⟨by kernel_rfl, ?_⟩
                    simp only [List.drop_succ_cons, List.drop_zero]
                    go_wp2_with ((at_builtin
                                  refine wpList_of_step rfl fun K hK => ?_
                                  go_loud (refine step_append_pv rfl (.tmp 184) (.tmp 199) rfl i1' _ hi1 hi1z hi1s hi1b rfl w8.heap.size v (f.fill a rs).ps rfl hpv15 hB15 tb ⟨⟨#[122, 122, 45]⟩ ++ db, 2, p.x + (t : Int), p.y, (S : Int), p.h⟩ rfl hq15 HFL.out ?_)
                                  intro g16 cap16 w16 row16 hown16 hg16 hrow16
                                  refine hK _ _ ?_
                                  clear hK K
                                  have hN16 := HG2.out.blk HB15.out hg16 hrow16
                                  have k2 := hN16.cell 2
                                  have k2f := hN16.frozen 2
                                  go_loud (have hpush := fun h1 => GS.push (v' := .slice (some ⟨g16, 0, none⟩) ((f.fill a rs).ps.length + 1) cap16) HG2.out (s := (S : Int)) (by omega) HB15.out h1 hg16 hrow16; simp only [HPE.out, HZZ.out] at hpush)
                                  have hS16 := hpush hown16
                                  clear hpush
                                  have k4 := (HZs.out _ hS16.B i hlt).1
                                  rw [HS'.out] at k4
                                  have HS16 := Lib.hid hS16
                                  clear hS16 hown16 hg16 hrow16 hN16 hq15 hpv15))
                    go_roundg (ci - (m + 1))
                    case measure => omega
                    case rel => exact ⟨m + 1, _, rs ++ [⟨⟨#[122, 122, 45]⟩ ++ db, 2, p.x + (t : Int), p.y, (S : Int), p.h⟩], by omega, by omega, by rw [HT2.out]; congr 1; omega, by simp, by go_num, by have := HRN.out; simp; omega, (show GS _ _ _ _ _ _ _ _ by rw [HT2.out, show p.x + ((t + S : Nat) : Int) = p.x + (t : Int) + (S : Int) by omega]; exact HS16.out)⟩
                  · have hmcz : ¬ (m : Int) < (ci : Int) := by omega
                    have hme : m = ci := by omega
                    have hx1 : fS l cf (i + 1) = t := by rw [HF1.out, HFi.out, HI'.out, HS'.out, ← HTT.out, hme]
                    have HX1 := Lib.hid hx1
                    have hq1 : rs.length = fN cf (i + 1) := by rw [HN1.out, HI'.out]; have := HQN.out; have := HRN.out; omega
                    have HQ1 := Lib.hid hq1
                    clear hx1 hq1 hme hmono ht
                    go_wp2_with fail
                    go_roundg (l.length - (i + 1))
                    case measure => omega
                    case rel => exact ⟨i + 1, v, rs, by omega, by omega, by rw [HX1.out], rfl, by go_num, HQ1.out, (show GS _ _ _ _ _ _ _ _ by rw [HX1.out]; exact HG2.out)⟩
              · have hltz : ¬ (i : Int) < (l.length : Int) := by omega
                have hie : i = l.length := by omega
                have hfx : (fS l cf i : Int) = p.w := by rw [hie, HCF.out]; exact HOK.out.L0.symm
                rw [hfx] at HG ⊢
                obtain ⟨A', b', c', rfl, hc', hA', hps'⟩ := HG.out.pv.lies
                have hqb : qs.length ≤ 400 := by
                  have h1 : fN cf l.length ≤ 100 * l.length := fN_le fun j hj => by have := (HZv.out wr HG.out.B j hj).2; have := (HOK.out.c j hj).2; omega
                  rw [hqn, hie]
                  omega
                have hfl : (f.fill a qs).ps.length ≤ 1000 := by unfold Forme.fill; rw [List.length_append, fill_len hal]; omega
                have HNM2 : Hid (qs.length ≤ 60 → NameOk (f.fill a qs).ps) := (show _ → _ from fun h => fill_names HRT.out HG.out.st h)
                have HQL : Hid (qs.length ≤ (f.fill a qs).ps.length) := (show _ ≤ _ by unfold Forme.fill; rw [List.length_append]; omega)
                have HFC : Hid ((f.fill a qs).ps.length ≤ 60 → ((checkF (f.fill a qs)).2 = 0 ∨ ((checkF (f.fill a qs)).2 = 5 ∧ (1 < qs.length ∨ ∃ j, j < f.ps.length ∧ nmEq (gp f.ps j).name (zzN 1) = true))) ∧ (f.fill a qs).W * (f.fill a qs).H - areas (f.fill a qs).ps = 0) := (show _ → _ from fun h => fill_check HRT.out HFU.out hal (by have := HG.out.st; rw [HPE.out] at this ⊢; exact this) h)
                have n0 : wr.cell? ⟨nb, 0, none⟩ = some (.int .i64 f.W) := HG.out.N.cell 0
                have n1 : wr.cell? ⟨nb, 1, none⟩ = some (.int .i64 f.H) := HG.out.N.cell 1
                have n2 : wr.cell? ⟨nb, 2, none⟩ = some (.slice A' (f.fill a qs).ps.length c') := HG.out.N.cell 2
                obtain ⟨o2, o3, o4, o5⟩ := HOBW.out wr HG.out.B
                clear hqn hie hfx o3 o5
                obtain ⟨F, hF⟩ : ∃ F, f.fill a qs = F := ⟨_, rfl⟩
                have hFW : F.W = f.W := by rw [← hF]; rfl
                have hFH : F.H = f.H := by rw [← hF]; rfl
                rw [hF] at hc' hA' hps' hfl HNM2 HQL HFC n2
                have HFE := Lib.hid hF
                have HPS' := Lib.hid hps'
                clear hF hps'
                have HBw := Lib.hid (HL8.out.B.trans (HG.out.B.mono HL8.out.B.size))
                by_cases h60 : 60 < F.ps.length
                · have h60z : (60 : Int) < (F.ps.length : Int) := by omega
                  clear HFC HNM2 HG
                  go_wp2_with fail
                  go_ret
                  exact ⟨ret_bool (by simp), HBw.out⟩
                · have h60z : ¬ (60 : Int) < (F.ps.length : Int) := by omega
                  have hcp : Calls Try.prog 28 #[.agg #[.int .i64 f.W, .int .i64 f.H, .slice A' F.ps.length c']] wr fun e w' => ∃ A2 b2 c2, e = .returned (.agg #[.int .i64 f.W, .int .i64 f.H, .slice A2 F.ps.length c2]) ∧ F.ps.length ≤ c2 ∧ Lies A2 F.ps.length w'.heap.size b2 0 ∧ PsAt w' b2 0 F.ps ∧ Below wr.heap.size wr w' := by
                    have := copyF_any F A' b' 0 c' wr hA' HPS'.out (by omega)
                    rw [hFW, hFH] at this
                    refine this.mono ?_
                    rintro e w' ⟨v2, rfl, ⟨A2, b2, c2, rfl, h1, h2, h3, -⟩, h4⟩
                    exact ⟨A2, b2, c2, by rw [hFW, hFH], h1, h2, h3, h4⟩
                  go_wp2_with fail
                  refine hcp.mono ?_
                  rintro e w20 ⟨A2, b2, c2, rfl, hc2, hA2, hps2, hb20⟩
                  have HB20 := Lib.hid hb20
                  have hck := checkForme_any F A2 b2 0 c2 w20 hA2 hps2 (HNM2.out (by have := HQL.out; omega)) hc2 (by omega)
                  rw [hFW, hFH] at hck
                  have HCK := Lib.hid hck
                  clear hcp hck hA2 hps2 hb20 n0 n1 n2 o2 o4
                  go_wp2_with fail
                  refine HCK.out.mono ?_
                  rintro e w21 ⟨rfl, hb21⟩
                  have hb22 : Below wr.heap.size wr w21 := HB20.out.trans (hb21.mono HB20.out.size)
                  have HB22 := Lib.hid hb22
                  have HG21 := Lib.hid (HG.out.below hb22)
                  have HBw2 := Lib.hid (HBw.out.trans (hb22.mono HBw.out.size))
                  have HA21 := Lib.hid (hA'.mono hb22.size)
                  have HP21 : Hid (PsAt w21 b' 0 F.ps) := (show PsAt _ _ _ _ from fun j hj => (HPS'.out j hj).below hb22 (hA' (by omega)).2)
                  clear hb21 hb22 HCK HB20
                  rcases (HFC.out (by omega)).1 with h0 | ⟨h5, hQ⟩
                  · have hun := uncG_any F A' b' 0 c' w21 HA21.out HP21.out (HNM2.out (by have := HQL.out; omega)) hc' (by omega)
                    rw [if_pos h0, h0, (HFC.out (by omega)).2, hFW, hFH] at hun
                    have HUN := Lib.hid hun
                    rw [h0]
                    clear hun h0 HFC HNM2
                    generalize (checkF F).1 = cg1 at *
                    have n0 : w21.cell? ⟨nb, 0, none⟩ = some (.int .i64 f.W) := HG21.out.N.cell 0
                    have n1 : w21.cell? ⟨nb, 1, none⟩ = some (.int .i64 f.H) := HG21.out.N.cell 1
                    have n2 : w21.cell? ⟨nb, 2, none⟩ = some (.slice A' F.ps.length c') := by have := HG21.out.N.cell 2; rw [HFE.out] at this; exact this
                    go_wp2_with fail
                    refine HUN.out.mono ?_
                    rintro e w23 ⟨rfl, hb23⟩
                    have HB23 := Lib.hid (HBw2.out.trans (hb23.mono HBw2.out.size))
                    obtain ⟨o2, o3, o4, o5⟩ := HOBW.out w23 (HG21.out.below hb23).B
                    clear hb23 n0 n1 n2 o3 o5 HUN
                    go_wp2_with fail
                    go_ret
                    exact ⟨ret_bool (by simp), HB23.out⟩
                  · rw [h5]
                    have HLG := Lib.hid (HL8.out.step HG21.out.B)
                    have a2 := HLG.out.F.cell 2
                    have hr : 0 ≤ idx (fun j => nmEq (gp f.ps j).name ⟨#[122, 122, 45, 49]⟩) f.ps.length ∨ 1 < qs.length := by
                      rcases hQ with h | ⟨j, hj, he⟩
                      · exact .inr h
                      · refine .inl (Classical.byContradiction fun hn => ?_)
                        have := idx_neg hn j hj
                        rw [zz_one] at he
                        rw [he] at this
                        cases this
                    have HFI := Lib.hid (find_any f.ps ⟨#[122, 122, 45, 49]⟩ (some ⟨b, off, none⟩) b off c w21 HLG.out.l HLG.out.ps (by omega))
                    clear h5 hQ HFC HNM2
                    generalize (checkF F).1 = cg1 at *
                    go_wp2_with fail
                    refine HFI.out.mono ?_
                    rintro e w' ⟨rfl, rfl⟩
                    clear HFI a2
                    generalize idx (fun j => nmEq (gp f.ps j).name ⟨#[122, 122, 45, 49]⟩) f.ps.length = r at *
                    by_cases hr0 : 0 ≤ r
                    · go_wp2_with fail
                      go_ret
                      exact ⟨rfl, HBw2.out⟩
                    · have hq1 : (1 : Int) < (qs.length : Int) := by omega
                      go_wp2_with fail
                      go_ret
                      exact ⟨rfl, HBw2.out⟩
end Go.Proofs.Ytlfeoofchebbkaa
