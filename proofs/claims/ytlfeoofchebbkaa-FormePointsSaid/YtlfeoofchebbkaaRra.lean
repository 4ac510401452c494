/- ref.RowAt: the pieces of a row, in order. -/
import Derived.Test.YtlfeoofchebbkaaAln
import Derived.Test.YtlfeoofchebbkaaRri
import Derived.BigRegion
namespace Go.Proofs.Ytlfeoofchebbkaa
set_option linter.unusedSimpArgs false
set_option linter.unusedVariables false
open Go.RowKit
theorem isRow_win {p : Piece} {y : Int} (h : 1 ≤ p.w) : isRow y p = win y p.y (p.y + p.h - 1) := by
  unfold isRow covB
  have : win p.x p.x (p.x + p.w - 1) = true := win_t.2 (by omega)
  rw [this, Bool.true_and]
/-- A row of the call's own, of numbers of pieces. -/
def NumsRow (W : World) (g : Nat) (l : List Nat) : Prop := rowG W g l.length (fun j => .int .i64 (gn l j : Int))
theorem NumsRow.swap {W : World} {g : Nat} {l : List Nat} {i j : Nat} (h : NumsRow W g l) (hi : i < l.length) (hj : j < l.length) : NumsRow ((W.setCell ⟨g, i, none⟩ (.int .i64 (gn l j : Int))).setCell ⟨g, j, none⟩ (.int .i64 (gn l i : Int))) g (swl l i j) := by
  unfold NumsRow at h ⊢
  rw [swl_len]
  refine ((h.set i _).set j _).congr fun a ha => ?_
  rw [swl_at hi hj]
  by_cases h1 : a = j
  · simp [h1]
  · by_cases h2 : a = i
    · subst h2; rw [if_neg h1, if_pos rfl, if_neg h1, if_pos rfl]
    · rw [if_neg h1, if_neg h2, if_neg h1, if_neg h2]
theorem NumsRow.v {W : World} {g c : Nat} {l : List Nat} (h : NumsRow W g l) (hc : l.length ≤ c) (hl : l.length ≤ 9223372036854775807) : IntsV W (zl l) (.slice (some ⟨g, 0, none⟩) l.length c) := by
  have e : (zl l).length = l.length := by simp [zl]
  refine ⟨some ⟨g, 0, none⟩, g, c, by rw [e], fun _ => ⟨rfl, h.lt⟩, fun j hj => ?_, by omega, by omega⟩
  rw [e] at hj
  rw [Nat.zero_add, h.cell hj]
  simp [gz, zl, gn, List.getD_eq_getElem?_getD, List.getElem?_eq_getElem hj]
theorem NumsRow.of {W : World} {g : Nat} {l : List Nat} {B : Nat} (h : rowG W g (zl l).length (fun j => .int .i64 (gz (zl l) j))) : NumsRow W g l := by
  have e : (zl l).length = l.length := by simp [zl]
  rw [e] at h
  refine h.congr fun j hj => ?_
  simp [gz, zl, gn, List.getD_eq_getElem?_getD, List.getElem?_eq_getElem hj]
set_option maxRecDepth 100000 in
set_option maxHeartbeats 8000000 in
theorem refRow_any (f : Forme) (y : Int) (A : Option Addr) (b off c : Nat) (w : World) (hA : Lies A f.ps.length w.heap.size b off) (hps : PsAt w b off f.ps) (hs : ∀ j, j < f.ps.length → Sml (gp f.ps j) ∧ 1 ≤ (gp f.ps j).w) (hm : f.ps.length ≤ 1000)
    (hi : ∀ i k, i ∈ aloI f.ps (isRow y) → k ∈ aloI f.ps (isRow y) → (gp f.ps i).x = (gp f.ps k).x → i = k) :
    Calls Try.prog 62 #[.agg #[.int .i64 f.W, .int .i64 f.H, .slice A f.ps.length c], .int .i64 y] w (AlongPost (aloS f.ps (isRow y) fun p => p.x) w) := by
  obtain ⟨inf, hInf, hInf0, hInf1, hInf2⟩ := info_parts Try.info3
  have hB := below_new w (Obj.cells #[Value.int IntKind.i64 f.W, Value.int IntKind.i64 f.H, Value.slice A f.ps.length c] 37)
  have hF := FAt_new w 37 f (Value.slice A f.ps.length c)
  have hz : (w.alloc (Obj.cells #[Value.int IntKind.i64 f.W, Value.int IntKind.i64 f.H, Value.slice A f.ps.length c] 37)).heap.size = w.heap.size + 1 := by simp
  have HPS : Hid (∀ W, Below w.heap.size w W → PsAt W b off f.ps) := (show ∀ W, _ from fun W hW j hj => (hps j hj).below hW (hA (by omega)).2)
  have HSM : Hid (∀ j, j < f.ps.length → Sml (gp f.ps j)) := fun j hj => (hs j hj).1
  have HRW : Hid (∀ j, j < f.ps.length → isRow y (gp f.ps j) = win y (gp f.ps j).y ((gp f.ps j).y + (gp f.ps j).h - 1)) := fun j hj => isRow_win (hs j hj).2
  have HAK := Lib.hid (alK_succ f.ps (isRow y))
  have HAL := Lib.hid (alK_len f.ps (isRow y))
  have H0 : Hid (alK f.ps (isRow y) 0 = []) := rfl
  have HMEM : Hid (∀ j, j ∈ alK f.ps (isRow y) f.ps.length → j < f.ps.length) := (show ∀ j, _ from fun j hj => (mem_aloI.1 hj).1)
  have HFN : Hid (∀ l : List Nat, l.Perm (alK f.ps (isRow y) f.ps.length) → InTo (fun i => (gp f.ps i).x) l.length l → l = aloS f.ps (isRow y) fun p => p.x) := (show ∀ l, _ from fun l hp hs => aloS_uniq hi hp hs.sorted)
  clear hi hps hs
  generalize aloS f.ps (isRow y) (fun p => p.x) = res at *
  generalize hK : alK f.ps (isRow y) = al at *
  clear hK
  generalize hn : f.ps.length = n at *
  have HNN := Lib.hid hn
  clear hn
  go_enter Try.func62, Try.ntmps62
  go_wp2_with fail
  generalize w.alloc (Obj.cells #[Value.int IntKind.i64 f.W, Value.int IntKind.i64 f.H, Value.slice A n c] 37) = W1 at *
  have HFF := Lib.hid hF
  have HBB := Lib.hid hB
  have HZ := Lib.hid hz
  clear hF hB hz
  go_loopg [5, 6] n (fun gg s5 s6 wr => ∃ k : Nat, k ≤ n ∧ n - k ≤ gg ∧ s6 = .int .i64 k ∧ Hid (wr.ownsRow W1.heap.size 3 1 s5 (al k).length (nums (al k))) ∧ Hid (Below W1.heap.size W1 wr))
  case atStart => exact ⟨0, Nat.zero_le _, by omega, rfl, by show World.ownsRow _ _ _ _ _ _ _; rw [H0.out]; exact World.ownsRow_nil _ _ _ _, Below.refl _ _⟩
  case round =>
    obtain ⟨k, hk, hgk, rfl, R, BW⟩ := hrel
    have hsz := BW.out.size
    have hbw := HBB.out.trans (BW.out.mono HBB.out.size)
    obtain ⟨a0, a1, a2⟩ := HFF.out.below BW.out (by have := HZ.out; omega)
    by_cases hlt : k < n
    · have hltz : (k : Int) < (n : Int) := by omega
      have hk0 : (0 : Int) ≤ (k : Int) := by omega
      obtain ⟨rfl, hb⟩ := hA (by omega)
      obtain ⟨c0, c1, c2, c3, c4, c5⟩ := HPS.out wr hbw k (by have := HNN.out; omega)
      obtain ⟨q1, q2, q3, q4, q5, q6, q7, q8⟩ := HSM.out k hlt
      have HR1 := Lib.hid (HRW.out k hlt)
      have HA1 := Lib.hid (HAK.out k)
      have HLK := Lib.hid (HAL.out k)
      clear hbw hA
      generalize gp f.ps k = p at *
      have e1 : IntKind.i64.wrap (p.y + p.h) = p.y + p.h := IntWalk.i64_in _ (by omega)
      have e2 : IntKind.i64.wrap (p.y + p.h - 1) = p.y + p.h - 1 := IntWalk.i64_in _ (by omega)
      have HWI := Lib.hid (fun W => withinB_any y p.y (p.y + p.h - 1) W)
      cases hq : win y p.y (p.y + p.h - 1) with
      | true =>
        rw [hq] at HWI
        have HQ := Lib.hid hq
        clear hq
        go_wp2_with fail
        go_quiet ((go_at_call 49; exact Calls.quiet_of_same ((HWI.out _).mono fun _ _ ⟨h1, h2⟩ => ⟨h1, h2.symm⟩)))
        clear e1 e2 a0 a1 a2 c0 c1 c2 c3 c4 c5
        have R2 : Hid ((wr.drewN nq).ownsRow W1.heap.size 3 1 _ (al k).length (nums (al k))) := R.out
        have b3 : Hid (Below W1.heap.size W1 (wr.drewN nq)) := ⟨BW.out.os, BW.out.tape, BW.out.output, BW.out.size, BW.out.block⟩
        have hz2 : W1.heap.size ≤ (wr.drewN nq).heap.size := hsz
        clear BW R hsz
        generalize wr.drewN nq = w2 at *
        go_wp2_with ((at_builtin
                      refine wpList_append_lies _ rfl (.tmp 38) (.tmp 40) 23 (by rfl) W1.heap.size 3 inf _ 1 8 Try.underlying23 hInf hInf0 hInf1 hInf2 rfl (by omega) _ (al k).length _ (by rfl) (R2.out.alloc _) ⟨w2.heap.size, 0, none⟩ 1 1 [.int .i64 k] (by rfl) (by rfl) (World.news_of_block (cs := #[.int .i64 k]) (t := 3) (fr := (0, 0)) (heap_alloc_new w2 _)) (by simp [Value.oneCell']) (by omega) (by have := HLK.out; simp only [maxLen]; omega) (by have := HLK.out; omega) (by simp; omega) (w2.heap.size + 1) (by simp) ?_
                      intro g1 cap1 w8 hown hgrow hat hlt8
                      have HO8 := Lib.hid hown
                      have HG8 := Lib.hid hgrow
                      clear hown hgrow hat))
        go_roundg (n - (k + 1))
        case measure => omega
        case rel =>
          refine ⟨k + 1, by omega, by omega, by go_num, ?_, ?_⟩
          · show World.ownsRow _ _ _ _ _ _ _
            have := HO8.out
            rw [HA1.out, if_pos (HR1.out.trans HQ.out), List.length_append, show nums (al k ++ [k]) = nums (al k) ++ [.int .i64 k] by simp [nums]]
            exact this
          · show Below _ _ _
            exact (b3.out.alloc (by omega) _).grown HG8.out (by simp; omega) (fun t ht => (R2.out.lt t ht).1)
      | false =>
        rw [hq] at HWI
        have HQ := Lib.hid hq
        clear hq
        go_wp2_with fail
        go_quiet ((go_at_call 49; exact Calls.quiet_of_same ((HWI.out _).mono fun _ _ ⟨h1, h2⟩ => ⟨h1, h2.symm⟩)))
        clear e1 e2 a0 a1 a2 c0 c1 c2 c3 c4 c5
        go_wp2_with fail
        go_roundg (n - (k + 1))
        case measure => omega
        case rel =>
          refine ⟨k + 1, by omega, by omega, by go_num, ?_, ⟨BW.out.os, BW.out.tape, BW.out.output, BW.out.size, BW.out.block⟩⟩
          show World.ownsRow _ _ _ _ _ _ _
          rw [HA1.out, if_neg (by rw [HR1.out, HQ.out]; exact Bool.false_ne_true), List.append_nil]
          exact R.out
    · have hltz : ¬ (k : Int) < (n : Int) := by omega
      have he : k = n := by omega
      subst he
      have hzn : nums (al k) = (zl (al k)).map (Value.int .i64) := nums_zl _
      have hzl : (al k).length = (zl (al k)).length := by simp [zl]
      have hown := R.out
      rw [hzn, hzl] at hown
      obtain ⟨A1, g, cp, rfl, hcp, hl1, hza, hr1⟩ := ints_own hown
      have HR : Hid (0 < (al k).length → W1.heap.size ≤ g ∧ A1 = some ⟨g, 0, none⟩ ∧ NumsRow wr g (al k)) := fun h => ⟨(hr1 (by omega)).1, (hl1 (by omega)).1, NumsRow.of (B := 0) (hr1 (by omega)).2⟩
      have hln := HAL.out k
      have HL := Lib.hid hln
      have hcp' : (al k).length ≤ cp := by omega
      rw [← hzl]
      have HBW := Lib.hid hbw
      clear hzn hzl hown hza hr1 hl1 hcp R HAK HAL H0 HRW hbw hln
      generalize hl0 : al k = l0 at *
      have HL0 := Lib.hid hl0
      clear hl0
      generalize hm0 : l0.length = m at *
      have HM := Lib.hid hm0
      clear hm0
      have hmk : m ≤ k := HL.out
      go_wp2_with fail
      go_loopg [7] m (fun gg s7 wr2 => ∃ (i : Nat) (l : List Nat), i ≤ m + 1 ∧ 1 ≤ i ∧ m + 1 - i ≤ gg + 1 ∧ s7 = .int .i64 i ∧ Hid (l.Perm l0) ∧ Hid (InTo (fun i => (gp f.ps i).x) i l) ∧ Hid (0 < m → NumsRow wr2 g l) ∧ Hid (Below W1.heap.size W1 wr2) ∧ (i = m + 1 → m = 0))
      case atStart => exact ⟨1, l0, by omega, by omega, by omega, by go_num, List.Perm.refl _, InTo.one, (show 0 < m → _ from fun h => (HR.out h).2.2), BW.out, fun h => by omega⟩
      case round =>
        obtain ⟨i, l, hi1, hi2, hg2, rfl, P1, T1, N1, BW2, hx⟩ := hrel
        by_cases him : i < m
        · have himz : (i : Int) < (m : Int) := by omega
          obtain ⟨hgb, rfl, -⟩ := HR.out (by omega)
          go_wp2_with fail
          go_loopg [8] i (fun gg s8 wr3 => ∃ (q : Nat) (l' : List Nat), q ≤ i ∧ q ≤ gg ∧ s8 = .int .i64 q ∧ Hid (l'.Perm l0) ∧ Hid (InBut (fun i => (gp f.ps i).x) i q l') ∧ Hid (NumsRow wr3 g l') ∧ Hid (Below W1.heap.size W1 wr3))
          case atStart => exact ⟨i, l, by omega, by omega, rfl, P1.out, T1.out.but, N1.out (by omega), BW2.out⟩
          case round =>
            obtain ⟨q, l', hqi, hgq, rfl, P2, T2, N2, BW3⟩ := hrel
            have hln : l'.length = m := P2.out.length_eq.trans HM.out
            obtain ⟨a0, a1, a2⟩ := HFF.out.below BW3.out (by have := HZ.out; omega)
            rcases Nat.eq_zero_or_pos q with hq0 | hq0
            · subst hq0
              have HT : Hid (InTo (fun i => (gp f.ps i).x) (i + 1) l') := T2.out.stop (.inl rfl)
              have hd : decide (((0 : Nat) : Int) > 0) = false := by decide
              clear hln
              go_wp2_with fail
              go_quiet (fail)
              go_wp2_with fail
              go_roundg (m - (i + 1))
              case measure => omega
              case rel => exact ⟨i + 1, l', by omega, by omega, by omega, by go_num, P2.out, HT.out, (show 0 < m → _ from fun _ => N2.out), ⟨BW3.out.os, BW3.out.tape, BW3.out.output, BW3.out.size, BW3.out.block⟩, fun h => by omega⟩
            · obtain ⟨r, rfl⟩ : ∃ r, q = r + 1 := ⟨q - 1, by omega⟩
              have hmem : ∀ j, j < l'.length → gn l' j < k := fun j hj => HMEM.out _ (P2.out.mem_iff.1 (by rw [gn_get hj]; exact List.getElem_mem hj))
              have hu := hmem (r + 1) (by omega)
              have hv := hmem r (by omega)
              have hbw3 := HBB.out.trans (BW3.out.mono HBB.out.size)
              obtain ⟨hAA, hb⟩ := hA (by omega)
              obtain ⟨-, -, x1, -⟩ := HPS.out wr hbw3 (gn l' (r + 1)) (by have := HNN.out; omega)
              obtain ⟨-, -, x2, -⟩ := HPS.out wr hbw3 (gn l' r) (by have := HNN.out; omega)
              rw [hAA] at a2
              have HST : Hid ((gp f.ps (gn l' (r + 1))).x < (gp f.ps (gn l' r)).x → InBut (fun i => (gp f.ps i).x) i r (swl l' (r + 1) r)) := (show _ → _ from fun h => T2.out.step (by omega) (by omega) hqi h)
              have HSP : Hid (¬ (gp f.ps (gn l' (r + 1))).x < (gp f.ps (gn l' r)).x → InTo (fun i => (gp f.ps i).x) (i + 1) l') := (show _ → _ from fun h => T2.out.stop (.inr (Int.not_lt.1 h)))
              have HSW : Hid (∀ W, NumsRow W g l' → NumsRow ((W.setCell ⟨g, r + 1, none⟩ (.int .i64 (gn l' r : Int))).setCell ⟨g, r, none⟩ (.int .i64 (gn l' (r + 1) : Int))) g (swl l' (r + 1) r)) := (show ∀ W, _ from fun W h => h.swap (by omega) (by omega))
              have HSL : Hid ((swl l' (r + 1) r).Perm l0) := (swl_perm (by omega) (by omega)).trans P2.out
              have HCE : Hid (∀ W, NumsRow W g l' → W.cell? ⟨g, r + 1, none⟩ = some (.int .i64 (gn l' (r + 1) : Int)) ∧ W.cell? ⟨g, r, none⟩ = some (.int .i64 (gn l' r : Int)) ∧ W.frozen? ⟨g, r + 1, none⟩ = false ∧ W.frozen? ⟨g, r, none⟩ = false ∧ (W.setCell ⟨g, r + 1, none⟩ (.int .i64 (gn l' r : Int))).cell? ⟨g, r, none⟩ = some (.int .i64 (gn l' r : Int))) :=
                (show ∀ W, _ from fun W h => ⟨h.cell (by omega), h.cell (by omega), h.frozen _, h.frozen _, by
                  have := ((show rowG W g l'.length _ from h).set (r + 1) (.int .i64 (gn l' r : Int))).cell (show r < l'.length by omega)
                  simpa using this⟩)
              obtain ⟨n1, n2, -, -, -⟩ := HCE.out wr N2.out
              have HP2 := Lib.hid hln
              have HRM := Lib.hid (show r + 1 < m by omega)
              clear hmem hbw3 hAA hln T2
              generalize gn l' (r + 1) = u at *
              generalize gn l' r = v at *
              generalize (gp f.ps u).x = xu at *
              generalize (gp f.ps v).x = xv at *
              have ux : (u : Int) < (k : Int) := by omega
              have vx : (v : Int) < (k : Int) := by omega
              have u0 : (0 : Int) ≤ (u : Int) := by omega
              have v0 : (0 : Int) ≤ (v : Int) := by omega
              have r0 : (0 : Int) ≤ (r : Int) := by omega
              have r1 : (0 : Int) ≤ (r : Int) + 1 := by omega
              have rm : (r : Int) < (m : Int) := by have := HRM.out; omega
              have rm1 : (r : Int) + 1 < (m : Int) := by have := HRM.out; omega
              have hd : decide ((r : Int) + 1 > 0) = true := decide_eq_true (by omega)
              have ew : IntKind.i64.wrap ((r : Int) + 1 - 1) = (r : Int) := by rw [show (r : Int) + 1 - 1 = r by omega]; exact IntWalk.i64_in _ (by omega)
              have ew2 : IntKind.i64.wrap (r : Int) = (r : Int) := IntWalk.i64_in _ (by omega)
              have et : ((r : Int) + 1).toNat = r + 1 := by omega
              by_cases hxx : xu < xv
              · have hdx : decide (xu < xv) = true := decide_eq_true hxx
                have HT := Lib.hid (HST.out hxx)
                clear HST HSP hxx
                go_wp2_with fail
                go_quiet (fail)
                have N3 : Hid (NumsRow (wr.drewN nq) g l') := N2.out
                have B3 : Hid (Below W1.heap.size W1 (wr.drewN nq)) := ⟨BW3.out.os, BW3.out.tape, BW3.out.output, BW3.out.size, BW3.out.block⟩
                clear n1 n2 x1 x2 a0 a1 a2 N2 BW3
                generalize wr.drewN nq = W3 at *
                obtain ⟨n1, n2, f1, f2, n3⟩ := HCE.out W3 N3.out
                have HN4 := Lib.hid (HSW.out W3 N3.out)
                go_wp2_with fail
                go_big_region
                go_wp2_with fail
                go_roundg r
                case measure => omega
                case rel => exact ⟨r, swl l' (r + 1) r, by omega, by omega, by go_num, HSL.out, HT.out, HN4.out, ((B3.out.setCell (p := ⟨g, r + 1, none⟩) hgb _).setCell (p := ⟨g, r, none⟩) hgb _).drew⟩
              · have hdx : decide (xu < xv) = false := decide_eq_false hxx
                have HT := Lib.hid (HSP.out hxx)
                clear HST HSP hxx
                go_wp2_with fail
                go_quiet (fail)
                clear n1 n2 x1 x2 a0 a1 a2 ew et
                go_wp2_with fail
                go_roundg (m - (i + 1))
                case measure => omega
                case rel => exact ⟨i + 1, l', by omega, by omega, by omega, by go_num, P2.out, HT.out, (show 0 < m → _ from fun _ => N2.out), ⟨BW3.out.os, BW3.out.tape, BW3.out.output, BW3.out.size, BW3.out.block⟩, fun h => by omega⟩
        · have himz : ¬ (i : Int) < (m : Int) := by omega
          have hml : l.length = m := P1.out.length_eq.trans HM.out
          have HE : Hid (l = res) := HFN.out l P1.out (by
            rw [hml]
            intro a b hab hb
            exact T1.out a b hab (by omega))
          have HB2 := Lib.hid (HBB.out.trans (BW2.out.mono HBB.out.size))
          have HV : Hid (IntsV wr (zl l) (.slice A1 m cp)) := by
            show IntsV _ _ _
            rcases Nat.eq_zero_or_pos m with h0 | h0
            · have : l = [] := List.eq_nil_of_length_eq_zero (by omega)
              subst this
              rw [h0]
              exact ⟨A1, 0, cp, rfl, fun h => absurd h (Nat.lt_irrefl _), fun j hj => absurd hj (Nat.not_lt_zero _), Nat.zero_le _, Nat.zero_le _⟩
            · have := (N1.out h0).v (c := cp) (by omega) (by omega)
              rw [hml] at this
              rw [(HR.out h0).2.1]
              exact this
          clear hml T1 N1 P1 BW2
          go_wp2_with fail
          go_ret
          exact ⟨_, rfl, by rw [← HE.out]; exact HV.out, HB2.out⟩
end Go.Proofs.Ytlfeoofchebbkaa
