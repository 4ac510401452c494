/- Light: what the law asks of a task's sizes. -/
import Derived.Test.YtefjhhgfkdkfaaaOta
namespace Go.Proofs.Ytefjhhgfkdkfaaa
set_option linter.unusedSimpArgs false
set_option linter.unusedVariables false
open Go.RowKit
set_option maxRecDepth 100000 in
set_option maxHeartbeats 4000000 in
theorem plain3_any (f : Fnt) (v : Value) (w : World) (hv : SoV w f.sorts v) (hn : f.name.size ≤ 9223372036854775807) : Calls Try.prog 50 #[.agg (fcs f v)] w (PlnPost f w) := by
  have hfew := hv.few
  have hb0 := below_new w (.cells (fcs f v) 24)
  have hbk := Blk.new w 24 (fcs f v)
  have HV0 := Lib.hid (hv.below hb0)
  obtain ⟨A, c, rfl⟩ := hv.shape
  have HB0 := Lib.hid hb0
  have c0 := hbk.cell 0
  have c2 := hbk.cell 2
  have HFL : Hid (∀ W, Below w.heap.size w W → PlnPost f w (.returned (.bool false)) W) := (show ∀ W, _ from fun W h => ⟨false, rfl, (fun h => by cases h), h⟩)
  have HTR : Hid (∀ W, f.sorts.length ≤ 122 → Below w.heap.size w W → PlnPost f w (.returned (.bool true)) W) := (show ∀ W, _ from fun W h1 h => ⟨true, rfl, fun _ => h1, h⟩)
  clear hv hb0
  go_enter Try.func50, Try.ntmps50
  generalize hN : f.sorts.length = N at *
  have HN := Lib.hid hN
  clear hN
  by_cases hA : (10 < N ∧ N ≤ 120) ∨ 122 < N ∨ 20 < f.name.size
  · go_wp2_with fail
    all_goals first
      | (exfalso; omega)
      | (go_ret; exact HFL.out _ HB0.out)
  · have hs : (f.name.size : Int) ≤ 20 := by omega
    go_wp2_with fail
    all_goals first
      | (exfalso; omega)
      | skip
    all_goals
      go_loopg [3] N (fun gg s3 wr => ∃ k : Nat, k ≤ N ∧ N - k ≤ gg ∧ s3 = .int .i64 k ∧ Hid (Below (w.alloc (.cells (fcs f (.slice A N c)) 24)).heap.size (w.alloc (.cells (fcs f (.slice A N c)) 24)) wr))
      case atStart => exact ⟨0, by omega, by omega, rfl, Below.refl _ _⟩
      case round =>
        obtain ⟨k, hk, hg, rfl, HB⟩ := hrel
        have c2' := (HB.out.cell (p := ⟨w.heap.size, 2, none⟩) (by simp)).trans c2
        have cl' : w.heap.size < wr.heap.size := by have := HB.out.size; simp at this; omega
        have HBB := Lib.hid (HB0.out.trans (HB.out.mono HB0.out.size))
        clear c0 c2
        by_cases hlt : k < N
        · have hltz : (k : Int) < (N : Int) := by omega
          have hV := HV0.out.below HB.out
          obtain ⟨A', b, off, c', he, hA', hss, -, -, hsz⟩ := hV
          rw [HN.out] at he hA'
          injection he with e1 e2 e3
          clear e2 e3
          subst e1
          obtain ⟨rfl, hbl⟩ := hA' (by omega)
          obtain ⟨s0, s1, -, -⟩ := hss k (by rw [HN.out]; exact hlt)
          have hsk := hsz k (by rw [HN.out]; exact hlt)
          generalize (gs f.sorts k) = x at *
          clear hss hsz
          go_wp2_with fail
          all_goals first
            | (go_ret; exact HFL.out _ HBB.out)
            | skip
          all_goals
            go_roundg (N - (k + 1))
            case measure => omega
            case rel => exact ⟨k + 1, by omega, by omega, by go_num, HB.out⟩
        · have hltz : ¬ (k : Int) < (N : Int) := by omega
          go_wp2_with fail
          go_ret
          exact HTR.out _ (by omega) HBB.out
/-- The sizes of a light task. -/
def Lgt (t : Tsk) : Prop := t.f.sorts.length ≤ 122 ∧ t.cs.length ≤ 124 ∧ t.ind.length ≤ 14 ∧ t.words.length ≤ 32 ∧ ∀ i, i < t.words.length → (gl t.words i).length ≤ 62
def LgPost (t : Tsk) (w : World) (e : Ending) (w' : World) : Prop := ∃ b : Bool, e = .returned (.bool b) ∧ (b = true → Lgt t) ∧ Below w.heap.size w w'
set_option maxRecDepth 100000 in
set_option maxHeartbeats 8000000 in
theorem light3_any (t : Tsk) (v vc vi vw : Value) (w : World) (h : TkV w t v vc vi vw) (hn : t.f.name.size ≤ 9223372036854775807) : Calls Try.prog 17 #[.agg (xts t v vc vi vw)] w (LgPost t w) := by
  have hb0 := below_new w (.cells (xts t v vc vi vw) 51)
  have HT0 := Lib.hid (h.below hb0)
  have HB0 := Lib.hid hb0
  have HK0 := Lib.hid (Blk.new w 51 (xts t v vc vi vw))
  have HC := Lib.hid (plain3_any t.f v _ HT0.out.s hn)
  obtain ⟨Av, cv, rfl⟩ := h.s.shape
  obtain ⟨Ac, _, _, cc, rfl, -, -, hcc, hcc2⟩ := h.c.open
  obtain ⟨Ai, _, _, ci, rfl, -, -, hci, hci2⟩ := h.i.open
  obtain ⟨Aw, cw, rfl, hcw, hcw2⟩ := h.w.shape
  have HFL : Hid (∀ W, Below w.heap.size w W → LgPost t w (.returned (.bool false)) W) := (show ∀ W, _ from fun W h => ⟨false, rfl, (fun h => by cases h), h⟩)
  have HTR : Hid (∀ W, t.f.sorts.length ≤ 122 → t.cs.length ≤ 124 → t.ind.length ≤ 14 → t.words.length ≤ 32 → (∀ i, i < t.words.length → (gl t.words i).length ≤ 62) → Below w.heap.size w W → LgPost t w (.returned (.bool true)) W) := (show ∀ W, _ from fun W h1 h2 h3 h4 h5 h => ⟨true, rfl, fun _ => ⟨h1, h2, h3, h4, h5⟩, h⟩)
  have k0 := HK0.out.cell 0
  have k1 := HK0.out.cell 1
  have k2 := HK0.out.cell 2
  clear h hb0
  go_enter Try.func17, Try.ntmps17
  go_wp2_with fail
  refine HC.out.mono ?_
  generalize w.alloc (.cells (xts t (.slice Av t.f.sorts.length cv) (.slice Ac t.cs.length cc) (.slice Ai t.ind.length ci) (.slice Aw t.words.length cw)) 51) = W0 at *
  rintro e w1 ⟨b, rfl, hb, hb1⟩
  have HBP := Lib.hid hb
  have HB1 := Lib.hid (HB0.out.trans (hb1.mono HB0.out.size))
  have HT1 := Lib.hid (HT0.out.below hb1)
  have HK1 := Lib.hid (HK0.out.below hb1 HK0.out.lt)
  clear hb hb1 k0 k1 k2 HC HB0 HT0 HK0
  have k3 := HK1.out.cell 3
  have k4 := HK1.out.cell 4
  have k5 := HK1.out.cell 5
  have kl := HK1.out.lt
  generalize hN : t.words.length = N at *
  have HN := Lib.hid hN
  clear hN
  generalize t.cs.length = nc at *
  generalize t.ind.length = ni at *
  cases b with
  | false =>
    go_wp2_with fail
    go_ret
    exact HFL.out _ HB1.out
  | true =>
    have HS := Lib.hid (HBP.out rfl)
    clear HBP
    by_cases hA : 124 < nc ∨ 14 < ni ∨ (8 < N ∧ N ≤ 30) ∨ 32 < N
    · go_wp2_with fail
      all_goals first
        | (exfalso; omega)
        | (go_ret; exact HFL.out _ HB1.out)
    · go_wp2_with fail
      all_goals first
        | (exfalso; omega)
        | skip
      all_goals
        go_loopg [3] N (fun gg s3 wr => ∃ k : Nat, k ≤ N ∧ N - k ≤ gg ∧ s3 = .int .i64 k ∧ Hid (Below w1.heap.size w1 wr) ∧ Hid (∀ i, i < k → (gl t.words i).length ≤ 62))
        case atStart => exact ⟨0, by omega, by omega, rfl, Below.refl _ _, (show ∀ i, _ from fun i hi => absurd hi (Nat.not_lt_zero _))⟩
        case round =>
          obtain ⟨k, hk, hg, rfl, HB, HI⟩ := hrel
          have HKr := Lib.hid (HK1.out.below HB.out HK1.out.lt)
          have HTr := Lib.hid (HT1.out.below HB.out)
          have HBr := Lib.hid (HB1.out.trans (HB.out.mono HB1.out.size))
          clear k3 k4 k5 kl
          have k5 := HKr.out.cell 5
          have kl := HKr.out.lt
          by_cases hlt : k < N
          · have hltz : (k : Int) < (N : Int) := by omega
            obtain ⟨hs, ⟨Aw', bw, ow, cw', he, hAw, hzw, -, -⟩, hIw⟩ := HTr.out.w
            rw [HN.out] at he hAw hzw hIw
            injection he with e1 e2 e3
            subst e1
            clear e2 e3
            obtain ⟨rfl, hbw⟩ := hAw (by omega)
            have z1 := hzw k (by omega)
            have hiw := hIw k hlt
            generalize hs k = vk at *
            obtain ⟨Ak, _, _, ck, rfl, -, -, hck, hck2⟩ := hiw.open
            have HST : Hid ((gl t.words k).length ≤ 62 → ∀ i, i < k + 1 → (gl t.words i).length ≤ 62) := (show _ → _ from fun h i hi => by
              by_cases e : i = k
              · rw [e]; exact h
              · exact HI.out i (by omega))
            clear hAw hzw hIw hiw
            generalize (gl t.words k).length = n1 at *
            go_wp2_with fail
            all_goals first
              | (go_ret; exact HFL.out _ HBr.out)
              | skip
            all_goals
              go_roundg (N - (k + 1))
              case measure => omega
              case rel => exact ⟨k + 1, by omega, by omega, by go_num, HB.out, HST.out (by omega)⟩
          · have hltz : ¬ (k : Int) < (N : Int) := by omega
            have hke : k = N := by omega
            have HI2 : Hid (∀ i, i < N → (gl t.words i).length ≤ 62) := by rw [hke] at HI; exact HI
            clear hke HI hlt
            go_wp2_with fail
            go_ret
            exact HTR.out _ HS.out (by omega) (by omega) (by omega) HI2.out HBr.out
end Go.Proofs.Ytefjhhgfkdkfaaa
