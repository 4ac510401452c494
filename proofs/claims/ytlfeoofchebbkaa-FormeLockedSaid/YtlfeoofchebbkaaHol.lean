/- FormeHolds: Held and Loose return what the document specifies, or the errors. -/
import Derived.Test.YtlfeoofchebbkaaHlr
namespace Go.Proofs.Ytlfeoofchebbkaa
set_option linter.unusedSimpArgs false
set_option linter.unusedVariables false
open Go.RowKit
theorem looseG_congr {g h : Nat → Int} : ∀ {n : Nat}, (∀ j, j < n → g j = h j) → colTo (looseG g) n = colTo (looseG h) n := by
  intro n
  induction n with
  | zero => intro _; rfl
  | succ n ih => intro hh; simp only [colTo]; rw [ih fun j hj => hh j (by omega)]; unfold looseG; rw [hh n (by omega)]
set_option maxRecDepth 100000 in
set_option maxHeartbeats 8000000 in
theorem holds_any (f : Forme) (r : Real) (A A1 A2 A3 : Option Addr) (b off b1 o1 b2 o2 b3 o3 c c1 c2 c3 : Nat) (w : World) (h : FR w w.heap.size f r A A1 A2 A3 b off b1 o1 b2 o2 b3 o3) (hc : f.ps.length ≤ c) (hc1 : r.ws.length ≤ c1) (hc2 : r.hs.length ≤ c2) (hc3 : r.ts.length ≤ c3) (hm : c ≤ maxLen) (hm1 : c1 ≤ maxLen) (hm2 : c2 ≤ maxLen) (hm3 : c3 ≤ maxLen) :
    Calls Try.prog 5 #[.agg #[.int .i64 f.W, .int .i64 f.H, .slice A f.ps.length c], .agg #[.slice A1 r.ws.length c1, .slice A2 r.hs.length c2, .slice A3 r.ts.length c3]] w fun e w' => e = .returned (.bool true) ∧ Below w.heap.size w w' := by
  obtain ⟨inf, hInf, hInf0, hInf1, hInf2⟩ := info_parts Try.info3
  obtain ⟨B0, F0, T0, Z0⟩ := boxes w f (.slice A f.ps.length c) (.slice A1 r.ws.length c1) (.slice A2 r.hs.length c2) (.slice A3 r.ts.length c3)
  have hHL : LW w _ f r A A1 A2 A3 b off c b1 o1 c1 b2 o2 c2 b3 o3 c3 := ⟨B0, F0, T0, h.below B0, by omega⟩
  unfold maxLen at hm hm1 hm2 hm3
  go_enter Try.func5, Try.ntmps5
  go_wp2_with fail
  generalize (w.alloc (.cells #[.int .i64 f.W, .int .i64 f.H, .slice A f.ps.length c] 37)).alloc (.cells #[.slice A1 r.ws.length c1, .slice A2 r.hs.length c2, .slice A3 r.ts.length c3] 39) = W0 at *
  have HL0 := Lib.hid hHL
  clear hHL B0 F0 T0 Z0 h
  refine (awake_any _).mono ?_
  rintro e W1 ⟨rfl, e1⟩
  have HL := Lib.hid (HL0.out.step e1)
  clear HL0 e1
  obtain ⟨a0, a1, a2, d0, d1, d2⟩ := HL.out.cells
  go_wp2_with fail
  refine (light_any f A b off c W1 HL.out.fr.la HL.out.fr.ps (by omega)).mono ?_
  rintro e W2 ⟨rfl, e1⟩
  have HL2 := Lib.hid (HL.out.step e1)
  clear HL e1 a0 a1 a2 d0 d1 d2
  obtain ⟨a0, a1, a2, d0, d1, d2⟩ := HL2.out.cells
  have HLT := Lib.hid (fun h => lightB_t (f := f) h)
  generalize lightB f = lb at *
  cases lb with
  | false =>
    go_wp2_with fail
    go_ret
    exact ⟨rfl, HL2.out.B⟩
  | true =>
    obtain ⟨hnm, hlen⟩ := HLT.out rfl
    have HNM := Lib.hid hnm
    clear hnm HLT
    go_wp2_with fail
    refine (few_any r A1 A2 A3 c1 c2 c3 W2).mono ?_
    rintro e W3 ⟨rfl, e1⟩
    have HL := Lib.hid (HL2.out.step e1)
    clear HL2 e1 a0 a1 a2 d0 d1 d2
    obtain ⟨a0, a1, a2, d0, d1, d2⟩ := HL.out.cells
    have HLT := Lib.hid (fun h => fewB_t (r := r) h)
    generalize fewB r = lb at *
    cases lb with
    | false =>
      go_wp2_with fail
      go_ret
      exact ⟨rfl, HL.out.B⟩
    | true =>
      obtain ⟨hl1, hl2, hl3⟩ := HLT.out rfl
      clear HLT
      have HRC : Hid (∀ W, LW w W f r A A1 A2 A3 b off c b1 o1 c1 b2 o2 c2 b3 o3 c3 → Calls Try.prog 32 #[.agg #[.int .i64 f.W, .int .i64 f.H, .slice A f.ps.length c], .agg #[.slice A1 r.ws.length c1, .slice A2 r.hs.length c2, .slice A3 r.ts.length c3]] W fun e w' => e = .returned (.tuple #[.int .i64 (checkR f r).1, .int .i64 (checkR f r).2]) ∧ Below W.heap.size W w') := (show ∀ W, _ from fun W hW =>
          refCheckReal_any f r A A1 A2 A3 b off b1 o1 b2 o2 b3 o3 c c1 c2 c3 W hW.fr HNM.out hc (by omega) hc1 hc2 hc3)
      by_cases hs : (checkR f r).2 = 0
      · obtain ⟨hok, -, -⟩ := checkR_zero hs
        have H37 : Hid (AtCopies 37 f r (HeldV f r)) := fun W vf vr hf hr => (held_at f r HNM.out (by omega) W vf vr hf hr).mono fun _ _ h => (h.yes hs).v (by omega)
        have H38 : Hid (AtCopies 38 f r (LooseV f r)) := looseY_at f r HNM.out (by omega) hs
        have HHD : Hid (∀ W, LW w W f r A A1 A2 A3 b off c b1 o1 c1 b2 o2 c2 b3 o3 c3 → Calls Try.prog 39 #[.agg #[.int .i64 f.W, .int .i64 f.H, .slice A f.ps.length c], .agg #[.slice A1 r.ws.length c1, .slice A2 r.hs.length c2, .slice A3 r.ts.length c3]] W (IntsPostV W (heldL f r))) := (show ∀ W, _ from fun W hW =>
          refHeld_any f r A A1 A2 A3 b off b1 o1 b2 o2 b3 o3 c c1 c2 c3 W hW.fr hok)
        have HLC : Hid (colTo (looseG (gz (heldL f r))) f.ps.length = colTo (looseG fun j => heldA f r j + heldD f r j) f.ps.length) := looseG_congr fun j hj => heldL_get f r _ j hj
        have HHL : Hid ((heldL f r).length = f.ps.length) := heldL_len f r _
        have HS0 := Lib.hid hs
        clear hok
        unfold HeldV at H37
        unfold LooseV at H38
        rw [hs] at HRC
        clear hs
        have HLE : Hid (∀ k, (colTo (looseG (gz (heldL f r))) k).length ≤ k) := fun k => colTo_len (fun j => by unfold looseG; split <;> simp) k
        have HGG : Hid (∀ j, looseG (gz (heldL f r)) j = if gz (heldL f r) j = 0 then [(j : Int)] else []) := fun j => rfl
        generalize looseG (gz (heldL f r)) = lg at *
        generalize (colTo (looseG fun j => heldA f r j + heldD f r j) f.ps.length) = ll at *
        generalize heldL f r = hl at *
        generalize (checkR f r).1 = cr1 at *
        go_wp2_with fail
        have HCF := Lib.hid (copyF_at f A b off c W3.heap.size W3 HL.out.fr.la HL.out.fr.ps (by omega))
        have HCR := Lib.hid (copyR_at r A1 A2 A3 b1 o1 b2 o2 b3 o3 c1 c2 c3 W3.heap.size W3 HL.out.fr.rr (by omega) (by omega) (by omega))
        have HK : Hid (∀ W, Below W3.heap.size W3 W → (W.cell? ⟨w.heap.size, 0, none⟩ = some (.int .i64 f.W) ∧ W.cell? ⟨w.heap.size, 1, none⟩ = some (.int .i64 f.H) ∧ W.cell? ⟨w.heap.size, 2, none⟩ = some (.slice A f.ps.length c) ∧ W.cell? ⟨w.heap.size + 1, 0, none⟩ = some (.slice A1 r.ws.length c1) ∧ W.cell? ⟨w.heap.size + 1, 1, none⟩ = some (.slice A2 r.hs.length c2) ∧ W.cell? ⟨w.heap.size + 1, 2, none⟩ = some (.slice A3 r.ts.length c3))) := fun W hW => (HL.out.step hW).cells
        have h0 : Below W3.heap.size W3 W3.drew := (Below.refl _ _).drew
        have H0 := Lib.hid h0
        have hS0 := HK.out W3.drew h0
        clear h0 a0 a1 a2 d0 d1 d2
        go_region_held3 (fun W => (W.cell? ⟨w.heap.size, 0, none⟩ = some (.int .i64 f.W) ∧ W.cell? ⟨w.heap.size, 1, none⟩ = some (.int .i64 f.H) ∧ W.cell? ⟨w.heap.size, 2, none⟩ = some (.slice A f.ps.length c) ∧ W.cell? ⟨w.heap.size + 1, 0, none⟩ = some (.slice A1 r.ws.length c1) ∧ W.cell? ⟨w.heap.size + 1, 1, none⟩ = some (.slice A2 r.hs.length c2) ∧ W.cell? ⟨w.heap.size + 1, 2, none⟩ = some (.slice A3 r.ts.length c3)))
          (first
            | exact hS0
            | exact HK.out _ hb6
            | exact HK.out _ hb5
            | exact HK.out _ hb4
            | go_keep)
          (first
            | (go_at_call 28; (with_reducible refine (HCF.out _ H0.out (Nat.le_refl _)).mono ?_); rintro e w4 ⟨vf, rfl, hf4, hb4'⟩; have hb4 : Below W3.heap.size W3 w4 := H0.out.trans hb4')
            | (go_at_call 29; (with_reducible refine (HCR.out _ hb4 hb4.size).mono ?_); rintro e w5 ⟨vr, rfl, hr5, hb5'⟩; have hb5 : Below W3.heap.size W3 w5 := hb4.trans (hb5'.mono hb4.size))
            | (go_at_call 37; (with_reducible refine (H37.out w5 vf vr (hf4.below hb5') hr5).mono ?_); rintro e W4 ⟨vh, rfl, hvh, hb6'⟩; have hb6 : Below W3.heap.size W3 W4 := hb5.trans (hb6'.mono hb5.size)))
        have HLn := Lib.hid (HL.out.step hb6)
        have HX6 := Lib.hid hb6
        have HVH := Lib.hid hvh
        clear hvh
        clear HL HCF HCR HK H0 hS0 hb4 hb5 hb4' hb5' hb6 hb6' hf4 hr5
        have HL := Lib.hid HLn.out
        clear HLn
        obtain ⟨a0, a1, a2, d0, d1, d2⟩ := HL.out.cells

        go_wp2_with fail

        have HCF := Lib.hid (copyF_at f A b off c W4.heap.size W4 HL.out.fr.la HL.out.fr.ps (by omega))
        have HCR := Lib.hid (copyR_at r A1 A2 A3 b1 o1 b2 o2 b3 o3 c1 c2 c3 W4.heap.size W4 HL.out.fr.rr (by omega) (by omega) (by omega))
        have HK : Hid (∀ W, Below W4.heap.size W4 W → (W.cell? ⟨w.heap.size, 0, none⟩ = some (.int .i64 f.W) ∧ W.cell? ⟨w.heap.size, 1, none⟩ = some (.int .i64 f.H) ∧ W.cell? ⟨w.heap.size, 2, none⟩ = some (.slice A f.ps.length c) ∧ W.cell? ⟨w.heap.size + 1, 0, none⟩ = some (.slice A1 r.ws.length c1) ∧ W.cell? ⟨w.heap.size + 1, 1, none⟩ = some (.slice A2 r.hs.length c2) ∧ W.cell? ⟨w.heap.size + 1, 2, none⟩ = some (.slice A3 r.ts.length c3))) := fun W hW => (HL.out.step hW).cells
        have h0 : Below W4.heap.size W4 W4.drew := (Below.refl _ _).drew
        have H0 := Lib.hid h0
        have hS0 := HK.out W4.drew h0
        clear h0 a0 a1 a2 d0 d1 d2
        go_region_held3 (fun W => (W.cell? ⟨w.heap.size, 0, none⟩ = some (.int .i64 f.W) ∧ W.cell? ⟨w.heap.size, 1, none⟩ = some (.int .i64 f.H) ∧ W.cell? ⟨w.heap.size, 2, none⟩ = some (.slice A f.ps.length c) ∧ W.cell? ⟨w.heap.size + 1, 0, none⟩ = some (.slice A1 r.ws.length c1) ∧ W.cell? ⟨w.heap.size + 1, 1, none⟩ = some (.slice A2 r.hs.length c2) ∧ W.cell? ⟨w.heap.size + 1, 2, none⟩ = some (.slice A3 r.ts.length c3)))
          (first
            | exact hS0
            | exact HK.out _ hb6
            | exact HK.out _ hb5
            | exact HK.out _ hb4
            | go_keep)
          (first
            | (go_at_call 28; (with_reducible refine (HCF.out _ H0.out (Nat.le_refl _)).mono ?_); rintro e w4 ⟨vf, rfl, hf4, hb4'⟩; have hb4 : Below W4.heap.size W4 w4 := H0.out.trans hb4')
            | (go_at_call 29; (with_reducible refine (HCR.out _ hb4 hb4.size).mono ?_); rintro e w5 ⟨vr, rfl, hr5, hb5'⟩; have hb5 : Below W4.heap.size W4 w5 := hb4.trans (hb5'.mono hb4.size))
            | (go_at_call 38; (with_reducible refine (H38.out w5 vf vr (hf4.below hb5') hr5).mono ?_); rintro e W5 ⟨vk, rfl, hvk, hb6'⟩; have hb6 : Below W4.heap.size W4 W5 := hb5.trans (hb6'.mono hb5.size)))
        have HLn := Lib.hid (HL.out.step hb6)
        have HX6 := Lib.hid hb6
        have HVH5 := Lib.hid (HVH.out.below HX6.out)
        have HVK := Lib.hid hvk
        clear hvk HVH
        clear HL HCF HCR HK H0 hS0 hb4 hb5 hb4' hb5' hb6 hb6' hf4 hr5
        have HL := Lib.hid HLn.out
        clear HLn
        obtain ⟨a0, a1, a2, d0, d1, d2⟩ := HL.out.cells

        go_wp2_with fail
        refine (HRC.out W5 HL.out).mono ?_
        rintro e W6 ⟨rfl, e1⟩
        have HL6 := Lib.hid (HL.out.step e1)
        have HVH6 := Lib.hid (HVH5.out.below e1)
        have HVK6 := Lib.hid (HVK.out.below e1)
        clear HL e1 HVH5 HVK a0 a1 a2 d0 d1 d2
        obtain ⟨a0, a1, a2, d0, d1, d2⟩ := HL6.out.cells
        go_wp2_with fail
        refine (HHD.out W6 HL6.out).mono ?_
        rintro e W7 ⟨vw, rfl, hvw, e1⟩
        have HB7 := Lib.hid ((HL6.out.step e1).B)
        have HVH7 := Lib.hid (HVH6.out.below e1)
        have HVK7 := Lib.hid (HVK6.out.below e1)
        have HVW7 := Lib.hid hvw
        obtain ⟨Aw, bw, cw, rfl, lw, zw, kw, mw⟩ := hvw
        have HLW := Lib.hid lw
        have HZW := Lib.hid zw
        rw [HHL.out]
        have HW7s := HB7.out.size
        clear HL6 e1 HVH6 HVK6 lw zw kw mw a0 a1 a2 d0 d1 d2
        go_wp2_with fail
        have hn60 := hlen
        generalize f.ps.length = n at *
        go_loopg [12, 13] n (fun gg s12 s13 wr => ∃ k : Nat, k ≤ n ∧ n - k ≤ gg ∧ s13 = .int .i64 k ∧ Hid (wr.ownsRow W7.heap.size 3 1 s12 (colTo lg k).length ((colTo lg k).map (Value.int .i64))) ∧ Hid (Below W7.heap.size W7 wr))
        case atStart => exact ⟨0, Nat.zero_le _, by omega, rfl, World.ownsRow_nil _ _ _ _, Below.refl _ _⟩
        case round =>
          obtain ⟨k, hk, hgk, rfl, R, BW⟩ := hrel
          have hsz := BW.out.size
          by_cases hlt : k < n
          · have hltz : (k : Int) < (n : Int) := by omega
            have hk0 : (0 : Int) ≤ (k : Int) := by omega
            obtain ⟨rfl, hbw⟩ := HLW.out (by rw [HHL.out]; omega)
            have r1 := (BW.out.cell (p := ⟨bw, 0 + k, none⟩) hbw).trans (HZW.out k (by rw [HHL.out]; exact hlt))
            rw [Nat.zero_add] at r1
            have HG1 := Lib.hid (HGG.out k)
            have HSN : Hid (colTo lg (k + 1) = colTo lg k ++ lg k) := rfl
            have hle := HLE.out k
            have HLK := Lib.hid hle
            clear hle
            generalize gz hl k = v at *
            by_cases hv : v = 0
            · have hvb : (v == 0) = true := by simp [hv]
              have HV := Lib.hid hv
              clear hv
              go_wp2_with ((at_builtin
                            refine wpList_append_lies _ rfl (.tmp 78) (.tmp 80) 23 (by rfl) W7.heap.size 3 inf _ 1 8 Try.underlying23 hInf hInf0 hInf1 hInf2 rfl (by omega) _ (colTo lg k).length _ (by rfl) (R.out.alloc _) ⟨wr.heap.size, 0, none⟩ 1 1 [.int .i64 k] (by rfl) (by rfl) (World.news_of_block (cs := #[.int .i64 k]) (t := 3) (fr := (0, 0)) (heap_alloc_new wr _)) (by simp [Value.oneCell']) (by omega) (by have := HLK.out; simp only [maxLen]; omega) (by have := HLK.out; omega) (by simp; omega) (wr.heap.size + 1) (by simp) ?_
                            intro g1 cap1 w8 hown hgrow hat hlt8
                            have HO8 := Lib.hid hown
                            have HG8 := Lib.hid hgrow
                            clear hown hgrow hat))
              go_roundg (n - (k + 1))
              case measure => omega
              case rel =>
                refine ⟨k + 1, by omega, by omega, by go_num, ?_, ?_⟩
                · show World.ownsRow _ _ _ _ _ _ _
                  have := HO8.out
                  rw [HSN.out, HG1.out, if_pos HV.out, List.map_append, List.length_append]
                  exact this
                · show Below _ _ _
                  exact (BW.out.alloc (by omega) _).grown HG8.out (by simp; omega) (fun t ht => (R.out.lt t ht).1)
            · have hvb : (v == 0) = false := by simp [hv]
              have HV := Lib.hid hv
              clear hv
              go_wp2_with fail
              go_roundg (n - (k + 1))
              case measure => omega
              case rel =>
                refine ⟨k + 1, by omega, by omega, by go_num, ?_, BW.out⟩
                show World.ownsRow _ _ _ _ _ _ _
                rw [HSN.out, HG1.out, if_neg HV.out, List.append_nil]
                exact R.out
          · have hltz : ¬ (k : Int) < (n : Int) := by omega
            have he : k = n := by omega
            subst he
            have HVL := Lib.hid (ints_v R.out)
            have HVH8 := Lib.hid (HVH7.out.below BW.out)
            have HVK8 := Lib.hid (HVK7.out.below BW.out)
            have HVW8 := Lib.hid (HVW7.out.below BW.out)
            rw [HHL.out] at HVW8
            have HB8 := Lib.hid (HB7.out.trans (BW.out.mono HW7s))
            rw [HLC.out] at HVL
            clear R BW HVH7 HVK7 HVW7 HLW HZW HB7
            go_wp2_with fail
            refine (intsV_any hl hl vh _ wr HVH8.out HVW8.out).mono ?_
            rintro e W9 ⟨rfl, e1⟩
            have HB9 := Lib.hid (HB8.out.trans (e1.mono HB8.out.size))
            have HVK9 := Lib.hid (HVK8.out.below e1)
            have HVL9 := Lib.hid (HVL.out.below e1)
            rw [decide_eq_true (rfl : hl = hl)]
            clear e1 HVK8 HVL HVH8 HVW8 HB8
            go_wp2_with fail
            refine (intsV_any ll ll vk _ W9 HVK9.out HVL9.out).mono ?_
            rintro e W10 ⟨rfl, e1⟩
            have HB10 := Lib.hid (HB9.out.trans (e1.mono HB9.out.size))
            rw [decide_eq_true (rfl : ll = ll)]
            clear e1
            go_wp2_with fail
            go_ret
            exact ⟨rfl, HB10.out⟩

      · have H37 : Hid (AtCopies 37 f r (HeldNo (checkR f r).2)) := fun W vf vr hf hr => (held_at f r HNM.out (by omega) W vf vr hf hr).mono fun _ _ h => h.no hs
        have H38 : Hid (AtCopies 38 f r (HeldNo (checkR f r).2)) := looseN_at f r HNM.out (by omega) hs
        unfold HeldNo at H37 H38
        have hs' := bne_t hs
        clear hs
        generalize checkR f r = cr at *
        go_wp2_with fail
        have HCF := Lib.hid (copyF_at f A b off c W3.heap.size W3 HL.out.fr.la HL.out.fr.ps (by omega))
        have HCR := Lib.hid (copyR_at r A1 A2 A3 b1 o1 b2 o2 b3 o3 c1 c2 c3 W3.heap.size W3 HL.out.fr.rr (by omega) (by omega) (by omega))
        have HK : Hid (∀ W, Below W3.heap.size W3 W → (W.cell? ⟨w.heap.size, 0, none⟩ = some (.int .i64 f.W) ∧ W.cell? ⟨w.heap.size, 1, none⟩ = some (.int .i64 f.H) ∧ W.cell? ⟨w.heap.size, 2, none⟩ = some (.slice A f.ps.length c) ∧ W.cell? ⟨w.heap.size + 1, 0, none⟩ = some (.slice A1 r.ws.length c1) ∧ W.cell? ⟨w.heap.size + 1, 1, none⟩ = some (.slice A2 r.hs.length c2) ∧ W.cell? ⟨w.heap.size + 1, 2, none⟩ = some (.slice A3 r.ts.length c3))) := fun W hW => (HL.out.step hW).cells
        have h0 : Below W3.heap.size W3 W3.drew := (Below.refl _ _).drew
        have H0 := Lib.hid h0
        have hS0 := HK.out W3.drew h0
        clear h0 a0 a1 a2 d0 d1 d2
        go_region_held3 (fun W => (W.cell? ⟨w.heap.size, 0, none⟩ = some (.int .i64 f.W) ∧ W.cell? ⟨w.heap.size, 1, none⟩ = some (.int .i64 f.H) ∧ W.cell? ⟨w.heap.size, 2, none⟩ = some (.slice A f.ps.length c) ∧ W.cell? ⟨w.heap.size + 1, 0, none⟩ = some (.slice A1 r.ws.length c1) ∧ W.cell? ⟨w.heap.size + 1, 1, none⟩ = some (.slice A2 r.hs.length c2) ∧ W.cell? ⟨w.heap.size + 1, 2, none⟩ = some (.slice A3 r.ts.length c3)))
          (first
            | exact hS0
            | exact HK.out _ hb6
            | exact HK.out _ hb5
            | exact HK.out _ hb4
            | go_keep)
          (first
            | (go_at_call 28; (with_reducible refine (HCF.out _ H0.out (Nat.le_refl _)).mono ?_); rintro e w4 ⟨vf, rfl, hf4, hb4'⟩; have hb4 : Below W3.heap.size W3 w4 := H0.out.trans hb4')
            | (go_at_call 29; (with_reducible refine (HCR.out _ hb4 hb4.size).mono ?_); rintro e w5 ⟨vr, rfl, hr5, hb5'⟩; have hb5 : Below W3.heap.size W3 w5 := hb4.trans (hb5'.mono hb4.size))
            | (go_at_call 37; (with_reducible refine (H37.out w5 vf vr (hf4.below hb5') hr5).mono ?_); rintro e W4 ⟨rfl, hb6'⟩; have hb6 : Below W3.heap.size W3 W4 := hb5.trans (hb6'.mono hb5.size)))
        have HLn := Lib.hid (HL.out.step hb6)
        have HX6 := Lib.hid hb6
        clear HL HCF HCR HK H0 hS0 hb4 hb5 hb4' hb5' hb6 hb6' hf4 hr5
        have HL := Lib.hid HLn.out
        clear HLn
        obtain ⟨a0, a1, a2, d0, d1, d2⟩ := HL.out.cells

        go_wp2_with fail

        have HCF := Lib.hid (copyF_at f A b off c W4.heap.size W4 HL.out.fr.la HL.out.fr.ps (by omega))
        have HCR := Lib.hid (copyR_at r A1 A2 A3 b1 o1 b2 o2 b3 o3 c1 c2 c3 W4.heap.size W4 HL.out.fr.rr (by omega) (by omega) (by omega))
        have HK : Hid (∀ W, Below W4.heap.size W4 W → (W.cell? ⟨w.heap.size, 0, none⟩ = some (.int .i64 f.W) ∧ W.cell? ⟨w.heap.size, 1, none⟩ = some (.int .i64 f.H) ∧ W.cell? ⟨w.heap.size, 2, none⟩ = some (.slice A f.ps.length c) ∧ W.cell? ⟨w.heap.size + 1, 0, none⟩ = some (.slice A1 r.ws.length c1) ∧ W.cell? ⟨w.heap.size + 1, 1, none⟩ = some (.slice A2 r.hs.length c2) ∧ W.cell? ⟨w.heap.size + 1, 2, none⟩ = some (.slice A3 r.ts.length c3))) := fun W hW => (HL.out.step hW).cells
        have h0 : Below W4.heap.size W4 W4.drew := (Below.refl _ _).drew
        have H0 := Lib.hid h0
        have hS0 := HK.out W4.drew h0
        clear h0 a0 a1 a2 d0 d1 d2
        go_region_held3 (fun W => (W.cell? ⟨w.heap.size, 0, none⟩ = some (.int .i64 f.W) ∧ W.cell? ⟨w.heap.size, 1, none⟩ = some (.int .i64 f.H) ∧ W.cell? ⟨w.heap.size, 2, none⟩ = some (.slice A f.ps.length c) ∧ W.cell? ⟨w.heap.size + 1, 0, none⟩ = some (.slice A1 r.ws.length c1) ∧ W.cell? ⟨w.heap.size + 1, 1, none⟩ = some (.slice A2 r.hs.length c2) ∧ W.cell? ⟨w.heap.size + 1, 2, none⟩ = some (.slice A3 r.ts.length c3)))
          (first
            | exact hS0
            | exact HK.out _ hb6
            | exact HK.out _ hb5
            | exact HK.out _ hb4
            | go_keep)
          (first
            | (go_at_call 28; (with_reducible refine (HCF.out _ H0.out (Nat.le_refl _)).mono ?_); rintro e w4 ⟨vf, rfl, hf4, hb4'⟩; have hb4 : Below W4.heap.size W4 w4 := H0.out.trans hb4')
            | (go_at_call 29; (with_reducible refine (HCR.out _ hb4 hb4.size).mono ?_); rintro e w5 ⟨vr, rfl, hr5, hb5'⟩; have hb5 : Below W4.heap.size W4 w5 := hb4.trans (hb5'.mono hb4.size))
            | (go_at_call 38; (with_reducible refine (H38.out w5 vf vr (hf4.below hb5') hr5).mono ?_); rintro e W5 ⟨rfl, hb6'⟩; have hb6 : Below W4.heap.size W4 W5 := hb5.trans (hb6'.mono hb5.size)))
        have HLn := Lib.hid (HL.out.step hb6)
        have HX6 := Lib.hid hb6
        clear HL HCF HCR HK H0 hS0 hb4 hb5 hb4' hb5' hb6 hb6' hf4 hr5
        have HL := Lib.hid HLn.out
        clear HLn
        obtain ⟨a0, a1, a2, d0, d1, d2⟩ := HL.out.cells

        go_wp2_with fail
        refine (HRC.out W5 HL.out).mono ?_
        rintro e W6 ⟨rfl, e1⟩
        have HB6 := Lib.hid ((HL.out.step e1).B)
        clear HL e1 a0 a1 a2 d0 d1 d2
        go_wp2_with fail
        go_ret
        exact ⟨rfl, HB6.out⟩
end Go.Proofs.Ytlfeoofchebbkaa
