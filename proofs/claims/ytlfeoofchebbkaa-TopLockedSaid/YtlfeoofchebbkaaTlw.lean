/- TopLocked: driven home: the walk. -/
import Derived.Test.YtlfeoofchebbkaaTlq
import Derived.Test.YtlfeoofchebbkaaHlr
namespace Go.Proofs.Ytlfeoofchebbkaa
set_option linter.unusedSimpArgs false
set_option linter.unusedVariables false
open Go.RowKit
def slkW (f : Forme) (n : Nat → Int) (k : Nat) : List Int := (List.range k).map fun i => 60 * (gp f.ps i).w - if (gp f.ps i).kind = 3 then n i else 0
def slkH (f : Forme) (n : Nat → Int) (k : Nat) : List Int := (List.range k).map fun i => 60 * (gp f.ps i).h - if (gp f.ps i).kind = 4 then n i else 0
def slkT (n : Nat → Int) (k : Nat) : List Int := (List.range k).map n
theorem slkW_snoc (f : Forme) (n : Nat → Int) (k : Nat) : slkW f n (k + 1) = slkW f n k ++ [60 * (gp f.ps k).w - if (gp f.ps k).kind = 3 then n k else 0] := by simp [slkW, List.range_succ]
theorem slkH_snoc (f : Forme) (n : Nat → Int) (k : Nat) : slkH f n (k + 1) = slkH f n k ++ [60 * (gp f.ps k).h - if (gp f.ps k).kind = 4 then n k else 0] := by simp [slkH, List.range_succ]
theorem slkT_snoc (n : Nat → Int) (k : Nat) : slkT n (k + 1) = slkT n k ++ [n k] := by simp [slkT, List.range_succ]
theorem slk_len (f : Forme) (n : Nat → Int) (k : Nat) : (slkW f n k).length = k ∧ (slkH f n k).length = k ∧ (slkT n k).length = k := by simp [slkW, slkH, slkT]
theorem slk_whole (f : Forme) (n : Nat → Int) : slack f n = { ws := slkW f n f.ps.length, hs := slkH f n f.ps.length, ts := slkT n f.ps.length } := rfl
theorem row_lies {W : World} {base : Nat} {v : Value} {l : List Int} {n : Nat} (h : W.ownsRow base 3 1 v l.length (l.map (Value.int .i64))) (hn : l.length = n) : ∃ A c b, v = .slice A n c ∧ Lies A n W.heap.size b 0 ∧ ZsAt W b 0 l ∧ n ≤ c := by
  obtain ⟨A, b, c, rfl, h1, h2, h3, -⟩ := ints_own h
  subst hn
  exact ⟨A, c, b, rfl, h2, h3, h1⟩
theorem Tri.real {W : World} {base n : Nat} {v1 v2 v3 : Value} {l1 l2 l3 : List Int} (h : Tri W base v1 v2 v3 l1 l2 l3) (e1 : l1.length = n) (e2 : l2.length = n) (e3 : l3.length = n) : ∃ A1 A2 A3 c1 c2 c3, v1 = .slice A1 n c1 ∧ v2 = .slice A2 n c2 ∧ v3 = .slice A3 n c3 ∧ RealAt W { ws := l1, hs := l2, ts := l3 } (.agg #[.slice A1 n c1, .slice A2 n c2, .slice A3 n c3]) := by
  obtain ⟨A1, c1, b1, q1, k1, z1, m1⟩ := row_lies h.r1 e1
  obtain ⟨A2, c2, b2, q2, k2, z2, m2⟩ := row_lies h.r2 e2
  obtain ⟨A3, c3, b3, q3, k3, z3, m3⟩ := row_lies h.r3 e3
  exact ⟨A1, A2, A3, c1, c2, c3, q1, q2, q3, A1, A2, A3, c1, c2, c3, b1, b2, b3, by rw [e1, e2, e3], ⟨by rw [e1]; exact k1, by rw [e2]; exact k2, by rw [e3]; exact k3, z1, z2, z3⟩, by rw [e1]; exact m1, by rw [e2]; exact m2, by rw [e3]; exact m3⟩
/-- The travel of a piece. -/
def trv (f : Forme) (zs : List Int) (k : Nat) : Int :=
  if k < zs.length then (if (gp f.ps k).kind = 3 then gz zs k % min (60 * (gp f.ps k).w) 6000 else if (gp f.ps k).kind = 4 then gz zs k % min (60 * (gp f.ps k).h) 6000 else 0) else 0
theorem mod_in {z m : Int} (h : 1 ≤ m) : 0 ≤ z % min m 6000 ∧ z % min m 6000 < m ∧ z % min m 6000 ≤ 6000 := by
  have h1 := Int.emod_nonneg z (show min m 6000 ≠ 0 by omega)
  have h2 := Int.emod_lt_of_pos z (show 0 < min m 6000 by omega)
  omega
theorem trv_slk {f : Forme} (hf : f.Laid) (zs : List Int) : Slk f (trv f zs) := by
  have hw : ∀ i, i < f.ps.length → 1 ≤ 60 * (gp f.ps i).w ∧ 1 ≤ 60 * (gp f.ps i).h := fun i hi => by
    have := hf.inn _ (piece_mem hi)
    exact ⟨by have := this.1; omega, by have := this.2.1; omega⟩
  refine ⟨fun i hi => ?_, fun i hi => ?_, fun i hi h3 h4 => ?_, fun i hi h3 => ?_, fun i hi h4 => ?_⟩
  · have m1 := mod_in (z := gz zs i) (hw i hi).1
    have m2 := mod_in (z := gz zs i) (hw i hi).2
    unfold trv
    split
    · split
      · exact m1.1
      · split
        · exact m2.1
        · exact Int.le_refl _
    · exact Int.le_refl _
  · have m1 := mod_in (z := gz zs i) (hw i hi).1
    have m2 := mod_in (z := gz zs i) (hw i hi).2
    unfold trv
    split
    · split
      · exact m1.2.2
      · split
        · exact m2.2.2
        · omega
    · omega
  · unfold trv
    split
    · first | rfl | (rw [if_neg h3, if_neg h4])
    · rfl
  · have m1 := mod_in (z := gz zs i) (hw i hi).1
    have := (hw i hi).1
    unfold trv
    split
    · first | exact m1.2.1 | (rw [if_pos h3]; exact m1.2.1)
    · omega
  · have m2 := mod_in (z := gz zs i) (hw i hi).2
    have := (hw i hi).2
    unfold trv
    split
    · first | exact m2.2.1 | (rw [if_neg (by omega)]; exact m2.2.1) | (rw [if_neg (by omega), if_pos h4]; exact m2.2.1)
    · omega
set_option maxRecDepth 100000 in
set_option maxHeartbeats 8000000 in
theorem topLocked_any (f : Forme) (zs : List Int) (A As : Option Addr) (b off c bs os cs : Nat) (w : World) (hA : Lies A f.ps.length w.heap.size b off) (hps : PsAt w b off f.ps) (hc : f.ps.length ≤ c) (hm : c ≤ maxLen) (hAs : Lies As zs.length w.heap.size bs os) (hzs : ZsAt w bs os zs) (hcs : zs.length ≤ cs) (hms : cs ≤ maxLen) :
    Calls Try.prog 16 #[.agg #[.int .i64 f.W, .int .i64 f.H, .slice A f.ps.length c], .slice As zs.length cs] w fun e w' => e = .returned (.bool true) ∧ Below w.heap.size w w' := by
  unfold maxLen at hm hms
  obtain ⟨inf, hInf, hInf0, hInf1, hInf2⟩ := info_parts Try.info3
  have hB := below_new w (Obj.cells #[Value.int IntKind.i64 f.W, Value.int IntKind.i64 f.H, Value.slice A f.ps.length c] 37)
  have HL0 : Hid (LT w (w.alloc (Obj.cells #[Value.int IntKind.i64 f.W, Value.int IntKind.i64 f.H, Value.slice A f.ps.length c] 37)) f A b off c) := ⟨hB, Blk.new w 37 _, hA, fun j hj => (hps j hj).below hB (hA (by omega)).2⟩
  have HAs := Lib.hid hAs
  have HZs : Hid (∀ W, Below w.heap.size w W → ZsAt W bs os zs) := (show ∀ W, _ from fun W hW j hj => (hzs.below hW (hAs (by omega)).2) j hj)
  clear hA hps hAs hzs hB
  go_enter Try.func16, Try.ntmps16
  go_wp2_with fail
  generalize w.alloc (Obj.cells #[Value.int IntKind.i64 f.W, Value.int IntKind.i64 f.H, Value.slice A f.ps.length c] 37) = W0 at *
  refine (locked74_any _).mono ?_
  rintro e W1 ⟨rfl, e1⟩
  have HL := Lib.hid (HL0.out.step e1)
  clear HL0 e1
  have a0 := HL.out.F.cell 0
  have a1 := HL.out.F.cell 1
  have a2 := HL.out.F.cell 2
  go_wp2_with fail
  refine (light_any f A b off c W1 HL.out.l HL.out.ps (by omega)).mono ?_
  rintro e W2 ⟨rfl, e1⟩
  have HL2 := Lib.hid (HL.out.step e1)
  clear HL e1 a0 a1 a2
  have a0 := HL2.out.F.cell 0
  have a1 := HL2.out.F.cell 1
  have a2 := HL2.out.F.cell 2
  have HLT := Lib.hid (fun h => lightB_t (f := f) h)
  generalize lightB f = lb at *
  cases lb with
  | false =>
    go_wp2_with fail
    go_ret
    exact ⟨rfl, HL2.out.B⟩
  | true =>
    obtain ⟨hnm, hlen⟩ := HLT.out rfl
    have HNM := Lib.hid hnm
    clear hnm HLT
    by_cases h12 : 12 < f.ps.length
    · have h12z : (12 : Int) < (f.ps.length : Int) := by omega
      go_wp2_with fail
      go_ret
      exact ⟨rfl, HL2.out.B⟩
    · have h12z : ¬ (12 : Int) < (f.ps.length : Int) := by omega
      by_cases h20 : 20 < zs.length
      · have h20z : (20 : Int) < (zs.length : Int) := by omega
        go_wp2_with fail
        go_ret
        exact ⟨rfl, HL2.out.B⟩
      · have h20z : ¬ (20 : Int) < (zs.length : Int) := by omega
        go_wp2_with fail
        refine (refForme_any f A b off c _ HL2.out.l HL2.out.ps HNM.out hc (by omega)).mono ?_
        rintro e W3 ⟨rfl, e1⟩
        have HL := Lib.hid (HL2.out.step e1)
        clear HL2 e1 a0 a1 a2
        have a0 := HL.out.F.cell 0
        have a1 := HL.out.F.cell 1
        have a2 := HL.out.F.cell 2
        by_cases hce : (checkF f).2 = 0
        · have hR := checkF_zero hce
          rw [hce]
          have HCE := Lib.hid hce
          have HRT := Lib.hid hR
          clear hce hR
          generalize (checkF f).1 = cf1 at *
          go_wp2_with fail
          refine (isFull_any f A b off c _ HL.out.l HL.out.ps HRT.out.toLaid hc (by omega)).mono ?_
          rintro e W4 ⟨rfl, e1⟩
          have HL4 := Lib.hid (HL.out.step e1)
          clear HL e1 a0 a1 a2
          have a0 := HL4.out.F.cell 0
          have a1 := HL4.out.F.cell 1
          have a2 := HL4.out.F.cell 2
          by_cases hfu : f.W * f.H - areas f.ps = 0
          · have hfb : (f.W * f.H - areas f.ps == 0) = true := by simp [hfu]
            rw [hfb]
            have HFU : Hid (areas f.ps = f.W * f.H) := (show _ = _ by omega)
            clear hfu hfb
            have hj1 := below_new W4 (Obj.cells #[.slice none 0 0, .slice none 0 0, .slice none 0 0] 39)
            have hj2 := below_new (W4.alloc (Obj.cells #[.slice none 0 0, .slice none 0 0, .slice none 0 0] 39)) (Obj.cells #[.slice none 0 0, .slice none 0 0, .slice none 0 0] 39)
            have HLB0 : Hid (LB w ((W4.alloc (Obj.cells #[.slice none 0 0, .slice none 0 0, .slice none 0 0] 39)).alloc (Obj.cells #[.slice none 0 0, .slice none 0 0, .slice none 0 0] 39)) f A b off c W4.heap.size (W4.heap.size + 2) (.slice none 0 0) (.slice none 0 0) (.slice none 0 0) (.slice none 0 0) (.slice none 0 0) (.slice none 0 0) [] [] [] [] [] []) := by
              have hwz := HL4.out.F.lt
              refine ⟨(HL4.out.step hj1).step hj2, (Blk.new W4 39 _).below hj2 (by simp), ?_, hwz, rfl, by simp, ⟨World.ownsRow_nil _ _ _ _, World.ownsRow_nil _ _ _ _, World.ownsRow_nil _ _ _ _, .inl rfl, .inl rfl, .inl rfl⟩, ⟨World.ownsRow_nil _ _ _ _, World.ownsRow_nil _ _ _ _, World.ownsRow_nil _ _ _ _, .inl rfl, .inl rfl, .inl rfl⟩, fun g hg => ?_⟩
              · have := Blk.new (W4.alloc (Obj.cells #[.slice none 0 0, .slice none 0 0, .slice none 0 0] 39)) 39 #[.slice none 0 0, .slice none 0 0, .slice none 0 0]
                rwa [World.size_alloc] at this
              · rcases hg with e | e | e <;> cases e
            clear hj1 hj2
            go_wp2_with fail
            clear a0 a1 a2
            generalize (W4.alloc (Obj.cells #[.slice none 0 0, .slice none 0 0, .slice none 0 0] 39)).alloc (Obj.cells #[.slice none 0 0, .slice none 0 0, .slice none 0 0] 39) = W5 at *
            generalize hjb : W4.heap.size = jb at *
            clear hjb HL4
            go_loopg [9] f.ps.length (fun gg s9 wr => ∃ k : Nat, k ≤ f.ps.length ∧ f.ps.length - k ≤ gg ∧ s9 = .int .i64 k ∧ Hid (∃ J1 J2 J3 U1 U2 U3, LB w wr f A b off c jb (jb + 2) J1 J2 J3 U1 U2 U3 (slkW f (fun _ => 0) k) (slkH f (fun _ => 0) k) (slkT (fun _ => 0) k) (slkW f (trv f zs) k) (slkH f (trv f zs) k) (slkT (trv f zs) k)))
            case atStart => exact ⟨0, Nat.zero_le _, by omega, rfl, _, _, _, _, _, _, HLB0.out⟩
            case round =>
              obtain ⟨k, hk, hg, rfl, HEX⟩ := hrel
              obtain ⟨J1, J2, J3, U1, U2, U3, hlb⟩ := HEX.out
              clear HEX
              by_cases hlt : k < f.ps.length
              · have hltz : (k : Int) < (f.ps.length : Int) := by omega
                have hk0 : (0 : Int) ≤ (k : Int) := by omega
                have a0 := hlb.lt.F.cell 0
                have a1 := hlb.lt.F.cell 1
                have a2 := hlb.lt.F.cell 2
                obtain ⟨rfl, hbw⟩ := hlb.lt.l (by omega)
                obtain ⟨p0, p1, p2, p3, p4, p5⟩ := hlb.lt.ps k hlt
                have hin := HRT.out.inn _ (piece_mem hlt)
                have hWs := HRT.out.w2
                have hHs := HRT.out.h2
                have HLB := Lib.hid hlb
                have HSW := Lib.hid (fun n => slkW_snoc f n k)
                have HSH := Lib.hid (fun n => slkH_snoc f n k)
                have HTV : Hid (trv f zs k = if k < zs.length then (if (gp f.ps k).kind = 3 then gz zs k % min (60 * (gp f.ps k).w) 6000 else if (gp f.ps k).kind = 4 then gz zs k % min (60 * (gp f.ps k).h) 6000 else 0) else 0) := rfl
                obtain ⟨l1, l2, l3⟩ := slk_len f (fun _ => 0) k
                obtain ⟨l4, l5, l6⟩ := slk_len f (trv f zs) k
                generalize gp f.ps k = p at *
                obtain ⟨i1, i2, i3, i4, i5, i6⟩ := hin
                have e1 : IntKind.i64.wrap (60 * p.w) = 60 * p.w := IntWalk.i64_in _ (by omega)
                have e2 : IntKind.i64.wrap (60 * p.h) = 60 * p.h := IntWalk.i64_in _ (by omega)
                clear l1 l2 l3 l4 l5 l6
                go_wp2_with fail
                have hbn := below_new wr (Obj.cells (pcs p) 70)
                have HLB1 := Lib.hid (HLB.out.step hbn)
                have HBP : Hid (Blk (wr.alloc (Obj.cells (pcs p) 70)) wr.heap.size 70 (pcs p)) := Blk.new wr 70 _
                have q1 : (wr.alloc (Obj.cells (pcs p) 70)).cell? ⟨wr.heap.size, 1, none⟩ = some (.int .i64 p.kind) := HBP.out.cell 1
                have q4 : (wr.alloc (Obj.cells (pcs p) 70)).cell? ⟨wr.heap.size, 4, none⟩ = some (.int .i64 p.w) := HBP.out.cell 4
                have q5 : (wr.alloc (Obj.cells (pcs p) 70)).cell? ⟨wr.heap.size, 5, none⟩ = some (.int .i64 p.h) := HBP.out.cell 5
                have HNB : Hid (∀ g, Has J1 J2 J3 g ∨ Has U1 U2 U3 g → g < wr.heap.size) := (show ∀ g, _ from fun g hg => by
                  rcases hg with hg | hg
                  · exact (HLB.out.tj.lt hg).2
                  · exact (HLB.out.tu.lt hg).2)
                have HJP : Hid (jb + 2 ≤ wr.heap.size) := HLB.out.hz
                clear a0 a1 a2 p0 p1 p2 p3 p4 p5 hlb hbn HLB
                generalize wr.alloc (Obj.cells (pcs p) 70) = Wp at *
                generalize hpb : wr.heap.size = pb at *
                clear hpb
                go_quiet (fail)
                have hbd : Below Wp.heap.size Wp (Wp.drewN nq) := below_drewN (Below.refl _ _) _
                have HLB2 := Lib.hid (HLB1.out.step hbd)
                have HBP2 := Lib.hid (HBP.out.below hbd HBP.out.lt)
                clear q1 q4 q5 HLB1 HBP hbd
                generalize Wp.drewN nq = Wq at *
                go_wp2_with fail
                have HBX : Hid (Blk Wq.drew jb 39 #[J1, J2, J3]) := HLB2.out.bj
                have HBS : Hid (jb + 2 ≤ Wq.drew.heap.size) := HLB2.out.hz
                have HTR := Lib.hid ((HLB2.out.tj.drew).t3 (x1 := 60 * p.w) (x2 := 60 * p.h) (x3 := 0))
                have hS0 : (Wq.drew.cell? ⟨jb, 0, none⟩ = some J1 ∧ Wq.drew.cell? ⟨jb, 1, none⟩ = some J2 ∧ Wq.drew.cell? ⟨jb, 2, none⟩ = some J3) := ⟨HBX.out.cell 0, HBX.out.cell 1, HBX.out.cell 2⟩
                refine wp_region_split (fun W => (W.cell? ⟨jb, 0, none⟩ = some J1 ∧ W.cell? ⟨jb, 1, none⟩ = some J2 ∧ W.cell? ⟨jb, 2, none⟩ = some J3)) 15 (by kernel_rfl) (by decide) ?_
                refine wpG_take 15 0 (v := ?_) rfl (by kernel_rfl) (fun _ _ _ h => h) (Or.inl ⟨by rfl, ?_⟩) (by assumption) ?_
                rotate_left
                · intro w hSw; (try dsimp only at hSw); go_simp; (try with_reducible rfl)
                (try simp only [Act.put, List.getElem_toArray, List.getElem_cons_zero, List.getElem_cons_succ, List.setIfInBounds_toArray, List.set_cons_zero, List.set_cons_succ])
                refine wpG_take 15 1 (v := ?_) rfl (by kernel_rfl) (fun _ _ _ h => h) (Or.inl ⟨by rfl, ?_⟩) (by assumption) ?_
                rotate_left
                · intro w hSw; (try dsimp only at hSw); go_simp; (try with_reducible rfl)
                (try simp only [Act.put, List.getElem_toArray, List.getElem_cons_zero, List.getElem_cons_succ, List.setIfInBounds_toArray, List.set_cons_zero, List.set_cons_succ])
                refine wpG_take 15 2 (v := ?_) rfl (by kernel_rfl) (fun _ _ _ h => h) (Or.inl ⟨by rfl, ?_⟩) (by assumption) ?_
                rotate_left
                · intro w hSw; (try dsimp only at hSw); go_simp; (try with_reducible rfl)
                (try simp only [Act.put, List.getElem_toArray, List.getElem_cons_zero, List.getElem_cons_succ, List.setIfInBounds_toArray, List.set_cons_zero, List.set_cons_succ])
                refine wpG_take 15 5 (v := ?_) rfl (by kernel_rfl) (fun _ _ _ h => h) (Or.inl ⟨by rfl, ?_⟩) (by assumption) ?_
                rotate_left
                · intro w hSw; (try dsimp only at hSw); go_simp; (try with_reducible rfl)
                (try simp only [Act.put, List.getElem_toArray, List.getElem_cons_zero, List.getElem_cons_succ, List.setIfInBounds_toArray, List.set_cons_zero, List.set_cons_succ])
                refine wpG_take 15 6 (v := ?_) rfl (by kernel_rfl) (fun _ _ _ h => h) (Or.inl ⟨by rfl, ?_⟩) (by assumption) ?_
                rotate_left
                · intro w hSw; (try dsimp only at hSw); go_simp; (try with_reducible rfl)
                (try simp only [Act.put, List.getElem_toArray, List.getElem_cons_zero, List.getElem_cons_succ, List.setIfInBounds_toArray, List.set_cons_zero, List.set_cons_succ])
                refine wpG_take 15 7 (v := ?_) rfl (by kernel_rfl) (fun _ _ _ h => h) (Or.inl ⟨by rfl, ?_⟩) (by assumption) ?_
                rotate_left
                · intro w hSw; (try dsimp only at hSw); go_simp; (try with_reducible rfl)
                (try simp only [Act.put, List.getElem_toArray, List.getElem_cons_zero, List.getElem_cons_succ, List.setIfInBounds_toArray, List.set_cons_zero, List.set_cons_succ])
                refine wpG_take 15 10 (v := ?_) rfl (by kernel_rfl) (fun _ _ _ h => h) (Or.inl ⟨by rfl, ?_⟩) (by assumption) ?_
                rotate_left
                · intro w hSw; (try dsimp only at hSw); go_simp; (try with_reducible rfl)
                (try simp only [Act.put, List.getElem_toArray, List.getElem_cons_zero, List.getElem_cons_succ, List.setIfInBounds_toArray, List.set_cons_zero, List.set_cons_succ])
                refine wpG_take 15 11 (v := ?_) rfl (by kernel_rfl) (fun _ _ _ h => h) (Or.inl ⟨by rfl, ?_⟩) (by assumption) ?_
                rotate_left
                · intro w hSw; (try dsimp only at hSw); go_simp; (try with_reducible rfl)
                (try simp only [Act.put, List.getElem_toArray, List.getElem_cons_zero, List.getElem_cons_succ, List.setIfInBounds_toArray, List.set_cons_zero, List.set_cons_succ])
                refine wpG_abs ?_
                intro a0 ha0
                have ee1 : a0.eval (.tmp 68) = J1 := by rw [ha0]; rfl
                have ee2 : a0.eval (.tmp 73) = J2 := by rw [ha0]; rfl
                have ee3 : a0.eval (.tmp 78) = J3 := by rw [ha0]; rfl
                have yy1 : a0.eval (.tmp 69) = .int .i64 (60 * p.w) := by rw [ha0]; rfl
                have yy2 : a0.eval (.tmp 74) = .int .i64 (60 * p.h) := by rw [ha0]; rfl
                have ee7 : a0.eval (.tmp 7) = .pointer (some ⟨jb, 0, none⟩) := by rw [ha0]; rfl
                have hsz : 81 < a0.tmps.size := by rw [ha0]; exact (by decide : (81 : Nat) < 201)
                refine app3A (n := 15) a0 Wq.drew (jb + 2) J1 J2 J3 (.pointer (some ⟨jb, 0, none⟩)) (.pointer (some ⟨jb, 0, none⟩)) (slkW f (fun _ => 0) k) (slkH f (fun _ => 0) k) (slkT (fun _ => 0) k) (60 * p.w) (60 * p.h) (0) _ (fun ls => splitB .any _ 15 && headB .any _ 15 ls && Region.free .any _ ls 14 && (Region.ready .any _ ls).contains 14 && decide (14 < 15)) ?hS HBS.out ?n1 ?n2 ?n3 hsz ee1 yy1 ee2 yy2 ee3 ee7
                  (fun a W K hy hK => by refine wpOp_step rfl (fun K' hK' => ?_); rw [if_pos (by simp [Region.wanted])]; have hy2 : a.tmps[69]?.getD undef = .int .i64 (60 * p.w) := (by rw [← hy]; simp [Act.eval, Array.getD_eq_getD_getElem?]); go_simp; exact hK' _ _ hK)
                  (fun a W K u b l hu hs hown hb hl hbs hK => by refine wpOp_step rfl (fun K' hK' => ?_); refine step_append_lies _ (by rfl) (.tmp 68) (.tmp 70) 23 (by rfl) (jb + 2) 3 inf (.int .i64 0) 1 8 Try.underlying23 hInf hInf0 hInf1 hInf2 rfl (by decide) u l.length (l.map (Value.int .i64)) hu hown ⟨b, 0, none⟩ 1 1 [.int .i64 (60 * p.w)] hs (by rfl) (World.news_of_block hb) (by simp [Value.oneCell']) (by omega) (by simp only [maxLen]; omega) (by omega) hbs W.heap.size rfl (fun g cap w' h1 h2 h3 h4 => hK' _ _ (hK g cap w' h1 h2 h3)))
                  (fun a W K hy hK => by refine wpOp_step rfl (fun K' hK' => ?_); rw [if_pos (by simp [Region.wanted])]; have hy2 : a.tmps[74]?.getD undef = .int .i64 (60 * p.h) := (by rw [← hy]; simp [Act.eval, Array.getD_eq_getD_getElem?]); go_simp; exact hK' _ _ hK)
                  (fun a W K u b l hu hs hown hb hl hbs hK => by refine wpOp_step rfl (fun K' hK' => ?_); refine step_append_lies _ (by rfl) (.tmp 73) (.tmp 75) 23 (by rfl) (jb + 2) 3 inf (.int .i64 0) 1 8 Try.underlying23 hInf hInf0 hInf1 hInf2 rfl (by decide) u l.length (l.map (Value.int .i64)) hu hown ⟨b, 0, none⟩ 1 1 [.int .i64 (60 * p.h)] hs (by rfl) (World.news_of_block hb) (by simp [Value.oneCell']) (by omega) (by simp only [maxLen]; omega) (by omega) hbs W.heap.size rfl (fun g cap w' h1 h2 h3 h4 => hK' _ _ (hK g cap w' h1 h2 h3)))
                  (fun a W K _ hK => by refine wpOp_step rfl (fun K' hK' => ?_); rw [if_pos (by simp [Region.wanted])]; go_simp; exact hK' _ _ hK)
                  (fun a W K u b l hu hs hown hb hl hbs hK => by refine wpOp_step rfl (fun K' hK' => ?_); refine step_append_lies _ (by rfl) (.tmp 78) (.tmp 79) 23 (by rfl) (jb + 2) 3 inf (.int .i64 0) 1 8 Try.underlying23 hInf hInf0 hInf1 hInf2 rfl (by decide) u l.length (l.map (Value.int .i64)) hu hown ⟨b, 0, none⟩ 1 1 [.int .i64 (0)] hs (by rfl) (World.news_of_block hb) (by simp [Value.oneCell']) (by omega) (by simp only [maxLen]; omega) (by omega) hbs W.heap.size rfl (fun g cap w' h1 h2 h3 h4 => hK' _ _ (hK g cap w' h1 h2 h3)))
                  (fun f ls a W h he hs h2 => wpG_take 15 14 rfl h (fun _ _ _ h => h) (Or.inl ⟨by rfl, fun w hSw => by have he2 : a.tmps[7]?.getD undef = .pointer (some ⟨jb, 0, none⟩) := (by rw [← he]; simp [Act.eval, Array.getD_eq_getD_getElem?]); (try dsimp only at hSw); go_simp⟩) hs h2)
                  (by kernel_rfl) (by kernel_rfl) (by kernel_rfl) (by kernel_rfl) (by kernel_rfl) (by kernel_rfl) (by kernel_rfl) (by kernel_rfl) (by kernel_rfl) (by kernel_rfl) (by kernel_rfl) (by kernel_rfl) (by kernel_rfl) (by kernel_rfl) (by kernel_rfl) (by kernel_rfl) (by kernel_rfl) (by kernel_rfl)
                  ?hK HTR.out
                case hS =>
                  intro W hF
                  have hb : Blk W jb 39 #[J1, J2, J3] := (hF.bl HBX.out.lt (fun hh => by have := (HLB2.out.tj.lt hh).1; omega)).trans HBX.out
                  exact ⟨hb.cell 0, hb.cell 1, hb.cell 2⟩
                case n1 => rw [(slk_len f (fun _ => 0) k).1]; omega
                case n2 => rw [(slk_len f (fun _ => 0) k).2.1]; omega
                case n3 => rw [(slk_len f (fun _ => 0) k).2.2]; omega
                case hK =>
                  intro W u1 u2 u3 s1 s2 s3 hF r1 r2 r3 d12 d13 d23
                  have HLB3 := Lib.hid (HLB2.out.drew.just hF r1 r2 r3 d12 d13 d23)
                  have hbk : Blk W jb 39 #[J1, J2, J3] := (hF.bl HBX.out.lt (fun hh => by have := (HLB2.out.tj.lt hh).1; omega)).trans HBX.out
                  have hpk : Hid (Blk (set3 W jb u1 u2 u3) pb 70 (pcs p)) := by
                    exact (set3_other (by have := HJP.out; omega) _ _ _).trans ((hF.bl HBP2.out.lt (fun hh => Nat.lt_irrefl _ (HNB.out pb (.inl hh)))).trans HBP2.out)
                  have hpz : Hid (pb < W.heap.size) := Nat.lt_of_lt_of_le HBP2.out.lt hF.size
                  have hnb : Hid (∀ g, Has u1 u2 u3 g ∨ Has U1 U2 U3 g → g < W.heap.size ∧ g ≠ pb) := by
                    refine (show ∀ g, _ from fun g hg => ?_)
                    rcases hg with hg | hg
                    · refine ⟨by have := (HLB3.out.tj.lt hg).2; rwa [set3_size] at this, fun e => ?_⟩
                      rcases has_of r1 r2 r3 hg with h1 | h1
                      · have := HNB.out g (.inl h1); omega
                      · exact absurd (Nat.lt_of_lt_of_le HBP2.out.lt (show Wq.heap.size ≤ g from h1)) (by omega)
                    · have := HNB.out g (.inr hg); have := hpz.out; exact ⟨by omega, by omega⟩
                  obtain ⟨o1, c1, rfl⟩ := own_slice r1.own
                  obtain ⟨o2, c2, rfl⟩ := own_slice r2.own
                  obtain ⟨o3, c3, rfl⟩ := own_slice r3.own
                  generalize (slkW f (fun _ => 0) k ++ [60 * p.w]).length = L1 at *
                  generalize (slkH f (fun _ => 0) k ++ [60 * p.h]).length = L2 at *
                  generalize (slkT (fun _ => 0) k ++ [0]).length = L3 at *
                  obtain ⟨Ws, hW⟩ : ∃ X, (((W.setCell ⟨jb, 0, none⟩ (.slice o1 L1 c1)).setCell ⟨jb, 1, none⟩ (.slice o2 L2 c2)).setCell ⟨jb, 2, none⟩ (.slice o3 L3 c3)) = X := ⟨_, rfl⟩
                  have HLB4 : Hid (LB w Ws f (some ⟨b, off, none⟩) b off c jb (jb + 2) (.slice o1 L1 c1) (.slice o2 L2 c2) (.slice o3 L3 c3) U1 U2 U3 (slkW f (fun _ => 0) (k + 1)) (slkH f (fun _ => 0) (k + 1)) (slkT (fun _ => 0) (k + 1)) (slkW f (trv f zs) k) (slkH f (trv f zs) k) (slkT (trv f zs) k)) := by
                    have h1 : slkW f (fun _ => 0) (k + 1) = slkW f (fun _ => 0) k ++ [60 * p.w] := by rw [HSW.out]; simp
                    have h2 : slkH f (fun _ => 0) (k + 1) = slkH f (fun _ => 0) k ++ [60 * p.h] := by rw [HSH.out]; simp
                    have h3 : slkT (fun _ => 0) (k + 1) = slkT (fun _ => 0) k ++ [0] := slkT_snoc _ _
                    rw [h1, h2, h3, ← hW]
                    exact HLB3.out
                  have q1p : Ws.cell? ⟨pb, 1, none⟩ = some (.int .i64 p.kind) := by rw [← hW]; exact hpk.out.cell 1
                  have q0 := hbk.cell 0
                  have q1 := hbk.cell 1
                  have q2 := hbk.cell 2
                  have f0 := hbk.frozen 0
                  have f1 := hbk.frozen 1
                  have f2 := hbk.frozen 2
                  rw [ha0]
                  (try simp only [Act.put, List.getElem_toArray, List.getElem_cons_zero, List.getElem_cons_succ, List.setIfInBounds_toArray, List.set_cons_zero, List.set_cons_succ])
                  refine ⟨by kernel_rfl, ?_⟩
                  simp only [List.drop_succ_cons, List.drop_zero]
                  clear ee1 ee2 ee3 ee7 yy1 yy2 hsz ha0 a0 hF r1 r2 r3 d12 d13 d23 hbk HLB2 HBX HBS HTR hS0 HBP2 HLB3 HJP HLB0
                  have HIW : Hid (1 ≤ p.w ∧ 1 ≤ p.h ∧ p.w ≤ 4000 ∧ p.h ≤ 4000) := (show _ ∧ _ from ⟨i1, i2, by omega, by omega⟩)
                  have HB4 := Lib.hid HLB4.out.lt.B
                  by_cases hkz : k < zs.length
                  · have hkzz : (k : Int) < (zs.length : Int) := by omega
                    obtain ⟨rfl, hbs⟩ := HAs.out (by omega)
                    have z0 := HZs.out _ HB4.out k hkz
                    by_cases h3 : p.kind = 3
                    · by_cases hm : 6000 < 60 * p.w
                      · skip
                        have HT : Hid (trv f zs k = gz zs k % 6000) := (show _ = _ by rw [HTV.out, if_pos hkz, if_pos h3, show min (60 * p.w) 6000 = 6000 by omega])
                        have m1 := Int.emod_nonneg (gz zs k) (show 6000 ≠ 0 by omega)
                        have m2 := Int.emod_lt_of_pos (gz zs k) (show 0 < 6000 by omega)
                        go_wp2_with fail
                        refine (mod_any _ _ _ (by omega) (by omega)).mono ?_
                        rintro e w5 ⟨rfl, rfl⟩
                        generalize gz zs k % 6000 = t at *
                        have e3 : IntKind.i64.wrap (60 * p.w - t) = 60 * p.w - t := IntWalk.i64_in _ (by omega)
                        go_wp2_with fail
                        have HBX : Hid (Blk Ws.drew (jb + 1) 39 #[U1, U2, U3]) := HLB4.out.bl
                        have HBS : Hid (jb + 2 ≤ Ws.drew.heap.size) := HLB4.out.hz
                        have HTR := Lib.hid ((HLB4.out.tu.drew).t3 (x1 := 60 * p.w - t) (x2 := 60 * p.h) (x3 := t))
                        have hS0 : (Ws.drew.cell? ⟨jb + 1, 0, none⟩ = some U1 ∧ Ws.drew.cell? ⟨jb + 1, 1, none⟩ = some U2 ∧ Ws.drew.cell? ⟨jb + 1, 2, none⟩ = some U3) := ⟨HBX.out.cell 0, HBX.out.cell 1, HBX.out.cell 2⟩
                        refine wp_region_split (fun W => (W.cell? ⟨jb + 1, 0, none⟩ = some U1 ∧ W.cell? ⟨jb + 1, 1, none⟩ = some U2 ∧ W.cell? ⟨jb + 1, 2, none⟩ = some U3)) 16 (by kernel_rfl) (by decide) ?_
                        refine wpG_take 16 0 (v := ?_) rfl (by kernel_rfl) (fun _ _ _ h => h) (Or.inl ⟨by rfl, ?_⟩) (by assumption) ?_
                        rotate_left
                        · intro w hSw; (try dsimp only at hSw); go_simp; (try with_reducible rfl)
                        (try simp only [Act.put, List.getElem_toArray, List.getElem_cons_zero, List.getElem_cons_succ, List.setIfInBounds_toArray, List.set_cons_zero, List.set_cons_succ])
                        refine wpG_take 16 1 (v := ?_) rfl (by kernel_rfl) (fun _ _ _ h => h) (Or.inl ⟨by rfl, ?_⟩) (by assumption) ?_
                        rotate_left
                        · intro w hSw; (try dsimp only at hSw); go_simp; (try with_reducible rfl)
                        (try simp only [Act.put, List.getElem_toArray, List.getElem_cons_zero, List.getElem_cons_succ, List.setIfInBounds_toArray, List.set_cons_zero, List.set_cons_succ])
                        refine wpG_take 16 2 (v := ?_) rfl (by kernel_rfl) (fun _ _ _ h => h) (Or.inl ⟨by rfl, ?_⟩) (by assumption) ?_
                        rotate_left
                        · intro w hSw; (try dsimp only at hSw); go_simp; (try with_reducible rfl)
                        (try simp only [Act.put, List.getElem_toArray, List.getElem_cons_zero, List.getElem_cons_succ, List.setIfInBounds_toArray, List.set_cons_zero, List.set_cons_succ])
                        refine wpG_take 16 5 (v := ?_) rfl (by kernel_rfl) (fun _ _ _ h => h) (Or.inl ⟨by rfl, ?_⟩) (by assumption) ?_
                        rotate_left
                        · intro w hSw; (try dsimp only at hSw); go_simp; (try with_reducible rfl)
                        (try simp only [Act.put, List.getElem_toArray, List.getElem_cons_zero, List.getElem_cons_succ, List.setIfInBounds_toArray, List.set_cons_zero, List.set_cons_succ])
                        refine wpG_take 16 6 (v := ?_) rfl (by kernel_rfl) (fun _ _ _ h => h) (Or.inl ⟨by rfl, ?_⟩) (by assumption) ?_
                        rotate_left
                        · intro w hSw; (try dsimp only at hSw); go_simp; (try with_reducible rfl)
                        (try simp only [Act.put, List.getElem_toArray, List.getElem_cons_zero, List.getElem_cons_succ, List.setIfInBounds_toArray, List.set_cons_zero, List.set_cons_succ])
                        refine wpG_take 16 7 (v := ?_) rfl (by kernel_rfl) (fun _ _ _ h => h) (Or.inl ⟨by rfl, ?_⟩) (by assumption) ?_
                        rotate_left
                        · intro w hSw; (try dsimp only at hSw); go_simp; (try with_reducible rfl)
                        (try simp only [Act.put, List.getElem_toArray, List.getElem_cons_zero, List.getElem_cons_succ, List.setIfInBounds_toArray, List.set_cons_zero, List.set_cons_succ])
                        refine wpG_take 16 10 (v := ?_) rfl (by kernel_rfl) (fun _ _ _ h => h) (Or.inl ⟨by rfl, ?_⟩) (by assumption) ?_
                        rotate_left
                        · intro w hSw; (try dsimp only at hSw); go_simp; (try with_reducible rfl)
                        (try simp only [Act.put, List.getElem_toArray, List.getElem_cons_zero, List.getElem_cons_succ, List.setIfInBounds_toArray, List.set_cons_zero, List.set_cons_succ])
                        refine wpG_take 16 11 (v := ?_) rfl (by kernel_rfl) (fun _ _ _ h => h) (Or.inl ⟨by rfl, ?_⟩) (by assumption) ?_
                        rotate_left
                        · intro w hSw; (try dsimp only at hSw); go_simp; (try with_reducible rfl)
                        (try simp only [Act.put, List.getElem_toArray, List.getElem_cons_zero, List.getElem_cons_succ, List.setIfInBounds_toArray, List.set_cons_zero, List.set_cons_succ])
                        refine wpG_take 16 12 (v := ?_) rfl (by kernel_rfl) (fun _ _ _ h => h) (Or.inl ⟨by rfl, ?_⟩) (by assumption) ?_
                        rotate_left
                        · intro w hSw; (try dsimp only at hSw); go_simp; (try with_reducible rfl)
                        (try simp only [Act.put, List.getElem_toArray, List.getElem_cons_zero, List.getElem_cons_succ, List.setIfInBounds_toArray, List.set_cons_zero, List.set_cons_succ])
                        refine wpG_abs ?_
                        intro a0 ha0
                        have ee1 : a0.eval (.tmp 123) = U1 := by rw [ha0]; rfl
                        have ee2 : a0.eval (.tmp 128) = U2 := by rw [ha0]; rfl
                        have ee3 : a0.eval (.tmp 133) = U3 := by rw [ha0]; rfl
                        have yy1 : a0.eval (.tmp 124) = .int .i64 (60 * p.w - t) := by rw [ha0]; rfl
                        have yy2 : a0.eval (.tmp 129) = .int .i64 (60 * p.h) := by rw [ha0]; rfl
                        have yy3 : a0.eval (.tmp 134) = .int .i64 (t) := by rw [ha0]; rfl
                        have ee7 : a0.eval (.tmp 8) = .pointer (some ⟨jb + 1, 0, none⟩) := by rw [ha0]; rfl
                        have hsz : 137 < a0.tmps.size := by rw [ha0]; exact (by decide : (137 : Nat) < 201)
                        refine app3B (n := 16) a0 Ws.drew (jb + 2) U1 U2 U3 (.pointer (some ⟨jb + 1, 0, none⟩)) (.pointer (some ⟨jb + 1, 0, none⟩)) (slkW f (trv f zs) k) (slkH f (trv f zs) k) (slkT (trv f zs) k) (60 * p.w - t) (60 * p.h) (t) _ (fun ls => splitB .any _ 16 && headB .any _ 16 ls && Region.free .any _ ls 15 && (Region.ready .any _ ls).contains 15 && decide (15 < 16)) ?hS HBS.out ?n1 ?n2 ?n3 hsz ee1 yy1 ee2 yy2 ee3 yy3 ee7
                          (fun a W K hy hK => by refine wpOp_step rfl (fun K' hK' => ?_); rw [if_pos (by simp [Region.wanted])]; have hy2 : a.tmps[124]?.getD undef = .int .i64 (60 * p.w - t) := (by rw [← hy]; simp [Act.eval, Array.getD_eq_getD_getElem?]); go_simp; exact hK' _ _ hK)
                          (fun a W K u b l hu hs hown hb hl hbs hK => by refine wpOp_step rfl (fun K' hK' => ?_); refine step_append_lies _ (by rfl) (.tmp 123) (.tmp 125) 23 (by rfl) (jb + 2) 3 inf (.int .i64 0) 1 8 Try.underlying23 hInf hInf0 hInf1 hInf2 rfl (by decide) u l.length (l.map (Value.int .i64)) hu hown ⟨b, 0, none⟩ 1 1 [.int .i64 (60 * p.w - t)] hs (by rfl) (World.news_of_block hb) (by simp [Value.oneCell']) (by omega) (by simp only [maxLen]; omega) (by omega) hbs W.heap.size rfl (fun g cap w' h1 h2 h3 h4 => hK' _ _ (hK g cap w' h1 h2 h3)))
                          (fun a W K hy hK => by refine wpOp_step rfl (fun K' hK' => ?_); rw [if_pos (by simp [Region.wanted])]; have hy2 : a.tmps[129]?.getD undef = .int .i64 (60 * p.h) := (by rw [← hy]; simp [Act.eval, Array.getD_eq_getD_getElem?]); go_simp; exact hK' _ _ hK)
                          (fun a W K u b l hu hs hown hb hl hbs hK => by refine wpOp_step rfl (fun K' hK' => ?_); refine step_append_lies _ (by rfl) (.tmp 128) (.tmp 130) 23 (by rfl) (jb + 2) 3 inf (.int .i64 0) 1 8 Try.underlying23 hInf hInf0 hInf1 hInf2 rfl (by decide) u l.length (l.map (Value.int .i64)) hu hown ⟨b, 0, none⟩ 1 1 [.int .i64 (60 * p.h)] hs (by rfl) (World.news_of_block hb) (by simp [Value.oneCell']) (by omega) (by simp only [maxLen]; omega) (by omega) hbs W.heap.size rfl (fun g cap w' h1 h2 h3 h4 => hK' _ _ (hK g cap w' h1 h2 h3)))
                          (fun a W K hy hK => by refine wpOp_step rfl (fun K' hK' => ?_); rw [if_pos (by simp [Region.wanted])]; have hy2 : a.tmps[134]?.getD undef = .int .i64 (t) := (by rw [← hy]; simp [Act.eval, Array.getD_eq_getD_getElem?]); go_simp; exact hK' _ _ hK)
                          (fun a W K u b l hu hs hown hb hl hbs hK => by refine wpOp_step rfl (fun K' hK' => ?_); refine step_append_lies _ (by rfl) (.tmp 133) (.tmp 135) 23 (by rfl) (jb + 2) 3 inf (.int .i64 0) 1 8 Try.underlying23 hInf hInf0 hInf1 hInf2 rfl (by decide) u l.length (l.map (Value.int .i64)) hu hown ⟨b, 0, none⟩ 1 1 [.int .i64 (t)] hs (by rfl) (World.news_of_block hb) (by simp [Value.oneCell']) (by omega) (by simp only [maxLen]; omega) (by omega) hbs W.heap.size rfl (fun g cap w' h1 h2 h3 h4 => hK' _ _ (hK g cap w' h1 h2 h3)))
                          (fun f ls a W h he hs h2 => wpG_take 16 15 rfl h (fun _ _ _ h => h) (Or.inl ⟨by rfl, fun w hSw => by have he2 : a.tmps[8]?.getD undef = .pointer (some ⟨jb + 1, 0, none⟩) := (by rw [← he]; simp [Act.eval, Array.getD_eq_getD_getElem?]); (try dsimp only at hSw); go_simp⟩) hs h2)
                          (by kernel_rfl) (by kernel_rfl) (by kernel_rfl) (by kernel_rfl) (by kernel_rfl) (by kernel_rfl) (by kernel_rfl) (by kernel_rfl) (by kernel_rfl) (by kernel_rfl) (by kernel_rfl) (by kernel_rfl) (by kernel_rfl) (by kernel_rfl) (by kernel_rfl) (by kernel_rfl) (by kernel_rfl) (by kernel_rfl)
                          ?hK HTR.out
                        case hS =>
                          intro W hF
                          have hb : Blk W (jb + 1) 39 #[U1, U2, U3] := (hF.bl HBX.out.lt (fun hh => by have := (HLB4.out.tu.lt hh).1; omega)).trans HBX.out
                          exact ⟨hb.cell 0, hb.cell 1, hb.cell 2⟩
                        case n1 => rw [(slk_len f (trv f zs) k).1]; omega
                        case n2 => rw [(slk_len f (trv f zs) k).2.1]; omega
                        case n3 => rw [(slk_len f (trv f zs) k).2.2]; omega
                        case hK =>
                          intro W9 u1 u2 u3 s1 s2 s3 hF r1 r2 r3 d12 d13 d23
                          have HLB5 := Lib.hid (HLB4.out.drew.loose hF r1 r2 r3 d12 d13 d23)
                          have hbk : Blk W9 (jb + 1) 39 #[U1, U2, U3] := (hF.bl HBX.out.lt (fun hh => by have := (HLB4.out.tu.lt hh).1; omega)).trans HBX.out
                          obtain ⟨o4, c4, rfl⟩ := own_slice r1.own
                          obtain ⟨o5, c5, rfl⟩ := own_slice r2.own
                          obtain ⟨o6, c6, rfl⟩ := own_slice r3.own
                          generalize (slkW f (trv f zs) k ++ [60 * p.w - t]).length = L4 at *
                          generalize (slkH f (trv f zs) k ++ [60 * p.h]).length = L5 at *
                          generalize (slkT (trv f zs) k ++ [t]).length = L6 at *
                          have HLB6 : Hid (∃ J1 J2 J3 U1 U2 U3, LB w (((W9.setCell ⟨jb + 1, 0, none⟩ (.slice o4 L4 c4)).setCell ⟨jb + 1, 1, none⟩ (.slice o5 L5 c5)).setCell ⟨jb + 1, 2, none⟩ (.slice o6 L6 c6)) f (some ⟨b, off, none⟩) b off c jb (jb + 2) J1 J2 J3 U1 U2 U3 (slkW f (fun _ => 0) (k + 1)) (slkH f (fun _ => 0) (k + 1)) (slkT (fun _ => 0) (k + 1)) (slkW f (trv f zs) (k + 1)) (slkH f (trv f zs) (k + 1)) (slkT (trv f zs) (k + 1))) := by
                            have h1 : slkW f (trv f zs) (k + 1) = slkW f (trv f zs) k ++ [60 * p.w - t] := by rw [HSW.out, HT.out]; rw [if_pos h3]
                            have h2 : slkH f (trv f zs) (k + 1) = slkH f (trv f zs) k ++ [60 * p.h] := by rw [HSH.out, HT.out]; rw [if_neg (by omega), Int.sub_zero]
                            have h3 : slkT (trv f zs) (k + 1) = slkT (trv f zs) k ++ [t] := by rw [slkT_snoc, HT.out]
                            rw [h1, h2, h3]
                            exact (show _ from ⟨_, _, _, _, _, _, HLB5.out⟩)
                          have q0 := hbk.cell 0
                          have q1 := hbk.cell 1
                          have q2 := hbk.cell 2
                          have f0 := hbk.frozen 0
                          have f1 := hbk.frozen 1
                          have f2 := hbk.frozen 2
                          rw [ha0]
                          (try simp only [Act.put, List.getElem_toArray, List.getElem_cons_zero, List.getElem_cons_succ, List.setIfInBounds_toArray, List.set_cons_zero, List.set_cons_succ])
                          refine ⟨by kernel_rfl, ?_⟩
                          simp only [List.drop_succ_cons, List.drop_zero]
                          clear ee1 ee2 ee3 ee7 yy1 yy2 yy3 hsz ha0 a0 hF r1 r2 r3 d12 d13 d23 hbk HBX HBS HTR hS0 HLB5 HLB4 hpk hpz hnb
                          go_wp2_with fail
                          go_roundg (f.ps.length - (k + 1))
                          case measure => omega
                          exact ⟨k + 1, by omega, by omega, by simp, HLB6⟩
                      · skip
                        have HT : Hid (trv f zs k = gz zs k % (60 * p.w)) := (show _ = _ by rw [HTV.out, if_pos hkz, if_pos h3, show min (60 * p.w) 6000 = (60 * p.w) by omega])
                        have m1 := Int.emod_nonneg (gz zs k) (show (60 * p.w) ≠ 0 by omega)
                        have m2 := Int.emod_lt_of_pos (gz zs k) (show 0 < (60 * p.w) by omega)
                        go_wp2_with fail
                        refine (mod_any _ _ _ (by omega) (by omega)).mono ?_
                        rintro e w5 ⟨rfl, rfl⟩
                        generalize gz zs k % (60 * p.w) = t at *
                        have e3 : IntKind.i64.wrap (60 * p.w - t) = 60 * p.w - t := IntWalk.i64_in _ (by omega)
                        go_wp2_with fail
                        have HBX : Hid (Blk Ws.drew (jb + 1) 39 #[U1, U2, U3]) := HLB4.out.bl
                        have HBS : Hid (jb + 2 ≤ Ws.drew.heap.size) := HLB4.out.hz
                        have HTR := Lib.hid ((HLB4.out.tu.drew).t3 (x1 := 60 * p.w - t) (x2 := 60 * p.h) (x3 := t))
                        have hS0 : (Ws.drew.cell? ⟨jb + 1, 0, none⟩ = some U1 ∧ Ws.drew.cell? ⟨jb + 1, 1, none⟩ = some U2 ∧ Ws.drew.cell? ⟨jb + 1, 2, none⟩ = some U3) := ⟨HBX.out.cell 0, HBX.out.cell 1, HBX.out.cell 2⟩
                        refine wp_region_split (fun W => (W.cell? ⟨jb + 1, 0, none⟩ = some U1 ∧ W.cell? ⟨jb + 1, 1, none⟩ = some U2 ∧ W.cell? ⟨jb + 1, 2, none⟩ = some U3)) 16 (by kernel_rfl) (by decide) ?_
                        refine wpG_take 16 0 (v := ?_) rfl (by kernel_rfl) (fun _ _ _ h => h) (Or.inl ⟨by rfl, ?_⟩) (by assumption) ?_
                        rotate_left
                        · intro w hSw; (try dsimp only at hSw); go_simp; (try with_reducible rfl)
                        (try simp only [Act.put, List.getElem_toArray, List.getElem_cons_zero, List.getElem_cons_succ, List.setIfInBounds_toArray, List.set_cons_zero, List.set_cons_succ])
                        refine wpG_take 16 1 (v := ?_) rfl (by kernel_rfl) (fun _ _ _ h => h) (Or.inl ⟨by rfl, ?_⟩) (by assumption) ?_
                        rotate_left
                        · intro w hSw; (try dsimp only at hSw); go_simp; (try with_reducible rfl)
                        (try simp only [Act.put, List.getElem_toArray, List.getElem_cons_zero, List.getElem_cons_succ, List.setIfInBounds_toArray, List.set_cons_zero, List.set_cons_succ])
                        refine wpG_take 16 2 (v := ?_) rfl (by kernel_rfl) (fun _ _ _ h => h) (Or.inl ⟨by rfl, ?_⟩) (by assumption) ?_
                        rotate_left
                        · intro w hSw; (try dsimp only at hSw); go_simp; (try with_reducible rfl)
                        (try simp only [Act.put, List.getElem_toArray, List.getElem_cons_zero, List.getElem_cons_succ, List.setIfInBounds_toArray, List.set_cons_zero, List.set_cons_succ])
                        refine wpG_take 16 5 (v := ?_) rfl (by kernel_rfl) (fun _ _ _ h => h) (Or.inl ⟨by rfl, ?_⟩) (by assumption) ?_
                        rotate_left
                        · intro w hSw; (try dsimp only at hSw); go_simp; (try with_reducible rfl)
                        (try simp only [Act.put, List.getElem_toArray, List.getElem_cons_zero, List.getElem_cons_succ, List.setIfInBounds_toArray, List.set_cons_zero, List.set_cons_succ])
                        refine wpG_take 16 6 (v := ?_) rfl (by kernel_rfl) (fun _ _ _ h => h) (Or.inl ⟨by rfl, ?_⟩) (by assumption) ?_
                        rotate_left
                        · intro w hSw; (try dsimp only at hSw); go_simp; (try with_reducible rfl)
                        (try simp only [Act.put, List.getElem_toArray, List.getElem_cons_zero, List.getElem_cons_succ, List.setIfInBounds_toArray, List.set_cons_zero, List.set_cons_succ])
                        refine wpG_take 16 7 (v := ?_) rfl (by kernel_rfl) (fun _ _ _ h => h) (Or.inl ⟨by rfl, ?_⟩) (by assumption) ?_
                        rotate_left
                        · intro w hSw; (try dsimp only at hSw); go_simp; (try with_reducible rfl)
                        (try simp only [Act.put, List.getElem_toArray, List.getElem_cons_zero, List.getElem_cons_succ, List.setIfInBounds_toArray, List.set_cons_zero, List.set_cons_succ])
                        refine wpG_take 16 10 (v := ?_) rfl (by kernel_rfl) (fun _ _ _ h => h) (Or.inl ⟨by rfl, ?_⟩) (by assumption) ?_
                        rotate_left
                        · intro w hSw; (try dsimp only at hSw); go_simp; (try with_reducible rfl)
                        (try simp only [Act.put, List.getElem_toArray, List.getElem_cons_zero, List.getElem_cons_succ, List.setIfInBounds_toArray, List.set_cons_zero, List.set_cons_succ])
                        refine wpG_take 16 11 (v := ?_) rfl (by kernel_rfl) (fun _ _ _ h => h) (Or.inl ⟨by rfl, ?_⟩) (by assumption) ?_
                        rotate_left
                        · intro w hSw; (try dsimp only at hSw); go_simp; (try with_reducible rfl)
                        (try simp only [Act.put, List.getElem_toArray, List.getElem_cons_zero, List.getElem_cons_succ, List.setIfInBounds_toArray, List.set_cons_zero, List.set_cons_succ])
                        refine wpG_take 16 12 (v := ?_) rfl (by kernel_rfl) (fun _ _ _ h => h) (Or.inl ⟨by rfl, ?_⟩) (by assumption) ?_
                        rotate_left
                        · intro w hSw; (try dsimp only at hSw); go_simp; (try with_reducible rfl)
                        (try simp only [Act.put, List.getElem_toArray, List.getElem_cons_zero, List.getElem_cons_succ, List.setIfInBounds_toArray, List.set_cons_zero, List.set_cons_succ])
                        refine wpG_abs ?_
                        intro a0 ha0
                        have ee1 : a0.eval (.tmp 123) = U1 := by rw [ha0]; rfl
                        have ee2 : a0.eval (.tmp 128) = U2 := by rw [ha0]; rfl
                        have ee3 : a0.eval (.tmp 133) = U3 := by rw [ha0]; rfl
                        have yy1 : a0.eval (.tmp 124) = .int .i64 (60 * p.w - t) := by rw [ha0]; rfl
                        have yy2 : a0.eval (.tmp 129) = .int .i64 (60 * p.h) := by rw [ha0]; rfl
                        have yy3 : a0.eval (.tmp 134) = .int .i64 (t) := by rw [ha0]; rfl
                        have ee7 : a0.eval (.tmp 8) = .pointer (some ⟨jb + 1, 0, none⟩) := by rw [ha0]; rfl
                        have hsz : 137 < a0.tmps.size := by rw [ha0]; exact (by decide : (137 : Nat) < 201)
                        refine app3B (n := 16) a0 Ws.drew (jb + 2) U1 U2 U3 (.pointer (some ⟨jb + 1, 0, none⟩)) (.pointer (some ⟨jb + 1, 0, none⟩)) (slkW f (trv f zs) k) (slkH f (trv f zs) k) (slkT (trv f zs) k) (60 * p.w - t) (60 * p.h) (t) _ (fun ls => splitB .any _ 16 && headB .any _ 16 ls && Region.free .any _ ls 15 && (Region.ready .any _ ls).contains 15 && decide (15 < 16)) ?hS HBS.out ?n1 ?n2 ?n3 hsz ee1 yy1 ee2 yy2 ee3 yy3 ee7
                          (fun a W K hy hK => by refine wpOp_step rfl (fun K' hK' => ?_); rw [if_pos (by simp [Region.wanted])]; have hy2 : a.tmps[124]?.getD undef = .int .i64 (60 * p.w - t) := (by rw [← hy]; simp [Act.eval, Array.getD_eq_getD_getElem?]); go_simp; exact hK' _ _ hK)
                          (fun a W K u b l hu hs hown hb hl hbs hK => by refine wpOp_step rfl (fun K' hK' => ?_); refine step_append_lies _ (by rfl) (.tmp 123) (.tmp 125) 23 (by rfl) (jb + 2) 3 inf (.int .i64 0) 1 8 Try.underlying23 hInf hInf0 hInf1 hInf2 rfl (by decide) u l.length (l.map (Value.int .i64)) hu hown ⟨b, 0, none⟩ 1 1 [.int .i64 (60 * p.w - t)] hs (by rfl) (World.news_of_block hb) (by simp [Value.oneCell']) (by omega) (by simp only [maxLen]; omega) (by omega) hbs W.heap.size rfl (fun g cap w' h1 h2 h3 h4 => hK' _ _ (hK g cap w' h1 h2 h3)))
                          (fun a W K hy hK => by refine wpOp_step rfl (fun K' hK' => ?_); rw [if_pos (by simp [Region.wanted])]; have hy2 : a.tmps[129]?.getD undef = .int .i64 (60 * p.h) := (by rw [← hy]; simp [Act.eval, Array.getD_eq_getD_getElem?]); go_simp; exact hK' _ _ hK)
                          (fun a W K u b l hu hs hown hb hl hbs hK => by refine wpOp_step rfl (fun K' hK' => ?_); refine step_append_lies _ (by rfl) (.tmp 128) (.tmp 130) 23 (by rfl) (jb + 2) 3 inf (.int .i64 0) 1 8 Try.underlying23 hInf hInf0 hInf1 hInf2 rfl (by decide) u l.length (l.map (Value.int .i64)) hu hown ⟨b, 0, none⟩ 1 1 [.int .i64 (60 * p.h)] hs (by rfl) (World.news_of_block hb) (by simp [Value.oneCell']) (by omega) (by simp only [maxLen]; omega) (by omega) hbs W.heap.size rfl (fun g cap w' h1 h2 h3 h4 => hK' _ _ (hK g cap w' h1 h2 h3)))
                          (fun a W K hy hK => by refine wpOp_step rfl (fun K' hK' => ?_); rw [if_pos (by simp [Region.wanted])]; have hy2 : a.tmps[134]?.getD undef = .int .i64 (t) := (by rw [← hy]; simp [Act.eval, Array.getD_eq_getD_getElem?]); go_simp; exact hK' _ _ hK)
                          (fun a W K u b l hu hs hown hb hl hbs hK => by refine wpOp_step rfl (fun K' hK' => ?_); refine step_append_lies _ (by rfl) (.tmp 133) (.tmp 135) 23 (by rfl) (jb + 2) 3 inf (.int .i64 0) 1 8 Try.underlying23 hInf hInf0 hInf1 hInf2 rfl (by decide) u l.length (l.map (Value.int .i64)) hu hown ⟨b, 0, none⟩ 1 1 [.int .i64 (t)] hs (by rfl) (World.news_of_block hb) (by simp [Value.oneCell']) (by omega) (by simp only [maxLen]; omega) (by omega) hbs W.heap.size rfl (fun g cap w' h1 h2 h3 h4 => hK' _ _ (hK g cap w' h1 h2 h3)))
                          (fun f ls a W h he hs h2 => wpG_take 16 15 rfl h (fun _ _ _ h => h) (Or.inl ⟨by rfl, fun w hSw => by have he2 : a.tmps[8]?.getD undef = .pointer (some ⟨jb + 1, 0, none⟩) := (by rw [← he]; simp [Act.eval, Array.getD_eq_getD_getElem?]); (try dsimp only at hSw); go_simp⟩) hs h2)
                          (by kernel_rfl) (by kernel_rfl) (by kernel_rfl) (by kernel_rfl) (by kernel_rfl) (by kernel_rfl) (by kernel_rfl) (by kernel_rfl) (by kernel_rfl) (by kernel_rfl) (by kernel_rfl) (by kernel_rfl) (by kernel_rfl) (by kernel_rfl) (by kernel_rfl) (by kernel_rfl) (by kernel_rfl) (by kernel_rfl)
                          ?hK HTR.out
                        case hS =>
                          intro W hF
                          have hb : Blk W (jb + 1) 39 #[U1, U2, U3] := (hF.bl HBX.out.lt (fun hh => by have := (HLB4.out.tu.lt hh).1; omega)).trans HBX.out
                          exact ⟨hb.cell 0, hb.cell 1, hb.cell 2⟩
                        case n1 => rw [(slk_len f (trv f zs) k).1]; omega
                        case n2 => rw [(slk_len f (trv f zs) k).2.1]; omega
                        case n3 => rw [(slk_len f (trv f zs) k).2.2]; omega
                        case hK =>
                          intro W9 u1 u2 u3 s1 s2 s3 hF r1 r2 r3 d12 d13 d23
                          have HLB5 := Lib.hid (HLB4.out.drew.loose hF r1 r2 r3 d12 d13 d23)
                          have hbk : Blk W9 (jb + 1) 39 #[U1, U2, U3] := (hF.bl HBX.out.lt (fun hh => by have := (HLB4.out.tu.lt hh).1; omega)).trans HBX.out
                          obtain ⟨o4, c4, rfl⟩ := own_slice r1.own
                          obtain ⟨o5, c5, rfl⟩ := own_slice r2.own
                          obtain ⟨o6, c6, rfl⟩ := own_slice r3.own
                          generalize (slkW f (trv f zs) k ++ [60 * p.w - t]).length = L4 at *
                          generalize (slkH f (trv f zs) k ++ [60 * p.h]).length = L5 at *
                          generalize (slkT (trv f zs) k ++ [t]).length = L6 at *
                          have HLB6 : Hid (∃ J1 J2 J3 U1 U2 U3, LB w (((W9.setCell ⟨jb + 1, 0, none⟩ (.slice o4 L4 c4)).setCell ⟨jb + 1, 1, none⟩ (.slice o5 L5 c5)).setCell ⟨jb + 1, 2, none⟩ (.slice o6 L6 c6)) f (some ⟨b, off, none⟩) b off c jb (jb + 2) J1 J2 J3 U1 U2 U3 (slkW f (fun _ => 0) (k + 1)) (slkH f (fun _ => 0) (k + 1)) (slkT (fun _ => 0) (k + 1)) (slkW f (trv f zs) (k + 1)) (slkH f (trv f zs) (k + 1)) (slkT (trv f zs) (k + 1))) := by
                            have h1 : slkW f (trv f zs) (k + 1) = slkW f (trv f zs) k ++ [60 * p.w - t] := by rw [HSW.out, HT.out]; rw [if_pos h3]
                            have h2 : slkH f (trv f zs) (k + 1) = slkH f (trv f zs) k ++ [60 * p.h] := by rw [HSH.out, HT.out]; rw [if_neg (by omega), Int.sub_zero]
                            have h3 : slkT (trv f zs) (k + 1) = slkT (trv f zs) k ++ [t] := by rw [slkT_snoc, HT.out]
                            rw [h1, h2, h3]
                            exact (show _ from ⟨_, _, _, _, _, _, HLB5.out⟩)
                          have q0 := hbk.cell 0
                          have q1 := hbk.cell 1
                          have q2 := hbk.cell 2
                          have f0 := hbk.frozen 0
                          have f1 := hbk.frozen 1
                          have f2 := hbk.frozen 2
                          rw [ha0]
                          (try simp only [Act.put, List.getElem_toArray, List.getElem_cons_zero, List.getElem_cons_succ, List.setIfInBounds_toArray, List.set_cons_zero, List.set_cons_succ])
                          refine ⟨by kernel_rfl, ?_⟩
                          simp only [List.drop_succ_cons, List.drop_zero]
                          clear ee1 ee2 ee3 ee7 yy1 yy2 yy3 hsz ha0 a0 hF r1 r2 r3 d12 d13 d23 hbk HBX HBS HTR hS0 HLB5 HLB4 hpk hpz hnb
                          go_wp2_with fail
                          go_roundg (f.ps.length - (k + 1))
                          case measure => omega
                          exact ⟨k + 1, by omega, by omega, by simp, HLB6⟩
                    · by_cases h4 : p.kind = 4
                      · by_cases hm : 6000 < 60 * p.h
                        · skip
                          have HT : Hid (trv f zs k = gz zs k % 6000) := (show _ = _ by rw [HTV.out, if_pos hkz, if_neg h3, if_pos h4, show min (60 * p.h) 6000 = 6000 by omega])
                          have m1 := Int.emod_nonneg (gz zs k) (show 6000 ≠ 0 by omega)
                          have m2 := Int.emod_lt_of_pos (gz zs k) (show 0 < 6000 by omega)
                          go_wp2_with fail
                          refine (mod_any _ _ _ (by omega) (by omega)).mono ?_
                          rintro e w5 ⟨rfl, rfl⟩
                          generalize gz zs k % 6000 = t at *
                          have e3 : IntKind.i64.wrap (60 * p.h - t) = 60 * p.h - t := IntWalk.i64_in _ (by omega)
                          go_wp2_with fail
                          have HBX : Hid (Blk Ws.drew (jb + 1) 39 #[U1, U2, U3]) := HLB4.out.bl
                          have HBS : Hid (jb + 2 ≤ Ws.drew.heap.size) := HLB4.out.hz
                          have HTR := Lib.hid ((HLB4.out.tu.drew).t3 (x1 := 60 * p.w) (x2 := 60 * p.h - t) (x3 := t))
                          have hS0 : (Ws.drew.cell? ⟨jb + 1, 0, none⟩ = some U1 ∧ Ws.drew.cell? ⟨jb + 1, 1, none⟩ = some U2 ∧ Ws.drew.cell? ⟨jb + 1, 2, none⟩ = some U3) := ⟨HBX.out.cell 0, HBX.out.cell 1, HBX.out.cell 2⟩
                          refine wp_region_split (fun W => (W.cell? ⟨jb + 1, 0, none⟩ = some U1 ∧ W.cell? ⟨jb + 1, 1, none⟩ = some U2 ∧ W.cell? ⟨jb + 1, 2, none⟩ = some U3)) 16 (by kernel_rfl) (by decide) ?_
                          refine wpG_take 16 0 (v := ?_) rfl (by kernel_rfl) (fun _ _ _ h => h) (Or.inl ⟨by rfl, ?_⟩) (by assumption) ?_
                          rotate_left
                          · intro w hSw; (try dsimp only at hSw); go_simp; (try with_reducible rfl)
                          (try simp only [Act.put, List.getElem_toArray, List.getElem_cons_zero, List.getElem_cons_succ, List.setIfInBounds_toArray, List.set_cons_zero, List.set_cons_succ])
                          refine wpG_take 16 1 (v := ?_) rfl (by kernel_rfl) (fun _ _ _ h => h) (Or.inl ⟨by rfl, ?_⟩) (by assumption) ?_
                          rotate_left
                          · intro w hSw; (try dsimp only at hSw); go_simp; (try with_reducible rfl)
                          (try simp only [Act.put, List.getElem_toArray, List.getElem_cons_zero, List.getElem_cons_succ, List.setIfInBounds_toArray, List.set_cons_zero, List.set_cons_succ])
                          refine wpG_take 16 2 (v := ?_) rfl (by kernel_rfl) (fun _ _ _ h => h) (Or.inl ⟨by rfl, ?_⟩) (by assumption) ?_
                          rotate_left
                          · intro w hSw; (try dsimp only at hSw); go_simp; (try with_reducible rfl)
                          (try simp only [Act.put, List.getElem_toArray, List.getElem_cons_zero, List.getElem_cons_succ, List.setIfInBounds_toArray, List.set_cons_zero, List.set_cons_succ])
                          refine wpG_take 16 5 (v := ?_) rfl (by kernel_rfl) (fun _ _ _ h => h) (Or.inl ⟨by rfl, ?_⟩) (by assumption) ?_
                          rotate_left
                          · intro w hSw; (try dsimp only at hSw); go_simp; (try with_reducible rfl)
                          (try simp only [Act.put, List.getElem_toArray, List.getElem_cons_zero, List.getElem_cons_succ, List.setIfInBounds_toArray, List.set_cons_zero, List.set_cons_succ])
                          refine wpG_take 16 6 (v := ?_) rfl (by kernel_rfl) (fun _ _ _ h => h) (Or.inl ⟨by rfl, ?_⟩) (by assumption) ?_
                          rotate_left
                          · intro w hSw; (try dsimp only at hSw); go_simp; (try with_reducible rfl)
                          (try simp only [Act.put, List.getElem_toArray, List.getElem_cons_zero, List.getElem_cons_succ, List.setIfInBounds_toArray, List.set_cons_zero, List.set_cons_succ])
                          refine wpG_take 16 7 (v := ?_) rfl (by kernel_rfl) (fun _ _ _ h => h) (Or.inl ⟨by rfl, ?_⟩) (by assumption) ?_
                          rotate_left
                          · intro w hSw; (try dsimp only at hSw); go_simp; (try with_reducible rfl)
                          (try simp only [Act.put, List.getElem_toArray, List.getElem_cons_zero, List.getElem_cons_succ, List.setIfInBounds_toArray, List.set_cons_zero, List.set_cons_succ])
                          refine wpG_take 16 10 (v := ?_) rfl (by kernel_rfl) (fun _ _ _ h => h) (Or.inl ⟨by rfl, ?_⟩) (by assumption) ?_
                          rotate_left
                          · intro w hSw; (try dsimp only at hSw); go_simp; (try with_reducible rfl)
                          (try simp only [Act.put, List.getElem_toArray, List.getElem_cons_zero, List.getElem_cons_succ, List.setIfInBounds_toArray, List.set_cons_zero, List.set_cons_succ])
                          refine wpG_take 16 11 (v := ?_) rfl (by kernel_rfl) (fun _ _ _ h => h) (Or.inl ⟨by rfl, ?_⟩) (by assumption) ?_
                          rotate_left
                          · intro w hSw; (try dsimp only at hSw); go_simp; (try with_reducible rfl)
                          (try simp only [Act.put, List.getElem_toArray, List.getElem_cons_zero, List.getElem_cons_succ, List.setIfInBounds_toArray, List.set_cons_zero, List.set_cons_succ])
                          refine wpG_take 16 12 (v := ?_) rfl (by kernel_rfl) (fun _ _ _ h => h) (Or.inl ⟨by rfl, ?_⟩) (by assumption) ?_
                          rotate_left
                          · intro w hSw; (try dsimp only at hSw); go_simp; (try with_reducible rfl)
                          (try simp only [Act.put, List.getElem_toArray, List.getElem_cons_zero, List.getElem_cons_succ, List.setIfInBounds_toArray, List.set_cons_zero, List.set_cons_succ])
                          refine wpG_abs ?_
                          intro a0 ha0
                          have ee1 : a0.eval (.tmp 123) = U1 := by rw [ha0]; rfl
                          have ee2 : a0.eval (.tmp 128) = U2 := by rw [ha0]; rfl
                          have ee3 : a0.eval (.tmp 133) = U3 := by rw [ha0]; rfl
                          have yy1 : a0.eval (.tmp 124) = .int .i64 (60 * p.w) := by rw [ha0]; rfl
                          have yy2 : a0.eval (.tmp 129) = .int .i64 (60 * p.h - t) := by rw [ha0]; rfl
                          have yy3 : a0.eval (.tmp 134) = .int .i64 (t) := by rw [ha0]; rfl
                          have ee7 : a0.eval (.tmp 8) = .pointer (some ⟨jb + 1, 0, none⟩) := by rw [ha0]; rfl
                          have hsz : 137 < a0.tmps.size := by rw [ha0]; exact (by decide : (137 : Nat) < 201)
                          refine app3B (n := 16) a0 Ws.drew (jb + 2) U1 U2 U3 (.pointer (some ⟨jb + 1, 0, none⟩)) (.pointer (some ⟨jb + 1, 0, none⟩)) (slkW f (trv f zs) k) (slkH f (trv f zs) k) (slkT (trv f zs) k) (60 * p.w) (60 * p.h - t) (t) _ (fun ls => splitB .any _ 16 && headB .any _ 16 ls && Region.free .any _ ls 15 && (Region.ready .any _ ls).contains 15 && decide (15 < 16)) ?hS HBS.out ?n1 ?n2 ?n3 hsz ee1 yy1 ee2 yy2 ee3 yy3 ee7
                            (fun a W K hy hK => by refine wpOp_step rfl (fun K' hK' => ?_); rw [if_pos (by simp [Region.wanted])]; have hy2 : a.tmps[124]?.getD undef = .int .i64 (60 * p.w) := (by rw [← hy]; simp [Act.eval, Array.getD_eq_getD_getElem?]); go_simp; exact hK' _ _ hK)
                            (fun a W K u b l hu hs hown hb hl hbs hK => by refine wpOp_step rfl (fun K' hK' => ?_); refine step_append_lies _ (by rfl) (.tmp 123) (.tmp 125) 23 (by rfl) (jb + 2) 3 inf (.int .i64 0) 1 8 Try.underlying23 hInf hInf0 hInf1 hInf2 rfl (by decide) u l.length (l.map (Value.int .i64)) hu hown ⟨b, 0, none⟩ 1 1 [.int .i64 (60 * p.w)] hs (by rfl) (World.news_of_block hb) (by simp [Value.oneCell']) (by omega) (by simp only [maxLen]; omega) (by omega) hbs W.heap.size rfl (fun g cap w' h1 h2 h3 h4 => hK' _ _ (hK g cap w' h1 h2 h3)))
                            (fun a W K hy hK => by refine wpOp_step rfl (fun K' hK' => ?_); rw [if_pos (by simp [Region.wanted])]; have hy2 : a.tmps[129]?.getD undef = .int .i64 (60 * p.h - t) := (by rw [← hy]; simp [Act.eval, Array.getD_eq_getD_getElem?]); go_simp; exact hK' _ _ hK)
                            (fun a W K u b l hu hs hown hb hl hbs hK => by refine wpOp_step rfl (fun K' hK' => ?_); refine step_append_lies _ (by rfl) (.tmp 128) (.tmp 130) 23 (by rfl) (jb + 2) 3 inf (.int .i64 0) 1 8 Try.underlying23 hInf hInf0 hInf1 hInf2 rfl (by decide) u l.length (l.map (Value.int .i64)) hu hown ⟨b, 0, none⟩ 1 1 [.int .i64 (60 * p.h - t)] hs (by rfl) (World.news_of_block hb) (by simp [Value.oneCell']) (by omega) (by simp only [maxLen]; omega) (by omega) hbs W.heap.size rfl (fun g cap w' h1 h2 h3 h4 => hK' _ _ (hK g cap w' h1 h2 h3)))
                            (fun a W K hy hK => by refine wpOp_step rfl (fun K' hK' => ?_); rw [if_pos (by simp [Region.wanted])]; have hy2 : a.tmps[134]?.getD undef = .int .i64 (t) := (by rw [← hy]; simp [Act.eval, Array.getD_eq_getD_getElem?]); go_simp; exact hK' _ _ hK)
                            (fun a W K u b l hu hs hown hb hl hbs hK => by refine wpOp_step rfl (fun K' hK' => ?_); refine step_append_lies _ (by rfl) (.tmp 133) (.tmp 135) 23 (by rfl) (jb + 2) 3 inf (.int .i64 0) 1 8 Try.underlying23 hInf hInf0 hInf1 hInf2 rfl (by decide) u l.length (l.map (Value.int .i64)) hu hown ⟨b, 0, none⟩ 1 1 [.int .i64 (t)] hs (by rfl) (World.news_of_block hb) (by simp [Value.oneCell']) (by omega) (by simp only [maxLen]; omega) (by omega) hbs W.heap.size rfl (fun g cap w' h1 h2 h3 h4 => hK' _ _ (hK g cap w' h1 h2 h3)))
                            (fun f ls a W h he hs h2 => wpG_take 16 15 rfl h (fun _ _ _ h => h) (Or.inl ⟨by rfl, fun w hSw => by have he2 : a.tmps[8]?.getD undef = .pointer (some ⟨jb + 1, 0, none⟩) := (by rw [← he]; simp [Act.eval, Array.getD_eq_getD_getElem?]); (try dsimp only at hSw); go_simp⟩) hs h2)
                            (by kernel_rfl) (by kernel_rfl) (by kernel_rfl) (by kernel_rfl) (by kernel_rfl) (by kernel_rfl) (by kernel_rfl) (by kernel_rfl) (by kernel_rfl) (by kernel_rfl) (by kernel_rfl) (by kernel_rfl) (by kernel_rfl) (by kernel_rfl) (by kernel_rfl) (by kernel_rfl) (by kernel_rfl) (by kernel_rfl)
                            ?hK HTR.out
                          case hS =>
                            intro W hF
                            have hb : Blk W (jb + 1) 39 #[U1, U2, U3] := (hF.bl HBX.out.lt (fun hh => by have := (HLB4.out.tu.lt hh).1; omega)).trans HBX.out
                            exact ⟨hb.cell 0, hb.cell 1, hb.cell 2⟩
                          case n1 => rw [(slk_len f (trv f zs) k).1]; omega
                          case n2 => rw [(slk_len f (trv f zs) k).2.1]; omega
                          case n3 => rw [(slk_len f (trv f zs) k).2.2]; omega
                          case hK =>
                            intro W9 u1 u2 u3 s1 s2 s3 hF r1 r2 r3 d12 d13 d23
                            have HLB5 := Lib.hid (HLB4.out.drew.loose hF r1 r2 r3 d12 d13 d23)
                            have hbk : Blk W9 (jb + 1) 39 #[U1, U2, U3] := (hF.bl HBX.out.lt (fun hh => by have := (HLB4.out.tu.lt hh).1; omega)).trans HBX.out
                            obtain ⟨o4, c4, rfl⟩ := own_slice r1.own
                            obtain ⟨o5, c5, rfl⟩ := own_slice r2.own
                            obtain ⟨o6, c6, rfl⟩ := own_slice r3.own
                            generalize (slkW f (trv f zs) k ++ [60 * p.w]).length = L4 at *
                            generalize (slkH f (trv f zs) k ++ [60 * p.h - t]).length = L5 at *
                            generalize (slkT (trv f zs) k ++ [t]).length = L6 at *
                            have HLB6 : Hid (∃ J1 J2 J3 U1 U2 U3, LB w (((W9.setCell ⟨jb + 1, 0, none⟩ (.slice o4 L4 c4)).setCell ⟨jb + 1, 1, none⟩ (.slice o5 L5 c5)).setCell ⟨jb + 1, 2, none⟩ (.slice o6 L6 c6)) f (some ⟨b, off, none⟩) b off c jb (jb + 2) J1 J2 J3 U1 U2 U3 (slkW f (fun _ => 0) (k + 1)) (slkH f (fun _ => 0) (k + 1)) (slkT (fun _ => 0) (k + 1)) (slkW f (trv f zs) (k + 1)) (slkH f (trv f zs) (k + 1)) (slkT (trv f zs) (k + 1))) := by
                              have h1 : slkW f (trv f zs) (k + 1) = slkW f (trv f zs) k ++ [60 * p.w] := by rw [HSW.out, HT.out]; rw [if_neg h3, Int.sub_zero]
                              have h2 : slkH f (trv f zs) (k + 1) = slkH f (trv f zs) k ++ [60 * p.h - t] := by rw [HSH.out, HT.out]; rw [if_pos h4]
                              have h3 : slkT (trv f zs) (k + 1) = slkT (trv f zs) k ++ [t] := by rw [slkT_snoc, HT.out]
                              rw [h1, h2, h3]
                              exact (show _ from ⟨_, _, _, _, _, _, HLB5.out⟩)
                            have q0 := hbk.cell 0
                            have q1 := hbk.cell 1
                            have q2 := hbk.cell 2
                            have f0 := hbk.frozen 0
                            have f1 := hbk.frozen 1
                            have f2 := hbk.frozen 2
                            rw [ha0]
                            (try simp only [Act.put, List.getElem_toArray, List.getElem_cons_zero, List.getElem_cons_succ, List.setIfInBounds_toArray, List.set_cons_zero, List.set_cons_succ])
                            refine ⟨by kernel_rfl, ?_⟩
                            simp only [List.drop_succ_cons, List.drop_zero]
                            clear ee1 ee2 ee3 ee7 yy1 yy2 yy3 hsz ha0 a0 hF r1 r2 r3 d12 d13 d23 hbk HBX HBS HTR hS0 HLB5 HLB4 hpk hpz hnb
                            go_wp2_with fail
                            go_roundg (f.ps.length - (k + 1))
                            case measure => omega
                            exact ⟨k + 1, by omega, by omega, by simp, HLB6⟩
                        · skip
                          have HT : Hid (trv f zs k = gz zs k % (60 * p.h)) := (show _ = _ by rw [HTV.out, if_pos hkz, if_neg h3, if_pos h4, show min (60 * p.h) 6000 = (60 * p.h) by omega])
                          have m1 := Int.emod_nonneg (gz zs k) (show (60 * p.h) ≠ 0 by omega)
                          have m2 := Int.emod_lt_of_pos (gz zs k) (show 0 < (60 * p.h) by omega)
                          go_wp2_with fail
                          refine (mod_any _ _ _ (by omega) (by omega)).mono ?_
                          rintro e w5 ⟨rfl, rfl⟩
                          generalize gz zs k % (60 * p.h) = t at *
                          have e3 : IntKind.i64.wrap (60 * p.h - t) = 60 * p.h - t := IntWalk.i64_in _ (by omega)
                          go_wp2_with fail
                          have HBX : Hid (Blk Ws.drew (jb + 1) 39 #[U1, U2, U3]) := HLB4.out.bl
                          have HBS : Hid (jb + 2 ≤ Ws.drew.heap.size) := HLB4.out.hz
                          have HTR := Lib.hid ((HLB4.out.tu.drew).t3 (x1 := 60 * p.w) (x2 := 60 * p.h - t) (x3 := t))
                          have hS0 : (Ws.drew.cell? ⟨jb + 1, 0, none⟩ = some U1 ∧ Ws.drew.cell? ⟨jb + 1, 1, none⟩ = some U2 ∧ Ws.drew.cell? ⟨jb + 1, 2, none⟩ = some U3) := ⟨HBX.out.cell 0, HBX.out.cell 1, HBX.out.cell 2⟩
                          refine wp_region_split (fun W => (W.cell? ⟨jb + 1, 0, none⟩ = some U1 ∧ W.cell? ⟨jb + 1, 1, none⟩ = some U2 ∧ W.cell? ⟨jb + 1, 2, none⟩ = some U3)) 16 (by kernel_rfl) (by decide) ?_
                          refine wpG_take 16 0 (v := ?_) rfl (by kernel_rfl) (fun _ _ _ h => h) (Or.inl ⟨by rfl, ?_⟩) (by assumption) ?_
                          rotate_left
                          · intro w hSw; (try dsimp only at hSw); go_simp; (try with_reducible rfl)
                          (try simp only [Act.put, List.getElem_toArray, List.getElem_cons_zero, List.getElem_cons_succ, List.setIfInBounds_toArray, List.set_cons_zero, List.set_cons_succ])
                          refine wpG_take 16 1 (v := ?_) rfl (by kernel_rfl) (fun _ _ _ h => h) (Or.inl ⟨by rfl, ?_⟩) (by assumption) ?_
                          rotate_left
                          · intro w hSw; (try dsimp only at hSw); go_simp; (try with_reducible rfl)
                          (try simp only [Act.put, List.getElem_toArray, List.getElem_cons_zero, List.getElem_cons_succ, List.setIfInBounds_toArray, List.set_cons_zero, List.set_cons_succ])
                          refine wpG_take 16 2 (v := ?_) rfl (by kernel_rfl) (fun _ _ _ h => h) (Or.inl ⟨by rfl, ?_⟩) (by assumption) ?_
                          rotate_left
                          · intro w hSw; (try dsimp only at hSw); go_simp; (try with_reducible rfl)
                          (try simp only [Act.put, List.getElem_toArray, List.getElem_cons_zero, List.getElem_cons_succ, List.setIfInBounds_toArray, List.set_cons_zero, List.set_cons_succ])
                          refine wpG_take 16 5 (v := ?_) rfl (by kernel_rfl) (fun _ _ _ h => h) (Or.inl ⟨by rfl, ?_⟩) (by assumption) ?_
                          rotate_left
                          · intro w hSw; (try dsimp only at hSw); go_simp; (try with_reducible rfl)
                          (try simp only [Act.put, List.getElem_toArray, List.getElem_cons_zero, List.getElem_cons_succ, List.setIfInBounds_toArray, List.set_cons_zero, List.set_cons_succ])
                          refine wpG_take 16 6 (v := ?_) rfl (by kernel_rfl) (fun _ _ _ h => h) (Or.inl ⟨by rfl, ?_⟩) (by assumption) ?_
                          rotate_left
                          · intro w hSw; (try dsimp only at hSw); go_simp; (try with_reducible rfl)
                          (try simp only [Act.put, List.getElem_toArray, List.getElem_cons_zero, List.getElem_cons_succ, List.setIfInBounds_toArray, List.set_cons_zero, List.set_cons_succ])
                          refine wpG_take 16 7 (v := ?_) rfl (by kernel_rfl) (fun _ _ _ h => h) (Or.inl ⟨by rfl, ?_⟩) (by assumption) ?_
                          rotate_left
                          · intro w hSw; (try dsimp only at hSw); go_simp; (try with_reducible rfl)
                          (try simp only [Act.put, List.getElem_toArray, List.getElem_cons_zero, List.getElem_cons_succ, List.setIfInBounds_toArray, List.set_cons_zero, List.set_cons_succ])
                          refine wpG_take 16 10 (v := ?_) rfl (by kernel_rfl) (fun _ _ _ h => h) (Or.inl ⟨by rfl, ?_⟩) (by assumption) ?_
                          rotate_left
                          · intro w hSw; (try dsimp only at hSw); go_simp; (try with_reducible rfl)
                          (try simp only [Act.put, List.getElem_toArray, List.getElem_cons_zero, List.getElem_cons_succ, List.setIfInBounds_toArray, List.set_cons_zero, List.set_cons_succ])
                          refine wpG_take 16 11 (v := ?_) rfl (by kernel_rfl) (fun _ _ _ h => h) (Or.inl ⟨by rfl, ?_⟩) (by assumption) ?_
                          rotate_left
                          · intro w hSw; (try dsimp only at hSw); go_simp; (try with_reducible rfl)
                          (try simp only [Act.put, List.getElem_toArray, List.getElem_cons_zero, List.getElem_cons_succ, List.setIfInBounds_toArray, List.set_cons_zero, List.set_cons_succ])
                          refine wpG_take 16 12 (v := ?_) rfl (by kernel_rfl) (fun _ _ _ h => h) (Or.inl ⟨by rfl, ?_⟩) (by assumption) ?_
                          rotate_left
                          · intro w hSw; (try dsimp only at hSw); go_simp; (try with_reducible rfl)
                          (try simp only [Act.put, List.getElem_toArray, List.getElem_cons_zero, List.getElem_cons_succ, List.setIfInBounds_toArray, List.set_cons_zero, List.set_cons_succ])
                          refine wpG_abs ?_
                          intro a0 ha0
                          have ee1 : a0.eval (.tmp 123) = U1 := by rw [ha0]; rfl
                          have ee2 : a0.eval (.tmp 128) = U2 := by rw [ha0]; rfl
                          have ee3 : a0.eval (.tmp 133) = U3 := by rw [ha0]; rfl
                          have yy1 : a0.eval (.tmp 124) = .int .i64 (60 * p.w) := by rw [ha0]; rfl
                          have yy2 : a0.eval (.tmp 129) = .int .i64 (60 * p.h - t) := by rw [ha0]; rfl
                          have yy3 : a0.eval (.tmp 134) = .int .i64 (t) := by rw [ha0]; rfl
                          have ee7 : a0.eval (.tmp 8) = .pointer (some ⟨jb + 1, 0, none⟩) := by rw [ha0]; rfl
                          have hsz : 137 < a0.tmps.size := by rw [ha0]; exact (by decide : (137 : Nat) < 201)
                          refine app3B (n := 16) a0 Ws.drew (jb + 2) U1 U2 U3 (.pointer (some ⟨jb + 1, 0, none⟩)) (.pointer (some ⟨jb + 1, 0, none⟩)) (slkW f (trv f zs) k) (slkH f (trv f zs) k) (slkT (trv f zs) k) (60 * p.w) (60 * p.h - t) (t) _ (fun ls => splitB .any _ 16 && headB .any _ 16 ls && Region.free .any _ ls 15 && (Region.ready .any _ ls).contains 15 && decide (15 < 16)) ?hS HBS.out ?n1 ?n2 ?n3 hsz ee1 yy1 ee2 yy2 ee3 yy3 ee7
                            (fun a W K hy hK => by refine wpOp_step rfl (fun K' hK' => ?_); rw [if_pos (by simp [Region.wanted])]; have hy2 : a.tmps[124]?.getD undef = .int .i64 (60 * p.w) := (by rw [← hy]; simp [Act.eval, Array.getD_eq_getD_getElem?]); go_simp; exact hK' _ _ hK)
                            (fun a W K u b l hu hs hown hb hl hbs hK => by refine wpOp_step rfl (fun K' hK' => ?_); refine step_append_lies _ (by rfl) (.tmp 123) (.tmp 125) 23 (by rfl) (jb + 2) 3 inf (.int .i64 0) 1 8 Try.underlying23 hInf hInf0 hInf1 hInf2 rfl (by decide) u l.length (l.map (Value.int .i64)) hu hown ⟨b, 0, none⟩ 1 1 [.int .i64 (60 * p.w)] hs (by rfl) (World.news_of_block hb) (by simp [Value.oneCell']) (by omega) (by simp only [maxLen]; omega) (by omega) hbs W.heap.size rfl (fun g cap w' h1 h2 h3 h4 => hK' _ _ (hK g cap w' h1 h2 h3)))
                            (fun a W K hy hK => by refine wpOp_step rfl (fun K' hK' => ?_); rw [if_pos (by simp [Region.wanted])]; have hy2 : a.tmps[129]?.getD undef = .int .i64 (60 * p.h - t) := (by rw [← hy]; simp [Act.eval, Array.getD_eq_getD_getElem?]); go_simp; exact hK' _ _ hK)
                            (fun a W K u b l hu hs hown hb hl hbs hK => by refine wpOp_step rfl (fun K' hK' => ?_); refine step_append_lies _ (by rfl) (.tmp 128) (.tmp 130) 23 (by rfl) (jb + 2) 3 inf (.int .i64 0) 1 8 Try.underlying23 hInf hInf0 hInf1 hInf2 rfl (by decide) u l.length (l.map (Value.int .i64)) hu hown ⟨b, 0, none⟩ 1 1 [.int .i64 (60 * p.h - t)] hs (by rfl) (World.news_of_block hb) (by simp [Value.oneCell']) (by omega) (by simp only [maxLen]; omega) (by omega) hbs W.heap.size rfl (fun g cap w' h1 h2 h3 h4 => hK' _ _ (hK g cap w' h1 h2 h3)))
                            (fun a W K hy hK => by refine wpOp_step rfl (fun K' hK' => ?_); rw [if_pos (by simp [Region.wanted])]; have hy2 : a.tmps[134]?.getD undef = .int .i64 (t) := (by rw [← hy]; simp [Act.eval, Array.getD_eq_getD_getElem?]); go_simp; exact hK' _ _ hK)
                            (fun a W K u b l hu hs hown hb hl hbs hK => by refine wpOp_step rfl (fun K' hK' => ?_); refine step_append_lies _ (by rfl) (.tmp 133) (.tmp 135) 23 (by rfl) (jb + 2) 3 inf (.int .i64 0) 1 8 Try.underlying23 hInf hInf0 hInf1 hInf2 rfl (by decide) u l.length (l.map (Value.int .i64)) hu hown ⟨b, 0, none⟩ 1 1 [.int .i64 (t)] hs (by rfl) (World.news_of_block hb) (by simp [Value.oneCell']) (by omega) (by simp only [maxLen]; omega) (by omega) hbs W.heap.size rfl (fun g cap w' h1 h2 h3 h4 => hK' _ _ (hK g cap w' h1 h2 h3)))
                            (fun f ls a W h he hs h2 => wpG_take 16 15 rfl h (fun _ _ _ h => h) (Or.inl ⟨by rfl, fun w hSw => by have he2 : a.tmps[8]?.getD undef = .pointer (some ⟨jb + 1, 0, none⟩) := (by rw [← he]; simp [Act.eval, Array.getD_eq_getD_getElem?]); (try dsimp only at hSw); go_simp⟩) hs h2)
                            (by kernel_rfl) (by kernel_rfl) (by kernel_rfl) (by kernel_rfl) (by kernel_rfl) (by kernel_rfl) (by kernel_rfl) (by kernel_rfl) (by kernel_rfl) (by kernel_rfl) (by kernel_rfl) (by kernel_rfl) (by kernel_rfl) (by kernel_rfl) (by kernel_rfl) (by kernel_rfl) (by kernel_rfl) (by kernel_rfl)
                            ?hK HTR.out
                          case hS =>
                            intro W hF
                            have hb : Blk W (jb + 1) 39 #[U1, U2, U3] := (hF.bl HBX.out.lt (fun hh => by have := (HLB4.out.tu.lt hh).1; omega)).trans HBX.out
                            exact ⟨hb.cell 0, hb.cell 1, hb.cell 2⟩
                          case n1 => rw [(slk_len f (trv f zs) k).1]; omega
                          case n2 => rw [(slk_len f (trv f zs) k).2.1]; omega
                          case n3 => rw [(slk_len f (trv f zs) k).2.2]; omega
                          case hK =>
                            intro W9 u1 u2 u3 s1 s2 s3 hF r1 r2 r3 d12 d13 d23
                            have HLB5 := Lib.hid (HLB4.out.drew.loose hF r1 r2 r3 d12 d13 d23)
                            have hbk : Blk W9 (jb + 1) 39 #[U1, U2, U3] := (hF.bl HBX.out.lt (fun hh => by have := (HLB4.out.tu.lt hh).1; omega)).trans HBX.out
                            obtain ⟨o4, c4, rfl⟩ := own_slice r1.own
                            obtain ⟨o5, c5, rfl⟩ := own_slice r2.own
                            obtain ⟨o6, c6, rfl⟩ := own_slice r3.own
                            generalize (slkW f (trv f zs) k ++ [60 * p.w]).length = L4 at *
                            generalize (slkH f (trv f zs) k ++ [60 * p.h - t]).length = L5 at *
                            generalize (slkT (trv f zs) k ++ [t]).length = L6 at *
                            have HLB6 : Hid (∃ J1 J2 J3 U1 U2 U3, LB w (((W9.setCell ⟨jb + 1, 0, none⟩ (.slice o4 L4 c4)).setCell ⟨jb + 1, 1, none⟩ (.slice o5 L5 c5)).setCell ⟨jb + 1, 2, none⟩ (.slice o6 L6 c6)) f (some ⟨b, off, none⟩) b off c jb (jb + 2) J1 J2 J3 U1 U2 U3 (slkW f (fun _ => 0) (k + 1)) (slkH f (fun _ => 0) (k + 1)) (slkT (fun _ => 0) (k + 1)) (slkW f (trv f zs) (k + 1)) (slkH f (trv f zs) (k + 1)) (slkT (trv f zs) (k + 1))) := by
                              have h1 : slkW f (trv f zs) (k + 1) = slkW f (trv f zs) k ++ [60 * p.w] := by rw [HSW.out, HT.out]; rw [if_neg h3, Int.sub_zero]
                              have h2 : slkH f (trv f zs) (k + 1) = slkH f (trv f zs) k ++ [60 * p.h - t] := by rw [HSH.out, HT.out]; rw [if_pos h4]
                              have h3 : slkT (trv f zs) (k + 1) = slkT (trv f zs) k ++ [t] := by rw [slkT_snoc, HT.out]
                              rw [h1, h2, h3]
                              exact (show _ from ⟨_, _, _, _, _, _, HLB5.out⟩)
                            have q0 := hbk.cell 0
                            have q1 := hbk.cell 1
                            have q2 := hbk.cell 2
                            have f0 := hbk.frozen 0
                            have f1 := hbk.frozen 1
                            have f2 := hbk.frozen 2
                            rw [ha0]
                            (try simp only [Act.put, List.getElem_toArray, List.getElem_cons_zero, List.getElem_cons_succ, List.setIfInBounds_toArray, List.set_cons_zero, List.set_cons_succ])
                            refine ⟨by kernel_rfl, ?_⟩
                            simp only [List.drop_succ_cons, List.drop_zero]
                            clear ee1 ee2 ee3 ee7 yy1 yy2 yy3 hsz ha0 a0 hF r1 r2 r3 d12 d13 d23 hbk HBX HBS HTR hS0 HLB5 HLB4 hpk hpz hnb
                            go_wp2_with fail
                            go_roundg (f.ps.length - (k + 1))
                            case measure => omega
                            exact ⟨k + 1, by omega, by omega, by simp, HLB6⟩
                      · skip
                        have HT : Hid (trv f zs k = 0) := (show _ = _ by rw [HTV.out, if_pos hkz, if_neg h3, if_neg h4])
                        go_wp2_with fail
                        have HBX : Hid (Blk Ws.drew (jb + 1) 39 #[U1, U2, U3]) := HLB4.out.bl
                        have HBS : Hid (jb + 2 ≤ Ws.drew.heap.size) := HLB4.out.hz
                        have HTR := Lib.hid ((HLB4.out.tu.drew).t3 (x1 := 60 * p.w) (x2 := 60 * p.h) (x3 := 0))
                        have hS0 : (Ws.drew.cell? ⟨jb + 1, 0, none⟩ = some U1 ∧ Ws.drew.cell? ⟨jb + 1, 1, none⟩ = some U2 ∧ Ws.drew.cell? ⟨jb + 1, 2, none⟩ = some U3) := ⟨HBX.out.cell 0, HBX.out.cell 1, HBX.out.cell 2⟩
                        refine wp_region_split (fun W => (W.cell? ⟨jb + 1, 0, none⟩ = some U1 ∧ W.cell? ⟨jb + 1, 1, none⟩ = some U2 ∧ W.cell? ⟨jb + 1, 2, none⟩ = some U3)) 16 (by kernel_rfl) (by decide) ?_
                        refine wpG_take 16 0 (v := ?_) rfl (by kernel_rfl) (fun _ _ _ h => h) (Or.inl ⟨by rfl, ?_⟩) (by assumption) ?_
                        rotate_left
                        · intro w hSw; (try dsimp only at hSw); go_simp; (try with_reducible rfl)
                        (try simp only [Act.put, List.getElem_toArray, List.getElem_cons_zero, List.getElem_cons_succ, List.setIfInBounds_toArray, List.set_cons_zero, List.set_cons_succ])
                        refine wpG_take 16 1 (v := ?_) rfl (by kernel_rfl) (fun _ _ _ h => h) (Or.inl ⟨by rfl, ?_⟩) (by assumption) ?_
                        rotate_left
                        · intro w hSw; (try dsimp only at hSw); go_simp; (try with_reducible rfl)
                        (try simp only [Act.put, List.getElem_toArray, List.getElem_cons_zero, List.getElem_cons_succ, List.setIfInBounds_toArray, List.set_cons_zero, List.set_cons_succ])
                        refine wpG_take 16 2 (v := ?_) rfl (by kernel_rfl) (fun _ _ _ h => h) (Or.inl ⟨by rfl, ?_⟩) (by assumption) ?_
                        rotate_left
                        · intro w hSw; (try dsimp only at hSw); go_simp; (try with_reducible rfl)
                        (try simp only [Act.put, List.getElem_toArray, List.getElem_cons_zero, List.getElem_cons_succ, List.setIfInBounds_toArray, List.set_cons_zero, List.set_cons_succ])
                        refine wpG_take 16 5 (v := ?_) rfl (by kernel_rfl) (fun _ _ _ h => h) (Or.inl ⟨by rfl, ?_⟩) (by assumption) ?_
                        rotate_left
                        · intro w hSw; (try dsimp only at hSw); go_simp; (try with_reducible rfl)
                        (try simp only [Act.put, List.getElem_toArray, List.getElem_cons_zero, List.getElem_cons_succ, List.setIfInBounds_toArray, List.set_cons_zero, List.set_cons_succ])
                        refine wpG_take 16 6 (v := ?_) rfl (by kernel_rfl) (fun _ _ _ h => h) (Or.inl ⟨by rfl, ?_⟩) (by assumption) ?_
                        rotate_left
                        · intro w hSw; (try dsimp only at hSw); go_simp; (try with_reducible rfl)
                        (try simp only [Act.put, List.getElem_toArray, List.getElem_cons_zero, List.getElem_cons_succ, List.setIfInBounds_toArray, List.set_cons_zero, List.set_cons_succ])
                        refine wpG_take 16 7 (v := ?_) rfl (by kernel_rfl) (fun _ _ _ h => h) (Or.inl ⟨by rfl, ?_⟩) (by assumption) ?_
                        rotate_left
                        · intro w hSw; (try dsimp only at hSw); go_simp; (try with_reducible rfl)
                        (try simp only [Act.put, List.getElem_toArray, List.getElem_cons_zero, List.getElem_cons_succ, List.setIfInBounds_toArray, List.set_cons_zero, List.set_cons_succ])
                        refine wpG_take 16 10 (v := ?_) rfl (by kernel_rfl) (fun _ _ _ h => h) (Or.inl ⟨by rfl, ?_⟩) (by assumption) ?_
                        rotate_left
                        · intro w hSw; (try dsimp only at hSw); go_simp; (try with_reducible rfl)
                        (try simp only [Act.put, List.getElem_toArray, List.getElem_cons_zero, List.getElem_cons_succ, List.setIfInBounds_toArray, List.set_cons_zero, List.set_cons_succ])
                        refine wpG_take 16 11 (v := ?_) rfl (by kernel_rfl) (fun _ _ _ h => h) (Or.inl ⟨by rfl, ?_⟩) (by assumption) ?_
                        rotate_left
                        · intro w hSw; (try dsimp only at hSw); go_simp; (try with_reducible rfl)
                        (try simp only [Act.put, List.getElem_toArray, List.getElem_cons_zero, List.getElem_cons_succ, List.setIfInBounds_toArray, List.set_cons_zero, List.set_cons_succ])
                        refine wpG_take 16 12 (v := ?_) rfl (by kernel_rfl) (fun _ _ _ h => h) (Or.inl ⟨by rfl, ?_⟩) (by assumption) ?_
                        rotate_left
                        · intro w hSw; (try dsimp only at hSw); go_simp; (try with_reducible rfl)
                        (try simp only [Act.put, List.getElem_toArray, List.getElem_cons_zero, List.getElem_cons_succ, List.setIfInBounds_toArray, List.set_cons_zero, List.set_cons_succ])
                        refine wpG_abs ?_
                        intro a0 ha0
                        have ee1 : a0.eval (.tmp 123) = U1 := by rw [ha0]; rfl
                        have ee2 : a0.eval (.tmp 128) = U2 := by rw [ha0]; rfl
                        have ee3 : a0.eval (.tmp 133) = U3 := by rw [ha0]; rfl
                        have yy1 : a0.eval (.tmp 124) = .int .i64 (60 * p.w) := by rw [ha0]; rfl
                        have yy2 : a0.eval (.tmp 129) = .int .i64 (60 * p.h) := by rw [ha0]; rfl
                        have yy3 : a0.eval (.tmp 134) = .int .i64 (0) := by rw [ha0]; rfl
                        have ee7 : a0.eval (.tmp 8) = .pointer (some ⟨jb + 1, 0, none⟩) := by rw [ha0]; rfl
                        have hsz : 137 < a0.tmps.size := by rw [ha0]; exact (by decide : (137 : Nat) < 201)
                        refine app3B (n := 16) a0 Ws.drew (jb + 2) U1 U2 U3 (.pointer (some ⟨jb + 1, 0, none⟩)) (.pointer (some ⟨jb + 1, 0, none⟩)) (slkW f (trv f zs) k) (slkH f (trv f zs) k) (slkT (trv f zs) k) (60 * p.w) (60 * p.h) (0) _ (fun ls => splitB .any _ 16 && headB .any _ 16 ls && Region.free .any _ ls 15 && (Region.ready .any _ ls).contains 15 && decide (15 < 16)) ?hS HBS.out ?n1 ?n2 ?n3 hsz ee1 yy1 ee2 yy2 ee3 yy3 ee7
                          (fun a W K hy hK => by refine wpOp_step rfl (fun K' hK' => ?_); rw [if_pos (by simp [Region.wanted])]; have hy2 : a.tmps[124]?.getD undef = .int .i64 (60 * p.w) := (by rw [← hy]; simp [Act.eval, Array.getD_eq_getD_getElem?]); go_simp; exact hK' _ _ hK)
                          (fun a W K u b l hu hs hown hb hl hbs hK => by refine wpOp_step rfl (fun K' hK' => ?_); refine step_append_lies _ (by rfl) (.tmp 123) (.tmp 125) 23 (by rfl) (jb + 2) 3 inf (.int .i64 0) 1 8 Try.underlying23 hInf hInf0 hInf1 hInf2 rfl (by decide) u l.length (l.map (Value.int .i64)) hu hown ⟨b, 0, none⟩ 1 1 [.int .i64 (60 * p.w)] hs (by rfl) (World.news_of_block hb) (by simp [Value.oneCell']) (by omega) (by simp only [maxLen]; omega) (by omega) hbs W.heap.size rfl (fun g cap w' h1 h2 h3 h4 => hK' _ _ (hK g cap w' h1 h2 h3)))
                          (fun a W K hy hK => by refine wpOp_step rfl (fun K' hK' => ?_); rw [if_pos (by simp [Region.wanted])]; have hy2 : a.tmps[129]?.getD undef = .int .i64 (60 * p.h) := (by rw [← hy]; simp [Act.eval, Array.getD_eq_getD_getElem?]); go_simp; exact hK' _ _ hK)
                          (fun a W K u b l hu hs hown hb hl hbs hK => by refine wpOp_step rfl (fun K' hK' => ?_); refine step_append_lies _ (by rfl) (.tmp 128) (.tmp 130) 23 (by rfl) (jb + 2) 3 inf (.int .i64 0) 1 8 Try.underlying23 hInf hInf0 hInf1 hInf2 rfl (by decide) u l.length (l.map (Value.int .i64)) hu hown ⟨b, 0, none⟩ 1 1 [.int .i64 (60 * p.h)] hs (by rfl) (World.news_of_block hb) (by simp [Value.oneCell']) (by omega) (by simp only [maxLen]; omega) (by omega) hbs W.heap.size rfl (fun g cap w' h1 h2 h3 h4 => hK' _ _ (hK g cap w' h1 h2 h3)))
                          (fun a W K hy hK => by refine wpOp_step rfl (fun K' hK' => ?_); rw [if_pos (by simp [Region.wanted])]; have hy2 : a.tmps[134]?.getD undef = .int .i64 (0) := (by rw [← hy]; simp [Act.eval, Array.getD_eq_getD_getElem?]); go_simp; exact hK' _ _ hK)
                          (fun a W K u b l hu hs hown hb hl hbs hK => by refine wpOp_step rfl (fun K' hK' => ?_); refine step_append_lies _ (by rfl) (.tmp 133) (.tmp 135) 23 (by rfl) (jb + 2) 3 inf (.int .i64 0) 1 8 Try.underlying23 hInf hInf0 hInf1 hInf2 rfl (by decide) u l.length (l.map (Value.int .i64)) hu hown ⟨b, 0, none⟩ 1 1 [.int .i64 (0)] hs (by rfl) (World.news_of_block hb) (by simp [Value.oneCell']) (by omega) (by simp only [maxLen]; omega) (by omega) hbs W.heap.size rfl (fun g cap w' h1 h2 h3 h4 => hK' _ _ (hK g cap w' h1 h2 h3)))
                          (fun f ls a W h he hs h2 => wpG_take 16 15 rfl h (fun _ _ _ h => h) (Or.inl ⟨by rfl, fun w hSw => by have he2 : a.tmps[8]?.getD undef = .pointer (some ⟨jb + 1, 0, none⟩) := (by rw [← he]; simp [Act.eval, Array.getD_eq_getD_getElem?]); (try dsimp only at hSw); go_simp⟩) hs h2)
                          (by kernel_rfl) (by kernel_rfl) (by kernel_rfl) (by kernel_rfl) (by kernel_rfl) (by kernel_rfl) (by kernel_rfl) (by kernel_rfl) (by kernel_rfl) (by kernel_rfl) (by kernel_rfl) (by kernel_rfl) (by kernel_rfl) (by kernel_rfl) (by kernel_rfl) (by kernel_rfl) (by kernel_rfl) (by kernel_rfl)
                          ?hK HTR.out
                        case hS =>
                          intro W hF
                          have hb : Blk W (jb + 1) 39 #[U1, U2, U3] := (hF.bl HBX.out.lt (fun hh => by have := (HLB4.out.tu.lt hh).1; omega)).trans HBX.out
                          exact ⟨hb.cell 0, hb.cell 1, hb.cell 2⟩
                        case n1 => rw [(slk_len f (trv f zs) k).1]; omega
                        case n2 => rw [(slk_len f (trv f zs) k).2.1]; omega
                        case n3 => rw [(slk_len f (trv f zs) k).2.2]; omega
                        case hK =>
                          intro W9 u1 u2 u3 s1 s2 s3 hF r1 r2 r3 d12 d13 d23
                          have HLB5 := Lib.hid (HLB4.out.drew.loose hF r1 r2 r3 d12 d13 d23)
                          have hbk : Blk W9 (jb + 1) 39 #[U1, U2, U3] := (hF.bl HBX.out.lt (fun hh => by have := (HLB4.out.tu.lt hh).1; omega)).trans HBX.out
                          obtain ⟨o4, c4, rfl⟩ := own_slice r1.own
                          obtain ⟨o5, c5, rfl⟩ := own_slice r2.own
                          obtain ⟨o6, c6, rfl⟩ := own_slice r3.own
                          generalize (slkW f (trv f zs) k ++ [60 * p.w]).length = L4 at *
                          generalize (slkH f (trv f zs) k ++ [60 * p.h]).length = L5 at *
                          generalize (slkT (trv f zs) k ++ [0]).length = L6 at *
                          have HLB6 : Hid (∃ J1 J2 J3 U1 U2 U3, LB w (((W9.setCell ⟨jb + 1, 0, none⟩ (.slice o4 L4 c4)).setCell ⟨jb + 1, 1, none⟩ (.slice o5 L5 c5)).setCell ⟨jb + 1, 2, none⟩ (.slice o6 L6 c6)) f (some ⟨b, off, none⟩) b off c jb (jb + 2) J1 J2 J3 U1 U2 U3 (slkW f (fun _ => 0) (k + 1)) (slkH f (fun _ => 0) (k + 1)) (slkT (fun _ => 0) (k + 1)) (slkW f (trv f zs) (k + 1)) (slkH f (trv f zs) (k + 1)) (slkT (trv f zs) (k + 1))) := by
                            have h1 : slkW f (trv f zs) (k + 1) = slkW f (trv f zs) k ++ [60 * p.w] := by rw [HSW.out, HT.out]; simp
                            have h2 : slkH f (trv f zs) (k + 1) = slkH f (trv f zs) k ++ [60 * p.h] := by rw [HSH.out, HT.out]; simp
                            have h3 : slkT (trv f zs) (k + 1) = slkT (trv f zs) k ++ [0] := by rw [slkT_snoc, HT.out]
                            rw [h1, h2, h3]
                            exact (show _ from ⟨_, _, _, _, _, _, HLB5.out⟩)
                          have q0 := hbk.cell 0
                          have q1 := hbk.cell 1
                          have q2 := hbk.cell 2
                          have f0 := hbk.frozen 0
                          have f1 := hbk.frozen 1
                          have f2 := hbk.frozen 2
                          rw [ha0]
                          (try simp only [Act.put, List.getElem_toArray, List.getElem_cons_zero, List.getElem_cons_succ, List.setIfInBounds_toArray, List.set_cons_zero, List.set_cons_succ])
                          refine ⟨by kernel_rfl, ?_⟩
                          simp only [List.drop_succ_cons, List.drop_zero]
                          clear ee1 ee2 ee3 ee7 yy1 yy2 yy3 hsz ha0 a0 hF r1 r2 r3 d12 d13 d23 hbk HBX HBS HTR hS0 HLB5 HLB4 hpk hpz hnb
                          go_wp2_with fail
                          go_roundg (f.ps.length - (k + 1))
                          case measure => omega
                          exact ⟨k + 1, by omega, by omega, by simp, HLB6⟩
                  · have hkzz : ¬ (k : Int) < (zs.length : Int) := by omega
                    have HT : Hid (trv f zs k = 0) := (show _ = _ by rw [HTV.out, if_neg hkz])
                    go_wp2_with fail
                    have HBX : Hid (Blk Ws.drew (jb + 1) 39 #[U1, U2, U3]) := HLB4.out.bl
                    have HBS : Hid (jb + 2 ≤ Ws.drew.heap.size) := HLB4.out.hz
                    have HTR := Lib.hid ((HLB4.out.tu.drew).t3 (x1 := 60 * p.w) (x2 := 60 * p.h) (x3 := 0))
                    have hS0 : (Ws.drew.cell? ⟨jb + 1, 0, none⟩ = some U1 ∧ Ws.drew.cell? ⟨jb + 1, 1, none⟩ = some U2 ∧ Ws.drew.cell? ⟨jb + 1, 2, none⟩ = some U3) := ⟨HBX.out.cell 0, HBX.out.cell 1, HBX.out.cell 2⟩
                    refine wp_region_split (fun W => (W.cell? ⟨jb + 1, 0, none⟩ = some U1 ∧ W.cell? ⟨jb + 1, 1, none⟩ = some U2 ∧ W.cell? ⟨jb + 1, 2, none⟩ = some U3)) 16 (by kernel_rfl) (by decide) ?_
                    refine wpG_take 16 0 (v := ?_) rfl (by kernel_rfl) (fun _ _ _ h => h) (Or.inl ⟨by rfl, ?_⟩) (by assumption) ?_
                    rotate_left
                    · intro w hSw; (try dsimp only at hSw); go_simp; (try with_reducible rfl)
                    (try simp only [Act.put, List.getElem_toArray, List.getElem_cons_zero, List.getElem_cons_succ, List.setIfInBounds_toArray, List.set_cons_zero, List.set_cons_succ])
                    refine wpG_take 16 1 (v := ?_) rfl (by kernel_rfl) (fun _ _ _ h => h) (Or.inl ⟨by rfl, ?_⟩) (by assumption) ?_
                    rotate_left
                    · intro w hSw; (try dsimp only at hSw); go_simp; (try with_reducible rfl)
                    (try simp only [Act.put, List.getElem_toArray, List.getElem_cons_zero, List.getElem_cons_succ, List.setIfInBounds_toArray, List.set_cons_zero, List.set_cons_succ])
                    refine wpG_take 16 2 (v := ?_) rfl (by kernel_rfl) (fun _ _ _ h => h) (Or.inl ⟨by rfl, ?_⟩) (by assumption) ?_
                    rotate_left
                    · intro w hSw; (try dsimp only at hSw); go_simp; (try with_reducible rfl)
                    (try simp only [Act.put, List.getElem_toArray, List.getElem_cons_zero, List.getElem_cons_succ, List.setIfInBounds_toArray, List.set_cons_zero, List.set_cons_succ])
                    refine wpG_take 16 5 (v := ?_) rfl (by kernel_rfl) (fun _ _ _ h => h) (Or.inl ⟨by rfl, ?_⟩) (by assumption) ?_
                    rotate_left
                    · intro w hSw; (try dsimp only at hSw); go_simp; (try with_reducible rfl)
                    (try simp only [Act.put, List.getElem_toArray, List.getElem_cons_zero, List.getElem_cons_succ, List.setIfInBounds_toArray, List.set_cons_zero, List.set_cons_succ])
                    refine wpG_take 16 6 (v := ?_) rfl (by kernel_rfl) (fun _ _ _ h => h) (Or.inl ⟨by rfl, ?_⟩) (by assumption) ?_
                    rotate_left
                    · intro w hSw; (try dsimp only at hSw); go_simp; (try with_reducible rfl)
                    (try simp only [Act.put, List.getElem_toArray, List.getElem_cons_zero, List.getElem_cons_succ, List.setIfInBounds_toArray, List.set_cons_zero, List.set_cons_succ])
                    refine wpG_take 16 7 (v := ?_) rfl (by kernel_rfl) (fun _ _ _ h => h) (Or.inl ⟨by rfl, ?_⟩) (by assumption) ?_
                    rotate_left
                    · intro w hSw; (try dsimp only at hSw); go_simp; (try with_reducible rfl)
                    (try simp only [Act.put, List.getElem_toArray, List.getElem_cons_zero, List.getElem_cons_succ, List.setIfInBounds_toArray, List.set_cons_zero, List.set_cons_succ])
                    refine wpG_take 16 10 (v := ?_) rfl (by kernel_rfl) (fun _ _ _ h => h) (Or.inl ⟨by rfl, ?_⟩) (by assumption) ?_
                    rotate_left
                    · intro w hSw; (try dsimp only at hSw); go_simp; (try with_reducible rfl)
                    (try simp only [Act.put, List.getElem_toArray, List.getElem_cons_zero, List.getElem_cons_succ, List.setIfInBounds_toArray, List.set_cons_zero, List.set_cons_succ])
                    refine wpG_take 16 11 (v := ?_) rfl (by kernel_rfl) (fun _ _ _ h => h) (Or.inl ⟨by rfl, ?_⟩) (by assumption) ?_
                    rotate_left
                    · intro w hSw; (try dsimp only at hSw); go_simp; (try with_reducible rfl)
                    (try simp only [Act.put, List.getElem_toArray, List.getElem_cons_zero, List.getElem_cons_succ, List.setIfInBounds_toArray, List.set_cons_zero, List.set_cons_succ])
                    refine wpG_take 16 12 (v := ?_) rfl (by kernel_rfl) (fun _ _ _ h => h) (Or.inl ⟨by rfl, ?_⟩) (by assumption) ?_
                    rotate_left
                    · intro w hSw; (try dsimp only at hSw); go_simp; (try with_reducible rfl)
                    (try simp only [Act.put, List.getElem_toArray, List.getElem_cons_zero, List.getElem_cons_succ, List.setIfInBounds_toArray, List.set_cons_zero, List.set_cons_succ])
                    refine wpG_abs ?_
                    intro a0 ha0
                    have ee1 : a0.eval (.tmp 123) = U1 := by rw [ha0]; rfl
                    have ee2 : a0.eval (.tmp 128) = U2 := by rw [ha0]; rfl
                    have ee3 : a0.eval (.tmp 133) = U3 := by rw [ha0]; rfl
                    have yy1 : a0.eval (.tmp 124) = .int .i64 (60 * p.w) := by rw [ha0]; rfl
                    have yy2 : a0.eval (.tmp 129) = .int .i64 (60 * p.h) := by rw [ha0]; rfl
                    have yy3 : a0.eval (.tmp 134) = .int .i64 (0) := by rw [ha0]; rfl
                    have ee7 : a0.eval (.tmp 8) = .pointer (some ⟨jb + 1, 0, none⟩) := by rw [ha0]; rfl
                    have hsz : 137 < a0.tmps.size := by rw [ha0]; exact (by decide : (137 : Nat) < 201)
                    refine app3B (n := 16) a0 Ws.drew (jb + 2) U1 U2 U3 (.pointer (some ⟨jb + 1, 0, none⟩)) (.pointer (some ⟨jb + 1, 0, none⟩)) (slkW f (trv f zs) k) (slkH f (trv f zs) k) (slkT (trv f zs) k) (60 * p.w) (60 * p.h) (0) _ (fun ls => splitB .any _ 16 && headB .any _ 16 ls && Region.free .any _ ls 15 && (Region.ready .any _ ls).contains 15 && decide (15 < 16)) ?hS HBS.out ?n1 ?n2 ?n3 hsz ee1 yy1 ee2 yy2 ee3 yy3 ee7
                      (fun a W K hy hK => by refine wpOp_step rfl (fun K' hK' => ?_); rw [if_pos (by simp [Region.wanted])]; have hy2 : a.tmps[124]?.getD undef = .int .i64 (60 * p.w) := (by rw [← hy]; simp [Act.eval, Array.getD_eq_getD_getElem?]); go_simp; exact hK' _ _ hK)
                      (fun a W K u b l hu hs hown hb hl hbs hK => by refine wpOp_step rfl (fun K' hK' => ?_); refine step_append_lies _ (by rfl) (.tmp 123) (.tmp 125) 23 (by rfl) (jb + 2) 3 inf (.int .i64 0) 1 8 Try.underlying23 hInf hInf0 hInf1 hInf2 rfl (by decide) u l.length (l.map (Value.int .i64)) hu hown ⟨b, 0, none⟩ 1 1 [.int .i64 (60 * p.w)] hs (by rfl) (World.news_of_block hb) (by simp [Value.oneCell']) (by omega) (by simp only [maxLen]; omega) (by omega) hbs W.heap.size rfl (fun g cap w' h1 h2 h3 h4 => hK' _ _ (hK g cap w' h1 h2 h3)))
                      (fun a W K hy hK => by refine wpOp_step rfl (fun K' hK' => ?_); rw [if_pos (by simp [Region.wanted])]; have hy2 : a.tmps[129]?.getD undef = .int .i64 (60 * p.h) := (by rw [← hy]; simp [Act.eval, Array.getD_eq_getD_getElem?]); go_simp; exact hK' _ _ hK)
                      (fun a W K u b l hu hs hown hb hl hbs hK => by refine wpOp_step rfl (fun K' hK' => ?_); refine step_append_lies _ (by rfl) (.tmp 128) (.tmp 130) 23 (by rfl) (jb + 2) 3 inf (.int .i64 0) 1 8 Try.underlying23 hInf hInf0 hInf1 hInf2 rfl (by decide) u l.length (l.map (Value.int .i64)) hu hown ⟨b, 0, none⟩ 1 1 [.int .i64 (60 * p.h)] hs (by rfl) (World.news_of_block hb) (by simp [Value.oneCell']) (by omega) (by simp only [maxLen]; omega) (by omega) hbs W.heap.size rfl (fun g cap w' h1 h2 h3 h4 => hK' _ _ (hK g cap w' h1 h2 h3)))
                      (fun a W K hy hK => by refine wpOp_step rfl (fun K' hK' => ?_); rw [if_pos (by simp [Region.wanted])]; have hy2 : a.tmps[134]?.getD undef = .int .i64 (0) := (by rw [← hy]; simp [Act.eval, Array.getD_eq_getD_getElem?]); go_simp; exact hK' _ _ hK)
                      (fun a W K u b l hu hs hown hb hl hbs hK => by refine wpOp_step rfl (fun K' hK' => ?_); refine step_append_lies _ (by rfl) (.tmp 133) (.tmp 135) 23 (by rfl) (jb + 2) 3 inf (.int .i64 0) 1 8 Try.underlying23 hInf hInf0 hInf1 hInf2 rfl (by decide) u l.length (l.map (Value.int .i64)) hu hown ⟨b, 0, none⟩ 1 1 [.int .i64 (0)] hs (by rfl) (World.news_of_block hb) (by simp [Value.oneCell']) (by omega) (by simp only [maxLen]; omega) (by omega) hbs W.heap.size rfl (fun g cap w' h1 h2 h3 h4 => hK' _ _ (hK g cap w' h1 h2 h3)))
                      (fun f ls a W h he hs h2 => wpG_take 16 15 rfl h (fun _ _ _ h => h) (Or.inl ⟨by rfl, fun w hSw => by have he2 : a.tmps[8]?.getD undef = .pointer (some ⟨jb + 1, 0, none⟩) := (by rw [← he]; simp [Act.eval, Array.getD_eq_getD_getElem?]); (try dsimp only at hSw); go_simp⟩) hs h2)
                      (by kernel_rfl) (by kernel_rfl) (by kernel_rfl) (by kernel_rfl) (by kernel_rfl) (by kernel_rfl) (by kernel_rfl) (by kernel_rfl) (by kernel_rfl) (by kernel_rfl) (by kernel_rfl) (by kernel_rfl) (by kernel_rfl) (by kernel_rfl) (by kernel_rfl) (by kernel_rfl) (by kernel_rfl) (by kernel_rfl)
                      ?hK HTR.out
                    case hS =>
                      intro W hF
                      have hb : Blk W (jb + 1) 39 #[U1, U2, U3] := (hF.bl HBX.out.lt (fun hh => by have := (HLB4.out.tu.lt hh).1; omega)).trans HBX.out
                      exact ⟨hb.cell 0, hb.cell 1, hb.cell 2⟩
                    case n1 => rw [(slk_len f (trv f zs) k).1]; omega
                    case n2 => rw [(slk_len f (trv f zs) k).2.1]; omega
                    case n3 => rw [(slk_len f (trv f zs) k).2.2]; omega
                    case hK =>
                      intro W9 u1 u2 u3 s1 s2 s3 hF r1 r2 r3 d12 d13 d23
                      have HLB5 := Lib.hid (HLB4.out.drew.loose hF r1 r2 r3 d12 d13 d23)
                      have hbk : Blk W9 (jb + 1) 39 #[U1, U2, U3] := (hF.bl HBX.out.lt (fun hh => by have := (HLB4.out.tu.lt hh).1; omega)).trans HBX.out
                      obtain ⟨o4, c4, rfl⟩ := own_slice r1.own
                      obtain ⟨o5, c5, rfl⟩ := own_slice r2.own
                      obtain ⟨o6, c6, rfl⟩ := own_slice r3.own
                      generalize (slkW f (trv f zs) k ++ [60 * p.w]).length = L4 at *
                      generalize (slkH f (trv f zs) k ++ [60 * p.h]).length = L5 at *
                      generalize (slkT (trv f zs) k ++ [0]).length = L6 at *
                      have HLB6 : Hid (∃ J1 J2 J3 U1 U2 U3, LB w (((W9.setCell ⟨jb + 1, 0, none⟩ (.slice o4 L4 c4)).setCell ⟨jb + 1, 1, none⟩ (.slice o5 L5 c5)).setCell ⟨jb + 1, 2, none⟩ (.slice o6 L6 c6)) f (some ⟨b, off, none⟩) b off c jb (jb + 2) J1 J2 J3 U1 U2 U3 (slkW f (fun _ => 0) (k + 1)) (slkH f (fun _ => 0) (k + 1)) (slkT (fun _ => 0) (k + 1)) (slkW f (trv f zs) (k + 1)) (slkH f (trv f zs) (k + 1)) (slkT (trv f zs) (k + 1))) := by
                        have h1 : slkW f (trv f zs) (k + 1) = slkW f (trv f zs) k ++ [60 * p.w] := by rw [HSW.out, HT.out]; simp
                        have h2 : slkH f (trv f zs) (k + 1) = slkH f (trv f zs) k ++ [60 * p.h] := by rw [HSH.out, HT.out]; simp
                        have h3 : slkT (trv f zs) (k + 1) = slkT (trv f zs) k ++ [0] := by rw [slkT_snoc, HT.out]
                        rw [h1, h2, h3]
                        exact (show _ from ⟨_, _, _, _, _, _, HLB5.out⟩)
                      have q0 := hbk.cell 0
                      have q1 := hbk.cell 1
                      have q2 := hbk.cell 2
                      have f0 := hbk.frozen 0
                      have f1 := hbk.frozen 1
                      have f2 := hbk.frozen 2
                      rw [ha0]
                      (try simp only [Act.put, List.getElem_toArray, List.getElem_cons_zero, List.getElem_cons_succ, List.setIfInBounds_toArray, List.set_cons_zero, List.set_cons_succ])
                      refine ⟨by kernel_rfl, ?_⟩
                      simp only [List.drop_succ_cons, List.drop_zero]
                      clear ee1 ee2 ee3 ee7 yy1 yy2 yy3 hsz ha0 a0 hF r1 r2 r3 d12 d13 d23 hbk HBX HBS HTR hS0 HLB5 HLB4 hpk hpz hnb
                      go_wp2_with fail
                      go_roundg (f.ps.length - (k + 1))
                      case measure => omega
                      exact ⟨k + 1, by omega, by omega, by simp, HLB6⟩
              · have hltz : ¬ (k : Int) < (f.ps.length : Int) := by omega
                have he : k = f.ps.length := by omega
                subst he
                obtain ⟨j1', hlt'⟩ : ∃ n : Nat, n = f.ps.length := ⟨_, rfl⟩
                clear j1' hlt'
                have ls0 := slk_len f (fun _ => 0) f.ps.length
                have lsT := slk_len f (trv f zs) f.ps.length
                obtain ⟨J1, J2, J3, j1, j2, j3, rfl, rfl, rfl, hJ⟩ := hlb.tj.real ls0.1 ls0.2.1 ls0.2.2
                obtain ⟨U1, U2, U3, u1, u2, u3, rfl, rfl, rfl, hU⟩ := hlb.tu.real lsT.1 lsT.2.1 lsT.2.2
                rw [← slk_whole] at hJ hU
                have HLr := Lib.hid hlb.lt
                have HBJ := Lib.hid hlb.bj
                have HBL := Lib.hid hlb.bl
                have HJ := Lib.hid hJ
                have HU := Lib.hid hU
                clear hJ hU hlb ls0 lsT HLB0
                have hc0 := slack_check HCE.out HFU.out (trv_slk HRT.out.toLaid zs)
                have hs2 : (checkR f (slack f fun _ => 0)).2 = 0 := by rw [slack_check HCE.out HFU.out (slk0 HRT.out.toLaid)]
                have H46 : Hid (AtCopies 46 f (slack f (trv f zs)) (DrvYes (slack f fun _ => 0))) := by
                  have := drivenY_at f (slack f (trv f zs)) HNM.out (by omega) (by rw [hc0])
                  rwa [driven_all HRT.out (trv_slk HRT.out.toLaid zs)] at this
                have H37 : Hid (AtCopies 37 f (slack f fun _ => 0) (HeldV f (slack f fun _ => 0))) := fun W vf vr hf hr => (held_at f _ HNM.out (by omega) W vf vr hf hr).mono fun _ _ h => (h.yes hs2).v (by omega)
                have h38 := looseY_at f (slack f fun _ => 0) HNM.out (by omega) hs2
                unfold LooseV at h38
                rw [loose0 HRT.out HFU.out _ (Nat.le_refl _)] at h38
                have H38 := Lib.hid h38
                obtain ⟨hx1, hx2, hx3⟩ := slack_len f fun _ => 0
                have HX1 := Lib.hid hx1
                have HX2 := Lib.hid hx2
                have HX3 := Lib.hid hx3
                have HHX : Hid ((heldL f (slack f fun _ => 0)).length = f.ps.length) := heldL_len f _ _
                have HG3 : Hid (∀ j, j < f.ps.length → gz (heldL f (slack f fun _ => 0)) j = 3) := (show ∀ j, _ from fun j hj => (heldL_get f _ _ j hj).trans (held3 HRT.out HFU.out hj))
                clear hc0 hs2 h38 hx1 hx2 hx3
                unfold HeldV at H37
                unfold DrvYes at H46
                generalize (slack f fun _ => 0) = x at *
                generalize slack f (trv f zs) = y at *
                generalize heldL f x = hl at *
                have a0 := HLr.out.F.cell 0
                have a1 := HLr.out.F.cell 1
                have a2 := HLr.out.F.cell 2
                have d0 : World.cell? wr ⟨jb + 1, 0, none⟩ = some (.slice U1 f.ps.length u1) := HBL.out.cell 0
                have d1 : World.cell? wr ⟨jb + 1, 1, none⟩ = some (.slice U2 f.ps.length u2) := HBL.out.cell 1
                have d2 : World.cell? wr ⟨jb + 1, 2, none⟩ = some (.slice U3 f.ps.length u3) := HBL.out.cell 2
                have h0n : f.ps.length ≠ 0 := fun h => by
                  have e := List.eq_nil_of_length_eq_zero h
                  have h1 := HFU.out
                  have h2 := Int.mul_pos (a := f.W) (b := f.H) (by have := HRT.out.w1; omega) (by have := HRT.out.h1; omega)
                  rw [e] at h1
                  simp [areas] at h1
                  omega
                have HN0 := Lib.hid h0n
                clear h0n
                obtain ⟨rfl, hbw⟩ := HLr.out.la (by have := HN0.out; omega)
                have HCF := Lib.hid (copyF_at f (some ⟨b, off, none⟩) b off c wr.heap.size wr HLr.out.l HLr.out.ps (by omega))
                go_wp2_with fail
                clear a0 a1 a2 d0 d1 d2

                have HK : Hid (∀ W, Below wr.heap.size wr W → (W.cell? ⟨w.heap.size, 0, none⟩ = some (.int .i64 f.W) ∧ W.cell? ⟨w.heap.size, 1, none⟩ = some (.int .i64 f.H) ∧ W.cell? ⟨w.heap.size, 2, none⟩ = some (.slice (some ⟨b, off, none⟩) f.ps.length c) ∧ W.cell? ⟨jb + 1, 0, none⟩ = some (.slice U1 f.ps.length u1) ∧ W.cell? ⟨jb + 1, 1, none⟩ = some (.slice U2 f.ps.length u2) ∧ W.cell? ⟨jb + 1, 2, none⟩ = some (.slice U3 f.ps.length u3))) := (show ∀ W, _ from fun W hW => ⟨(HLr.out.step hW).F.cell 0, (HLr.out.step hW).F.cell 1, (HLr.out.step hW).F.cell 2, (HBL.out.below hW HBL.out.lt).cell 0, (HBL.out.below hW HBL.out.lt).cell 1, (HBL.out.below hW HBL.out.lt).cell 2⟩)
                have h0 : Below wr.heap.size wr wr.drew := (Below.refl _ _).drew
                have H0 := Lib.hid h0
                have hS0 := HK.out wr.drew h0
                clear h0
                go_upto_region 22 with (fail)
                go_cut [14, 15] (fun sp se wx => ∃ (xb : Nat) (X1 X2 X3 : Option Addr) (z1 z2 z3 y1 y2 y3 : Nat), sp = .pointer (some ⟨xb, 0, none⟩) ∧ se = .int .i64 0 ∧ Hid (Below wr.heap.size wr wx) ∧ Hid (XB wx xb f.ps.length x X1 X2 X3 z1 z2 z3 y1 y2 y3))
                case first =>
                  as_aux_lemma =>
                  go_region_held3 (fun W => (W.cell? ⟨w.heap.size, 0, none⟩ = some (.int .i64 f.W) ∧ W.cell? ⟨w.heap.size, 1, none⟩ = some (.int .i64 f.H) ∧ W.cell? ⟨w.heap.size, 2, none⟩ = some (.slice (some ⟨b, off, none⟩) f.ps.length c) ∧ W.cell? ⟨jb + 1, 0, none⟩ = some (.slice U1 f.ps.length u1) ∧ W.cell? ⟨jb + 1, 1, none⟩ = some (.slice U2 f.ps.length u2) ∧ W.cell? ⟨jb + 1, 2, none⟩ = some (.slice U3 f.ps.length u3)))
                    (first
                      | exact hS0
                      | exact HK.out _ hb6
                      | exact HK.out _ (hb6.alloc hb6.size _)
                      | exact HK.out _ (hb5.alloc hb5.size _)
                      | exact HK.out _ ((below_new wr _).drew)
                      | exact HK.out _ hb5
                      | exact HK.out _ ((hb6.setCell (p := ⟨wr.heap.size, 0, none⟩) (Nat.le_refl _) _).setCell (p := ⟨wr.heap.size, 1, none⟩) (Nat.le_refl _) _ |>.setCell (p := ⟨wr.heap.size, 2, none⟩) (Nat.le_refl _) _)
                      | exact HK.out _ ((hb6.setCell (p := ⟨w5.heap.size, 0, none⟩) hb5.size _).setCell (p := ⟨w5.heap.size, 1, none⟩) hb5.size _ |>.setCell (p := ⟨w5.heap.size, 2, none⟩) hb5.size _)
                      | go_keep)
                    (first
                      | (go_at_call 28; (with_reducible refine (HCF.out wr.drew H0.out (Nat.le_refl _)).mono ?_); rintro e w5 ⟨vf, rfl, hf5, hb5'⟩; have hb5 : Below wr.heap.size wr w5 := H0.out.trans hb5')
                      | (go_at_call 28; (with_reducible refine (HCF.out (wr.alloc (Obj.cells #[Value.slice none 0 0, Value.slice none 0 0, Value.slice none 0 0] 39)).drew ((below_new wr (Obj.cells #[Value.slice none 0 0, Value.slice none 0 0, Value.slice none 0 0] 39)).drew) (by simp [World.drew])).mono ?_); rintro e w5 ⟨vf, rfl, hf5, hb5'⟩; have hb5 : Below wr.heap.size wr w5 := ((below_new wr (Obj.cells #[Value.slice none 0 0, Value.slice none 0 0, Value.slice none 0 0] 39)).drew).trans (hb5'.mono ((below_new wr (Obj.cells #[Value.slice none 0 0, Value.slice none 0 0, Value.slice none 0 0] 39)).drew).size); have sbk : Blk w5 wr.heap.size 39 #[Value.slice none 0 0, Value.slice none 0 0, Value.slice none 0 0] := (hb5'.block _ (by simp [World.drew])).trans (Blk.new wr 39 _))
                      | (go_at_call 46; (with_reducible refine (H46.out w5 vf _ hf5 (HU.out.below hb5)).mono ?_); rintro e w6 ⟨v, rfl, ⟨V1, V2, V3, q1, q2, q3, t1, t2, t3, rfl, hra, m1, m2, m3, g1, g2, g3⟩, hb6'⟩; have hb6 : Below wr.heap.size wr w6 := hb5.trans (hb6'.mono hb5.size); have g1 : w5.heap.size ≤ t1 := (by first | omega | (have := g1; simp at this; omega)); have g2 : w5.heap.size ≤ t2 := (by first | omega | (have := g2; simp at this; omega)); have g3 : w5.heap.size ≤ t3 := (by first | omega | (have := g3; simp at this; omega)); (first | (have sbk6 : Blk w6 wr.heap.size 39 #[Value.slice none 0 0, Value.slice none 0 0, Value.slice none 0 0] := sbk.below hb6' sbk.lt; have hu0 : w6.cell? ⟨wr.heap.size, 0, none⟩ = some (Value.slice none 0 0) := sbk6.cell 0; have hu1 : w6.cell? ⟨wr.heap.size, 1, none⟩ = some (Value.slice none 0 0) := sbk6.cell 1; have hu2 : w6.cell? ⟨wr.heap.size, 2, none⟩ = some (Value.slice none 0 0) := sbk6.cell 2; have hf0 := sbk6.frozen 0; have hf1 := sbk6.frozen 1; have hf2 := sbk6.frozen 2; have hsl := sbk6.lt; (try have gsb := sbk.lt)) | skip))
                      | (go_at_call 46; (with_reducible refine (H46.out (w5.alloc (Obj.cells #[Value.slice none 0 0, Value.slice none 0 0, Value.slice none 0 0] 39)) vf _ (hf5.below (below_new w5 (Obj.cells #[Value.slice none 0 0, Value.slice none 0 0, Value.slice none 0 0] 39))) (HU.out.below (hb5.alloc hb5.size (Obj.cells #[Value.slice none 0 0, Value.slice none 0 0, Value.slice none 0 0] 39)))).mono ?_); rintro e w6 ⟨v, rfl, ⟨V1, V2, V3, q1, q2, q3, t1, t2, t3, rfl, hra, m1, m2, m3, g1, g2, g3⟩, hb6'⟩; have hb6 : Below wr.heap.size wr w6 := (hb5.alloc hb5.size (Obj.cells #[Value.slice none 0 0, Value.slice none 0 0, Value.slice none 0 0] 39)).trans (hb6'.mono (hb5.alloc hb5.size (Obj.cells #[Value.slice none 0 0, Value.slice none 0 0, Value.slice none 0 0] 39)).size); have g1 : w5.heap.size + 1 ≤ t1 := (by first | omega | (have := g1; simp at this; omega)); have g2 : w5.heap.size + 1 ≤ t2 := (by first | omega | (have := g2; simp at this; omega)); have g3 : w5.heap.size + 1 ≤ t3 := (by first | omega | (have := g3; simp at this; omega)); (first | (have sbk6 : Blk w6 w5.heap.size 39 #[Value.slice none 0 0, Value.slice none 0 0, Value.slice none 0 0] := (hb6'.block _ (by simp)).trans (Blk.new w5 39 _); have hu0 : w6.cell? ⟨w5.heap.size, 0, none⟩ = some (Value.slice none 0 0) := sbk6.cell 0; have hu1 : w6.cell? ⟨w5.heap.size, 1, none⟩ = some (Value.slice none 0 0) := sbk6.cell 1; have hu2 : w6.cell? ⟨w5.heap.size, 2, none⟩ = some (Value.slice none 0 0) := sbk6.cell 2; have hf0 := sbk6.frozen 0; have hf1 := sbk6.frozen 1; have hf2 := sbk6.frozen 2; have hsl := sbk6.lt; (try have gsb := sbk.lt)) | skip)))
                  all_goals rw [HX1.out, HX2.out, HX3.out]
                  all_goals first
                    | (have hXB := xb_set (x := x) (n := f.ps.length) (B := w5.heap.size) (sb := wr.heap.size) sbk6 hra g1 g2 g3 (gsb) HX1.out HX2.out HX3.out (HX1.out ▸ m1) (HX2.out ▸ m2) (HX3.out ▸ m3)
                       have hBW := ((hb6.setCell (p := ⟨wr.heap.size, 0, none⟩) (Nat.le_refl _) (.slice V1 f.ps.length q1)).setCell (p := ⟨wr.heap.size, 1, none⟩) (Nat.le_refl _) (.slice V2 f.ps.length q2)).setCell (p := ⟨wr.heap.size, 2, none⟩) (Nat.le_refl _) (.slice V3 f.ps.length q3)
                       have HXB := Lib.hid hXB
                       have HBW := Lib.hid hBW
                       clear hXB hBW sbk6 hra g1 g2 g3
                       go_wp2_with fail
                       go_meet
                       exact ⟨wr.heap.size, V1, V2, V3, q1, q2, q3, t1, t2, t3, rfl, rfl, HBW.out, HXB.out⟩)
                    | (have hXB := xb_set (x := x) (n := f.ps.length) (B := w5.heap.size + 1) (sb := w5.heap.size) sbk6 hra g1 g2 g3 (Nat.lt_succ_self _) HX1.out HX2.out HX3.out (HX1.out ▸ m1) (HX2.out ▸ m2) (HX3.out ▸ m3)
                       have hBW := ((hb6.setCell (p := ⟨w5.heap.size, 0, none⟩) (hb5.size) (.slice V1 f.ps.length q1)).setCell (p := ⟨w5.heap.size, 1, none⟩) (hb5.size) (.slice V2 f.ps.length q2)).setCell (p := ⟨w5.heap.size, 2, none⟩) (hb5.size) (.slice V3 f.ps.length q3)
                       have HXB := Lib.hid hXB
                       have HBW := Lib.hid hBW
                       clear hXB hBW sbk6 hra g1 g2 g3
                       go_wp2_with fail
                       go_meet
                       exact ⟨w5.heap.size, V1, V2, V3, q1, q2, q3, t1, t2, t3, rfl, rfl, HBW.out, HXB.out⟩)
                    | (have hXB := xb_new (x := x) (n := f.ps.length) hra HX1.out HX2.out HX3.out (HX1.out ▸ m1) (HX2.out ▸ m2) (HX3.out ▸ m3)
                       have hBW := hb6.alloc hb6.size (.cells #[.slice V1 f.ps.length q1, .slice V2 f.ps.length q2, .slice V3 f.ps.length q3] 39)
                       have HXB := Lib.hid hXB
                       have HBW := Lib.hid hBW
                       clear hXB hBW hra
                       go_wp2_with fail
                       go_meet
                       exact ⟨w6.heap.size, V1, V2, V3, q1, q2, q3, t1, t2, t3, rfl, rfl, HBW.out, HXB.out⟩)
                case rest =>
                  as_aux_lemma =>
                  obtain ⟨xb, X1, X2, X3, z1, z2, z3, y1, y2, y3, rfl, rfl, HB5, HXB⟩ := hcut
                  have HLn := Lib.hid (HLr.out.step HB5.out)
                  have HJn := Lib.hid (HJ.out.below HB5.out)
                  have HBn := Lib.hid (HBJ.out.below HB5.out HBJ.out.lt)
                  clear HLr HJ HBJ HU HBL H46 HCF HK H0 hS0 HB5
                  have HLr := Lib.hid HLn.out
                  have HJ := Lib.hid HJn.out
                  have HBJ := Lib.hid HBn.out
                  clear HLn HJn HBn
                  have a0 := HLr.out.F.cell 0
                  have a1 := HLr.out.F.cell 1
                  have a2 := HLr.out.F.cell 2
                  have x0 : World.cell? wc ⟨xb, 0, none⟩ = some (.slice X1 f.ps.length z1) := HXB.out.blk.cell 0
                  have x1 : World.cell? wc ⟨xb, 1, none⟩ = some (.slice X2 f.ps.length z2) := HXB.out.blk.cell 1
                  have x2 : World.cell? wc ⟨xb, 2, none⟩ = some (.slice X3 f.ps.length z3) := HXB.out.blk.cell 2
                  go_wp2_with fail
                  clear a0 a1 a2 x0 x1 x2

                  have HCF := Lib.hid (copyF_at f (some ⟨b, off, none⟩) b off c wc.heap.size wc HLr.out.l HLr.out.ps (by omega))
                  have HK : Hid (∀ W, Below wc.heap.size wc W → (W.cell? ⟨w.heap.size, 0, none⟩ = some (.int .i64 f.W) ∧ W.cell? ⟨w.heap.size, 1, none⟩ = some (.int .i64 f.H) ∧ W.cell? ⟨w.heap.size, 2, none⟩ = some (.slice (some ⟨b, off, none⟩) f.ps.length c) ∧ W.cell? ⟨xb, 0, none⟩ = some (.slice X1 f.ps.length z1) ∧ W.cell? ⟨xb, 1, none⟩ = some (.slice X2 f.ps.length z2) ∧ W.cell? ⟨xb, 2, none⟩ = some (.slice X3 f.ps.length z3))) := (show ∀ W, _ from fun W hW => ⟨(HLr.out.step hW).F.cell 0, (HLr.out.step hW).F.cell 1, (HLr.out.step hW).F.cell 2, ((HXB.out.below hW).blk).cell 0, ((HXB.out.below hW).blk).cell 1, ((HXB.out.below hW).blk).cell 2⟩)
                  have h0 : Below wc.heap.size wc wc.drew := (Below.refl _ _).drew
                  have H0 := Lib.hid h0
                  have hS0 := HK.out wc.drew h0
                  clear h0
                  go_region_held3 (fun W => (W.cell? ⟨w.heap.size, 0, none⟩ = some (.int .i64 f.W) ∧ W.cell? ⟨w.heap.size, 1, none⟩ = some (.int .i64 f.H) ∧ W.cell? ⟨w.heap.size, 2, none⟩ = some (.slice (some ⟨b, off, none⟩) f.ps.length c) ∧ W.cell? ⟨xb, 0, none⟩ = some (.slice X1 f.ps.length z1) ∧ W.cell? ⟨xb, 1, none⟩ = some (.slice X2 f.ps.length z2) ∧ W.cell? ⟨xb, 2, none⟩ = some (.slice X3 f.ps.length z3)))
                    (first
                      | exact hS0
                      | exact HK.out _ hb6
                      | exact HK.out _ hb5
                      | go_keep)
                    (first
                      | (go_at_call 28; (with_reducible refine (HCF.out _ H0.out (Nat.le_refl _)).mono ?_); rintro e w5 ⟨vf, rfl, hf5, hb5'⟩; have hb5 : Below wc.heap.size wc w5 := H0.out.trans hb5')
                      | (go_at_call 37; (with_reducible refine (H37.out w5 vf _ hf5 (HXB.out.below hb5).at).mono ?_); rintro e W6 ⟨vh, rfl, hvh, hb6'⟩; have hb6 : Below wc.heap.size wc W6 := hb5.trans (hb6'.mono hb5.size)))
                  have HLn := Lib.hid (HLr.out.step hb6)
                  have HXn := Lib.hid (HXB.out.below hb6)
                  have HJn := Lib.hid (HJ.out.below hb6)
                  have HBn := Lib.hid (HBJ.out.below hb6 HBJ.out.lt)
                  have HVH := Lib.hid hvh
                  clear hvh
                  clear HLr HCF HK H0 hS0 hb5 hb5' hb6 hb6' hf5 HXB HJ HBJ
                  have HLr := Lib.hid HLn.out
                  have HXB := Lib.hid HXn.out
                  have HJ := Lib.hid HJn.out
                  have HBJ := Lib.hid HBn.out
                  clear HLn HXn HJn HBn
                  have a0 := HLr.out.F.cell 0
                  have a1 := HLr.out.F.cell 1
                  have a2 := HLr.out.F.cell 2
                  have x0 : World.cell? W6 ⟨xb, 0, none⟩ = some (.slice X1 f.ps.length z1) := HXB.out.blk.cell 0
                  have x1 : World.cell? W6 ⟨xb, 1, none⟩ = some (.slice X2 f.ps.length z2) := HXB.out.blk.cell 1
                  have x2 : World.cell? W6 ⟨xb, 2, none⟩ = some (.slice X3 f.ps.length z3) := HXB.out.blk.cell 2
                  go_wp2_with fail
                  clear a0 a1 a2 x0 x1 x2

                  have HCF := Lib.hid (copyF_at f (some ⟨b, off, none⟩) b off c W6.heap.size W6 HLr.out.l HLr.out.ps (by omega))
                  have HK : Hid (∀ W, Below W6.heap.size W6 W → (W.cell? ⟨w.heap.size, 0, none⟩ = some (.int .i64 f.W) ∧ W.cell? ⟨w.heap.size, 1, none⟩ = some (.int .i64 f.H) ∧ W.cell? ⟨w.heap.size, 2, none⟩ = some (.slice (some ⟨b, off, none⟩) f.ps.length c) ∧ W.cell? ⟨xb, 0, none⟩ = some (.slice X1 f.ps.length z1) ∧ W.cell? ⟨xb, 1, none⟩ = some (.slice X2 f.ps.length z2) ∧ W.cell? ⟨xb, 2, none⟩ = some (.slice X3 f.ps.length z3))) := (show ∀ W, _ from fun W hW => ⟨(HLr.out.step hW).F.cell 0, (HLr.out.step hW).F.cell 1, (HLr.out.step hW).F.cell 2, ((HXB.out.below hW).blk).cell 0, ((HXB.out.below hW).blk).cell 1, ((HXB.out.below hW).blk).cell 2⟩)
                  have h0 : Below W6.heap.size W6 W6.drew := (Below.refl _ _).drew
                  have H0 := Lib.hid h0
                  have hS0 := HK.out W6.drew h0
                  clear h0
                  go_region_held3 (fun W => (W.cell? ⟨w.heap.size, 0, none⟩ = some (.int .i64 f.W) ∧ W.cell? ⟨w.heap.size, 1, none⟩ = some (.int .i64 f.H) ∧ W.cell? ⟨w.heap.size, 2, none⟩ = some (.slice (some ⟨b, off, none⟩) f.ps.length c) ∧ W.cell? ⟨xb, 0, none⟩ = some (.slice X1 f.ps.length z1) ∧ W.cell? ⟨xb, 1, none⟩ = some (.slice X2 f.ps.length z2) ∧ W.cell? ⟨xb, 2, none⟩ = some (.slice X3 f.ps.length z3)))
                    (first
                      | exact hS0
                      | exact HK.out _ hb6
                      | exact HK.out _ hb5
                      | go_keep)
                    (first
                      | (go_at_call 28; (with_reducible refine (HCF.out _ H0.out (Nat.le_refl _)).mono ?_); rintro e w5 ⟨vf, rfl, hf5, hb5'⟩; have hb5 : Below W6.heap.size W6 w5 := H0.out.trans hb5')
                      | (go_at_call 38; (with_reducible refine (H38.out w5 vf _ hf5 (HXB.out.below hb5).at).mono ?_); rintro e W7 ⟨vl, rfl, hvl, hb6'⟩; have hb6 : Below W6.heap.size W6 W7 := hb5.trans (hb6'.mono hb5.size)))
                  have HLn := Lib.hid (HLr.out.step hb6)
                  have HXn := Lib.hid (HXB.out.below hb6)
                  have HJn := Lib.hid (HJ.out.below hb6)
                  have HBn := Lib.hid (HBJ.out.below hb6 HBJ.out.lt)
                  have HVL := Lib.hid hvl
                  have HVn := Lib.hid (HVH.out.below hb6)
                  clear hvl HVH
                  have HVH := Lib.hid HVn.out
                  clear HVn
                  clear HLr HCF HK H0 hS0 hb5 hb5' hb6 hb6' hf5 HXB HJ HBJ
                  have HLr := Lib.hid HLn.out
                  have HXB := Lib.hid HXn.out
                  have HJ := Lib.hid HJn.out
                  have HBJ := Lib.hid HBn.out
                  clear HLn HXn HJn HBn
                  obtain ⟨Ah, bh, ch, rfl, lh, zh, kh, mh⟩ := HVH.out
                  obtain ⟨Al, bl, cl, rfl, -⟩ := HVL.out
                  have LH := Lib.hid lh
                  have ZH := Lib.hid zh
                  clear HVH HVL lh zh kh mh
                  rw [HHX.out] at LH
                  rw [HHX.out]
                  have a0 := HLr.out.F.cell 0
                  have a1 := HLr.out.F.cell 1
                  have a2 := HLr.out.F.cell 2
                  have x0 : World.cell? W7 ⟨xb, 0, none⟩ = some (.slice X1 f.ps.length z1) := HXB.out.blk.cell 0
                  have x1 : World.cell? W7 ⟨xb, 1, none⟩ = some (.slice X2 f.ps.length z2) := HXB.out.blk.cell 1
                  have x2 : World.cell? W7 ⟨xb, 2, none⟩ = some (.slice X3 f.ps.length z3) := HXB.out.blk.cell 2
                  have d0 : World.cell? W7 ⟨jb, 0, none⟩ = some (.slice J1 f.ps.length j1) := HBJ.out.cell 0
                  have d1 : World.cell? W7 ⟨jb, 1, none⟩ = some (.slice J2 f.ps.length j2) := HBJ.out.cell 1
                  have d2 : World.cell? W7 ⟨jb, 2, none⟩ = some (.slice J3 f.ps.length j3) := HBJ.out.cell 2
                  go_wp2_with fail
                  refine (sameReal_any x _ _ W7 HXB.out.at HJ.out (by rw [HX1.out]; omega) (by rw [HX2.out]; omega) (by rw [HX3.out]; omega)).mono ?_
                  rintro e W8 ⟨rfl, e1⟩
                  have HL8 := Lib.hid (HLr.out.step e1)
                  have LH8 := Lib.hid (LH.out.mono e1.size)
                  have ZH8 : Hid (∀ j, j < f.ps.length → W8.cell? ⟨bh, j, none⟩ = some (.int .i64 3)) := (show ∀ j, _ from fun j hj => by
                    have := (ZsAt.mono' (A := Ah) (B := W7.heap.size) (by rw [HHX.out]; exact LH.out) ZH.out e1) j (by rw [HHX.out]; exact hj)
                    rwa [Nat.zero_add, HG3.out j hj] at this)
                  clear HLr HXB HJ HBJ LH ZH e1 a0 a1 a2 d0 d1 d2 x0 x1 x2
                  have a0 := HL8.out.F.cell 0
                  have a1 := HL8.out.F.cell 1
                  have a2 := HL8.out.F.cell 2
                  go_wp2_with fail
                  clear a0 a1 a2
                  go_loopg [20] f.ps.length (fun gg s20 wr => ∃ k : Nat, k ≤ f.ps.length ∧ f.ps.length - k ≤ gg ∧ s20 = .int .i64 k ∧ Hid (Below W8.heap.size W8 wr))
                  case atStart => exact ⟨0, Nat.zero_le _, by omega, rfl, Below.refl _ _⟩
                  case round =>
                    as_aux_lemma =>
                    obtain ⟨k, hk, hgk, rfl, BW⟩ := hrel
                    by_cases hlt : k < f.ps.length
                    · have hltz : (k : Int) < (f.ps.length : Int) := by omega
                      have hk0 : (0 : Int) ≤ (k : Int) := by omega
                      obtain ⟨rfl, hbb⟩ := LH8.out (by omega)
                      have uh := (BW.out.cell (p := ⟨bh, k, none⟩) hbb).trans (ZH8.out k hlt)
                      go_wp2_with fail
                      go_roundg (f.ps.length - (k + 1))
                      case measure => omega
                      case rel =>
                        exact ⟨k + 1, by omega, by omega, by go_num, BW.out⟩
                    · have hltz : ¬ (k : Int) < (f.ps.length : Int) := by omega
                      go_wp2_with fail
                      go_ret
                      exact ⟨rfl, (HL8.out.step BW.out).B⟩
          · have hfb : (f.W * f.H - areas f.ps == 0) = false := by simp [hfu]
            rw [hfb]
            clear hfu
            go_wp2_with fail
            go_ret
            exact ⟨rfl, HL4.out.B⟩
        · generalize (checkF f).1 = cf1 at *
          generalize (checkF f).2 = cf2 at *
          go_wp2_with fail
          go_ret
          exact ⟨rfl, HL.out.B⟩
end Go.Proofs.Ytlfeoofchebbkaa
