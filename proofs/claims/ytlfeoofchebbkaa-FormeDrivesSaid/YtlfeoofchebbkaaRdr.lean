/- ref.Driven: the true sizes behind the driving of all quoins. -/
import Derived.Test.YtlfeoofchebbkaaSrl
import Derived.Test.YtlfeoofchebbkaaCkd
namespace Go.Proofs.Ytlfeoofchebbkaa
set_option linter.unusedSimpArgs false
set_option linter.unusedVariables false
open Go.RowKit
def RdrYes (r : Real) (w : World) (e : Ending) (w' : World) : Prop := ∃ v, e = .returned v ∧ RealAt w' r v ∧ Below w.heap.size w w'
theorem DS.drew {w W : World} {f : Forme} {r : Real} {n : Nat} {A : Option Addr} {c bf rs sb y1 y2 y3 d1 d2 d3 : Nat} (h : DS w W f r n A c bf rs sb y1 y2 y3 d1 d2 d3) : DS w W.drew f r n A c bf rs sb y1 y2 y3 d1 d2 d3 := h.below (Below.refl _ _).drew
set_option maxRecDepth 100000 in
set_option maxHeartbeats 8000000 in
theorem refDriven_any (f : Forme) (r : Real) (A A1 A2 A3 : Option Addr) (b off b1 o1 b2 o2 b3 o3 c c1 c2 c3 : Nat) (w : World) (h : FR w w.heap.size f r A A1 A2 A3 b off b1 o1 b2 o2 b3 o3) (hs : (checkR f r).2 = 0) :
    Calls Try.prog 48 #[.agg #[.int .i64 f.W, .int .i64 f.H, .slice A f.ps.length c], .agg #[.slice A1 r.ws.length c1, .slice A2 r.hs.length c2, .slice A3 r.ts.length c3]] w (RdrYes (r.driven f f.ps.length) w) := by
  obtain ⟨B0, F0, T0, O0, Z0⟩ := boxes3 w f (.slice A f.ps.length c) (.slice A1 r.ws.length c1) (.slice A2 r.hs.length c2) (.slice A3 r.ts.length c3) (.slice none 0 0) (.slice none 0 0) (.slice none 0 0)
  have hFR := (h.below B0).mono B0.size
  go_enter Try.func48, Try.ntmps48
  go_wp2_with fail
  generalize ((w.alloc (.cells #[.int .i64 f.W, .int .i64 f.H, .slice A f.ps.length c] 37)).alloc (.cells #[.slice A1 r.ws.length c1, .slice A2 r.hs.length c2, .slice A3 r.ts.length c3] 39)).alloc (.cells #[.slice none 0 0, .slice none 0 0, .slice none 0 0] 39) = W0 at *
  obtain ⟨hok, -, -⟩ := checkR_zero hs
  have hfew := hok.right.few
  have hcall := copyReal_any r A1 A2 A3 b1 o1 b2 o2 b3 o3 c1 c2 c3 W0 hFR.rr (by rw [hok.ws.len]; omega) (by rw [hok.hs.len]; omega) (by rw [hok.ts]; omega)
  have hokf := okf_of hs
  have HOK := Lib.hid hok
  have HKF := Lib.hid hokf
  have hn0 : 0 < f.ps.length := by have := (across_full hok.w hok.ws).some; have h2 : (across f r.ws).n = f.ps.length := hok.ws.len; omega
  have HH := Lib.hid h
  clear hs h hFR hok hokf
  refine hcall.mono ?_
  rintro e w1 ⟨X1, X2, X3, z1, z2, z3, y1, y2, y3, rfl, hro, e1⟩
  obtain ⟨rfl, lt1⟩ := hro.l1 (by rw [HOK.out.ws.len]; exact hn0)
  obtain ⟨rfl, lt2⟩ := hro.l2 (by rw [HOK.out.hs.len]; exact hn0)
  obtain ⟨rfl, lt3⟩ := hro.l3 (by rw [HOK.out.ts]; exact hn0)
  have HN1 := Lib.hid HOK.out.ws.len
  have HN2 := Lib.hid HOK.out.hs.len
  have HN3 := Lib.hid HOK.out.ts
  obtain ⟨g1, r1⟩ := hro.r1 (by rw [HN1.out]; exact hn0)
  obtain ⟨g2, r2⟩ := hro.r2 (by rw [HN2.out]; exact hn0)
  obtain ⟨g3, r3⟩ := hro.r3 (by rw [HN3.out]; exact hn0)
  rw [HN1.out] at r1
  rw [HN2.out] at r2
  rw [HN3.out] at r3
  have k1 := hro.k1
  have k2 := hro.k2
  have k3 := hro.k3
  have hDS : DS w (w1.alloc (Obj.cells #[Value.slice (some ⟨y1, 0, none⟩) f.ps.length z1, Value.slice (some ⟨y2, 0, none⟩) f.ps.length z2, Value.slice (some ⟨y3, 0, none⟩) f.ps.length z3] 39)) f r f.ps.length A c w.heap.size (w.heap.size + 1 + 1) w1.heap.size y1 y2 y3 z1 z2 z3 :=
    ds_of F0 O0 B0 e1 r1 r2 r3 (hro.d12 (by rw [HN1.out]; exact hn0) (by rw [HN2.out]; exact hn0)) (hro.d13 (by rw [HN1.out]; exact hn0) (by rw [HN3.out]; exact hn0)) (hro.d23 (by rw [HN2.out]; exact hn0) (by rw [HN3.out]; exact hn0)) (by omega) (by omega) (by omega) g1 g2 g3 e1.size (Blk.new w1 39 _)
      (fun j hj _ => Below.heap_alloc _ _ _ hj) ((B0.trans (e1.mono B0.size)).alloc (by have := B0.size; have := e1.size; omega) _)
  have HDS0 := Lib.hid hDS
  rw [HN1.out] at k1
  rw [HN2.out] at k2
  rw [HN3.out] at k3
  rw [HN1.out, HN2.out, HN3.out]
  have w1' := HOK.out.right.w1
  have w2' := HOK.out.right.w2
  have w3' := HOK.out.right.h1
  have w4' := HOK.out.right.h2
  clear hDS hcall hro g1 g2 g3 r1 r2 r3 lt1 lt2 lt3 B0 F0 T0 O0 Z0 e1
  go_wp2_with fail
  generalize (w1.alloc (Obj.cells #[Value.slice (some ⟨y1, 0, none⟩) f.ps.length z1, Value.slice (some ⟨y2, 0, none⟩) f.ps.length z2, Value.slice (some ⟨y3, 0, none⟩) f.ps.length z3] 39)) = W7 at *
  generalize w1.heap.size = sb at *
  go_loopg [6, 7, 8, 24, 65] f.ps.length (fun gg s6 _ _ _ _ wr => ∃ k : Nat, k ≤ f.ps.length ∧ f.ps.length - k ≤ gg ∧ s6 = .int .i64 k ∧ Hid (DS w wr f (r.driven f k) f.ps.length A c w.heap.size (w.heap.size + 1 + 1) sb y1 y2 y3 z1 z2 z3))
  case atStart => exact ⟨0, Nat.zero_le _, by omega, rfl, HDS0.out⟩
  case round =>
    as_aux_lemma =>
      obtain ⟨k, hk, hgk, rfl, HD⟩ := hrel
      have f2 : wr.cell? ⟨w.heap.size, 2, none⟩ = some (.slice A f.ps.length c) := HD.out.F.cell 2
      by_cases hlt : k < f.ps.length
      · have hltz : (k : Int) < (f.ps.length : Int) := by omega
        have hk0 : (0 : Int) ≤ (k : Int) := by omega
        have hokk := HKF.out.driven HOK.out.right.toLaid k (by omega)
        have HDRV : Hid (r.driven f (k + 1) = (r.driven f k).drive f k) := rfl
        obtain ⟨m1, m2, m3, m4, m5, m6, m7, m8, m9, m10⟩ := hokk.nums HOK.out.right.toLaid hlt
        generalize r.driven f k = rk at *
        have HOKK := Lib.hid hokk
        obtain ⟨rfl, hbA⟩ := HH.out.la (by omega)
        obtain ⟨c0, c1', c2', c3', c4, c5⟩ := (HH.out.ps k hlt).below HD.out.B hbA
        have hkd : 1 ≤ (gp f.ps k).kind ∧ (gp f.ps k).kind ≤ 4 := by rw [gp_get hlt]; exact HOK.out.right.kind _ (List.getElem_mem hlt)
        have HQ3 : Hid ((gp f.ps k).kind = 3 → rk.drive f k = { rk with ws := rk.ws.set k (gz rk.ws k + byA f rk k), ts := rk.ts.set k (gz rk.ts k - byA f rk k) }) := fun h => drive_a h
        have HQ4 : Hid ((gp f.ps k).kind = 4 → rk.drive f k = { rk with hs := rk.hs.set k (gz rk.hs k + byD f rk k), ts := rk.ts.set k (gz rk.ts k - byD f rk k) }) := fun h => drive_d h
        have HQN : Hid ((gp f.ps k).kind ≠ 3 → (gp f.ps k).kind ≠ 4 → rk.drive f k = rk) := fun h3 h4 => drive_n h3 h4
        clear hokk c0 c2' c3' c4 c5
        generalize (gp f.ps k).kind = kd at *
        have hkk : kd = 1 ∨ kd = 2 ∨ kd = 3 ∨ kd = 4 := by omega
        clear hkd
        rcases hkk with h12 | h12 | rfl | rfl
        · have HDN : Hid (rk.drive f k = rk) := HQN.out (by omega) (by omega)
          subst h12
          go_wp2_with fail
          go_roundg (f.ps.length - (k + 1))
          case measure => omega
          case rel =>
            refine ⟨k + 1, by omega, by omega, by go_num, ?_⟩
            show DS _ _ _ _ _ _ _ _ _ _ _ _ _ _ _ _
            rw [HDRV.out, HDN.out]
            exact HD.out
        · have HDN : Hid (rk.drive f k = rk) := HQN.out (by omega) (by omega)
          subst h12
          go_wp2_with fail
          go_roundg (f.ps.length - (k + 1))
          case measure => omega
          case rel =>
            refine ⟨k + 1, by omega, by omega, by go_num, ?_⟩
            show DS _ _ _ _ _ _ _ _ _ _ _ _ _ _ _ _
            rw [HDRV.out, HDN.out]
            exact HD.out
        · have K3 : Hid ((3 : Int) = 3) := rfl
          have hDn : (across f rk.ws).n = f.ps.length := HOKK.out.fit.ws.len
          have hkD : k < (across f rk.ws).n := by omega
          have hkDz : (k : Int) < ((across f rk.ws).n : Int) := by omega
          have hus := HOKK.out.uw HOK.out.right.toLaid
          have HTH : Hid (∀ W, Below wr.heap.size wr W → Calls Try.prog 94 #[.agg #[.int .i64 f.W, .int .i64 f.H, .slice (some ⟨b, off, none⟩) f.ps.length c], .slice (some ⟨y1, 0, none⟩) f.ps.length z1] W (ThruPost W (across f rk.ws))) := (show ∀ W, _ from fun W hW =>
            thru_any f rk.ws (some ⟨b, off, none⟩) (some ⟨y1, 0, none⟩) b off c y1 0 z1 W (HH.out.la.mono (HD.out.below hW).B.size) (fun j hj => (HH.out.ps j hj).below (HD.out.below hW).B hbA) HOK.out.right.toLaid hus (by omega) (fun _ => ⟨rfl, (HD.out.below hW).r1.lt⟩) (ZsAt.of_row (by rw [show rk.ws.length = f.ps.length from hDn]; exact (HD.out.below hW).r1)))
          have HK : Hid (∀ W, Below wr.heap.size wr W → (W.cell? ⟨w.heap.size, 0, none⟩ = some (.int .i64 f.W) ∧ W.cell? ⟨w.heap.size, 1, none⟩ = some (.int .i64 f.H) ∧ W.cell? ⟨w.heap.size, 2, none⟩ = some (.slice (some ⟨b, off, none⟩) f.ps.length c) ∧ W.cell? ⟨sb, 0, none⟩ = some (.slice (some ⟨y1, 0, none⟩) f.ps.length z1) ∧ W.cell? ⟨sb, 2, none⟩ = some (.slice (some ⟨y3, 0, none⟩) f.ps.length z3) ∧ W.cell? ⟨y3, k, none⟩ = some (.int .i64 (gz rk.ts k)))) := (show ∀ W, _ from fun W hW => ⟨(HD.out.below hW).F.cell 0, (HD.out.below hW).F.cell 1, (HD.out.below hW).F.cell 2, (HD.out.below hW).S.cell 0, (HD.out.below hW).S.cell 2, (HD.out.below hW).r3.cell hlt⟩)
          have h0 : Below wr.heap.size wr wr.drew := (Below.refl _ _).drew
          have H0 := Lib.hid h0
          have hS0 := HK.out wr.drew h0
          clear h0 hus
          by_cases hle : gz rk.ts k ≤ 60 * f.W - (across f rk.ws).thr k
          · have HBY : Hid (byA f rk k = gz rk.ts k) := by show min _ _ = _; omega
            have e1 : IntKind.i64.wrap (60 * f.W - (across f rk.ws).thr k) = 60 * f.W - (across f rk.ws).thr k := IntWalk.i64_in _ (by omega)
            have e0 : IntKind.i64.wrap (60 * f.W) = 60 * f.W := IntWalk.i64_in _ (by omega)
            have e2 : IntKind.i64.wrap (gz rk.ws k + gz rk.ts k) = gz rk.ws k + gz rk.ts k := IntWalk.i64_in _ (by omega)
            have e3 : IntKind.i64.wrap (gz rk.ts k - gz rk.ts k) = gz rk.ts k - gz rk.ts k := IntWalk.i64_in _ (by omega)
            go_upto_region 7 with (fail)
            refine wp_region_split (fun W => (W.cell? ⟨w.heap.size, 0, none⟩ = some (.int .i64 f.W) ∧ W.cell? ⟨w.heap.size, 1, none⟩ = some (.int .i64 f.H) ∧ W.cell? ⟨w.heap.size, 2, none⟩ = some (.slice (some ⟨b, off, none⟩) f.ps.length c) ∧ W.cell? ⟨sb, 0, none⟩ = some (.slice (some ⟨y1, 0, none⟩) f.ps.length z1) ∧ W.cell? ⟨sb, 2, none⟩ = some (.slice (some ⟨y3, 0, none⟩) f.ps.length z3) ∧ W.cell? ⟨y3, k, none⟩ = some (.int .i64 (gz rk.ts k)))) 17 (by kernel_rfl) (by decide) ?_
            refine wpG_take 17 0 (v := ?_) rfl (by kernel_rfl) (fun _ _ _ h => h) (Or.inl ⟨by rfl, ?_⟩) (by assumption) ?_
            rotate_left
            · intro w hSw; (try dsimp only at hSw); go_simp; (try with_reducible rfl)
            (try simp only [Act.put, List.getElem_toArray, List.getElem_cons_zero, List.getElem_cons_succ, List.setIfInBounds_toArray, List.set_cons_zero, List.set_cons_succ])
            refine wpG_take 17 1 (v := ?_) rfl (by kernel_rfl) (fun _ _ _ h => h) (Or.inl ⟨by rfl, ?_⟩) (by assumption) ?_
            rotate_left
            · intro w hSw; (try dsimp only at hSw); go_simp; (try with_reducible rfl)
            (try simp only [Act.put, List.getElem_toArray, List.getElem_cons_zero, List.getElem_cons_succ, List.setIfInBounds_toArray, List.set_cons_zero, List.set_cons_succ])
            refine wpG_take 17 2 (v := ?_) rfl (by kernel_rfl) (fun _ _ _ h => h) (Or.inl ⟨by rfl, ?_⟩) (by assumption) ?_
            rotate_left
            · intro w hSw; (try dsimp only at hSw); go_simp; (try with_reducible rfl)
            (try simp only [Act.put, List.getElem_toArray, List.getElem_cons_zero, List.getElem_cons_succ, List.setIfInBounds_toArray, List.set_cons_zero, List.set_cons_succ])
            refine wpG_take 17 3 (v := ?_) rfl (by kernel_rfl) (fun _ _ _ h => h) (Or.inl ⟨by rfl, ?_⟩) (by assumption) ?_
            rotate_left
            · intro w hSw; (try dsimp only at hSw); go_simp; (try with_reducible rfl)
            (try simp only [Act.put, List.getElem_toArray, List.getElem_cons_zero, List.getElem_cons_succ, List.setIfInBounds_toArray, List.set_cons_zero, List.set_cons_succ])
            refine wpG_take 17 4 (v := ?_) rfl (by kernel_rfl) (fun _ _ _ h => h) (Or.inl ⟨by rfl, ?_⟩) (by assumption) ?_
            rotate_left
            · intro w hSw; (try dsimp only at hSw); go_simp; (try with_reducible rfl)
            (try simp only [Act.put, List.getElem_toArray, List.getElem_cons_zero, List.getElem_cons_succ, List.setIfInBounds_toArray, List.set_cons_zero, List.set_cons_succ])
            refine wpG_take 17 5 (v := ?_) rfl (by kernel_rfl) (fun _ _ _ h => h) (Or.inl ⟨by rfl, ?_⟩) (by assumption) ?_
            rotate_left
            · intro w hSw; (try dsimp only at hSw); go_simp; (try with_reducible rfl)
            (try simp only [Act.put, List.getElem_toArray, List.getElem_cons_zero, List.getElem_cons_succ, List.setIfInBounds_toArray, List.set_cons_zero, List.set_cons_succ])
            refine wpG_take 17 6 (v := ?_) rfl (by kernel_rfl) (fun _ _ _ h => h) (Or.inl ⟨by rfl, ?_⟩) (by assumption) ?_
            rotate_left
            · intro w hSw; (try dsimp only at hSw); go_simp; (try with_reducible rfl)
            (try simp only [Act.put, List.getElem_toArray, List.getElem_cons_zero, List.getElem_cons_succ, List.setIfInBounds_toArray, List.set_cons_zero, List.set_cons_succ])
            refine wpG_take 17 7 (v := ?_) rfl (by kernel_rfl) (fun _ _ _ h => h) (Or.inl ⟨by rfl, ?_⟩) (by assumption) ?_
            rotate_left
            · intro w hSw; (try dsimp only at hSw); go_simp; (try with_reducible rfl)
            (try simp only [Act.put, List.getElem_toArray, List.getElem_cons_zero, List.getElem_cons_succ, List.setIfInBounds_toArray, List.set_cons_zero, List.set_cons_succ])
            refine wpG_take 17 8 (v := ?_) rfl (by kernel_rfl) (fun _ _ _ h => h) (Or.inl ⟨by rfl, ?_⟩) (by assumption) ?_
            rotate_left
            · intro w hSw; (try dsimp only at hSw); go_simp; (try with_reducible rfl)
            (try simp only [Act.put, List.getElem_toArray, List.getElem_cons_zero, List.getElem_cons_succ, List.setIfInBounds_toArray, List.set_cons_zero, List.set_cons_succ])
            refine wpG_take 17 9 (v := ?_) rfl (by kernel_rfl) (fun _ _ _ h => h) (Or.inl ⟨by rfl, ?_⟩) (by assumption) ?_
            rotate_left
            · intro w hSw; (try dsimp only at hSw); go_simp; (try with_reducible rfl)
            (try simp only [Act.put, List.getElem_toArray, List.getElem_cons_zero, List.getElem_cons_succ, List.setIfInBounds_toArray, List.set_cons_zero, List.set_cons_succ])
            refine wpG_take 17 10 (v := ?_) rfl (by kernel_rfl) (fun _ _ _ h => h) (Or.inl ⟨by rfl, ?_⟩) (by assumption) ?_
            rotate_left
            · intro w hSw; (try dsimp only at hSw); go_simp; (try with_reducible rfl)
            (try simp only [Act.put, List.getElem_toArray, List.getElem_cons_zero, List.getElem_cons_succ, List.setIfInBounds_toArray, List.set_cons_zero, List.set_cons_succ])
            refine wpG_take 17 12 (v := ?_) rfl (by kernel_rfl) (fun _ _ _ h => h) (Or.inl ⟨by rfl, ?_⟩) (by assumption) ?_
            rotate_left
            · intro w hSw; (try dsimp only at hSw); go_simp; (try with_reducible rfl)
            (try simp only [Act.put, List.getElem_toArray, List.getElem_cons_zero, List.getElem_cons_succ, List.setIfInBounds_toArray, List.set_cons_zero, List.set_cons_succ])
            refine wpG_one (i := 11) (by kernel_rfl) ?_
            refine wpOp_step rfl (fun K hK => ?_)
            go_simp
            go_at_call 94
            (with_reducible refine (HTH.out _ H0.out).mono ?_)
            rintro e w5 ⟨gT, rfl, hgT, RT, hb5'⟩
            have hb5 : Below wr.heap.size wr w5 := H0.out.trans (hb5'.mono H0.out.size)
            have hthr := RT.cell hkD
            have HDS5 := Lib.hid (HD.out.below hb5)
            have n5 := HK.out w5 hb5
            have H5 := Lib.hid hb5
            (try dsimp only)
            refine hK _ _ ⟨n5, ?_⟩
            clear hK K hb5' hb5
            (try clear hS0)
            (try simp only [Act.put, List.getElem_toArray, List.getElem_cons_zero, List.getElem_cons_succ, List.setIfInBounds_toArray, List.set_cons_zero, List.set_cons_succ])
            refine wpG_take 17 13 (v := ?_) rfl (by kernel_rfl) (fun _ _ _ h => h) (Or.inl ⟨by rfl, ?_⟩) (by assumption) ?_
            rotate_left
            · intro w hSw; (try dsimp only at hSw); go_simp; (try with_reducible rfl)
            (try simp only [Act.put, List.getElem_toArray, List.getElem_cons_zero, List.getElem_cons_succ, List.setIfInBounds_toArray, List.set_cons_zero, List.set_cons_succ])
            refine wpG_one (i := 14) (by kernel_rfl) ?_
            refine wpOp_step rfl (fun K hK => ?_)
            go_simp
            refine hK _ _ ⟨n5, ?_⟩
            clear hK K
            (try simp only [Act.put, List.getElem_toArray, List.getElem_cons_zero, List.getElem_cons_succ, List.setIfInBounds_toArray, List.set_cons_zero, List.set_cons_succ])
            refine wpG_take 17 15 (v := ?_) rfl (by kernel_rfl) (fun _ _ _ h => h) (Or.inl ⟨by rfl, ?_⟩) (by assumption) ?_
            rotate_left
            · intro w hSw; (try dsimp only at hSw); go_simp; (try with_reducible rfl)
            (try simp only [Act.put, List.getElem_toArray, List.getElem_cons_zero, List.getElem_cons_succ, List.setIfInBounds_toArray, List.set_cons_zero, List.set_cons_succ])
            refine wpG_one (i := 16) (by kernel_rfl) ?_
            refine wpOp_step rfl (fun K hK => ?_)
            go_simp
            refine hK _ _ ⟨n5, ?_⟩
            clear hK K
            (try simp only [Act.put, List.getElem_toArray, List.getElem_cons_zero, List.getElem_cons_succ, List.setIfInBounds_toArray, List.set_cons_zero, List.set_cons_succ])
            refine ⟨by kernel_rfl, ?_⟩
            simp only [List.drop_succ_cons, List.drop_zero]
            have q1 := HDS5.out.r1.cell hlt
            have q1f := HDS5.out.r1.frozen k
            have q3 := HDS5.out.r3.cell hlt
            have q3f := HDS5.out.r3.frozen k
            have hne3 : ¬ y3 = y1 := fun e => HDS5.out.d13 e.symm
            have hne1 : ¬ sb = y1 := fun e => HDS5.out.n1.2.2.1 e.symm
            have hne2 : ¬ y1 = y3 := HDS5.out.d13
            obtain ⟨-, -, -, n5d, n5e, -⟩ := n5
            clear e1 e0 hthr
            have hS1 : (w5.drew.cell? ⟨sb, 0, none⟩ = some (.slice (some ⟨y1, 0, none⟩) f.ps.length z1) ∧ w5.drew.cell? ⟨sb, 2, none⟩ = some (.slice (some ⟨y3, 0, none⟩) f.ps.length z3) ∧ w5.drew.cell? ⟨y3, k, none⟩ = some (.int .i64 (gz rk.ts k))) := ⟨n5d, n5e, q3⟩
            go_wp2_with fail
            refine wp_region_split (fun W => (W.cell? ⟨sb, 0, none⟩ = some (.slice (some ⟨y1, 0, none⟩) f.ps.length z1) ∧ W.cell? ⟨sb, 2, none⟩ = some (.slice (some ⟨y3, 0, none⟩) f.ps.length z3) ∧ W.cell? ⟨y3, k, none⟩ = some (.int .i64 (gz rk.ts k)))) 22 (by kernel_rfl) (by decide) ?_
            refine wpG_take 22 3 (v := ?_) rfl (by kernel_rfl) (fun _ _ _ h => h) (Or.inl ⟨by rfl, ?_⟩) (by assumption) ?_
            rotate_left
            · intro w hSw; (try dsimp only at hSw); go_simp; (try with_reducible rfl)
            (try simp only [Act.put, List.getElem_toArray, List.getElem_cons_zero, List.getElem_cons_succ, List.setIfInBounds_toArray, List.set_cons_zero, List.set_cons_succ])
            refine wpG_take 22 4 (v := ?_) rfl (by kernel_rfl) (fun _ _ _ h => h) (Or.inl ⟨by rfl, ?_⟩) (by assumption) ?_
            rotate_left
            · intro w hSw; (try dsimp only at hSw); go_simp; (try with_reducible rfl)
            (try simp only [Act.put, List.getElem_toArray, List.getElem_cons_zero, List.getElem_cons_succ, List.setIfInBounds_toArray, List.set_cons_zero, List.set_cons_succ])
            refine wpG_take 22 5 (v := ?_) rfl (by kernel_rfl) (fun _ _ _ h => h) (Or.inl ⟨by rfl, ?_⟩) (by assumption) ?_
            rotate_left
            · intro w hSw; (try dsimp only at hSw); go_simp; (try with_reducible rfl)
            (try simp only [Act.put, List.getElem_toArray, List.getElem_cons_zero, List.getElem_cons_succ, List.setIfInBounds_toArray, List.set_cons_zero, List.set_cons_succ])
            refine wpG_take 22 0 (v := ?_) rfl (by kernel_rfl) (fun _ _ _ h => h) (Or.inl ⟨by rfl, ?_⟩) (by assumption) ?_
            rotate_left
            · intro w hSw; (try dsimp only at hSw); go_simp; (try with_reducible rfl)
            (try simp only [Act.put, List.getElem_toArray, List.getElem_cons_zero, List.getElem_cons_succ, List.setIfInBounds_toArray, List.set_cons_zero, List.set_cons_succ])
            refine wpG_take 22 1 (v := ?_) rfl (by kernel_rfl) (fun _ _ _ h => h) (Or.inl ⟨by rfl, ?_⟩) (by assumption) ?_
            rotate_left
            · intro w hSw; (try dsimp only at hSw); go_simp; (try with_reducible rfl)
            (try simp only [Act.put, List.getElem_toArray, List.getElem_cons_zero, List.getElem_cons_succ, List.setIfInBounds_toArray, List.set_cons_zero, List.set_cons_succ])
            refine wpG_take 22 2 (v := ?_) rfl (by kernel_rfl) (fun _ _ _ h => h) (Or.inl ⟨by rfl, ?_⟩) (by assumption) ?_
            rotate_left
            · intro w hSw; (try dsimp only at hSw); go_simp; (try with_reducible rfl)
            (try simp only [Act.put, List.getElem_toArray, List.getElem_cons_zero, List.getElem_cons_succ, List.setIfInBounds_toArray, List.set_cons_zero, List.set_cons_succ])
            refine wpG_take 22 6 (v := ?_) rfl (by kernel_rfl) (fun _ _ _ h => h) (Or.inl ⟨by rfl, ?_⟩) (by assumption) ?_
            rotate_left
            · intro w hSw; (try dsimp only at hSw); go_simp; (try with_reducible rfl)
            (try simp only [Act.put, List.getElem_toArray, List.getElem_cons_zero, List.getElem_cons_succ, List.setIfInBounds_toArray, List.set_cons_zero, List.set_cons_succ])
            refine wpG_take 22 7 (v := ?_) rfl (by kernel_rfl) (fun _ _ _ h => h) (Or.inl ⟨by rfl, ?_⟩) (by assumption) ?_
            rotate_left
            · intro w hSw; (try dsimp only at hSw); go_simp; (try with_reducible rfl)
            (try simp only [Act.put, List.getElem_toArray, List.getElem_cons_zero, List.getElem_cons_succ, List.setIfInBounds_toArray, List.set_cons_zero, List.set_cons_succ])
            refine wpG_take 22 8 (v := ?_) rfl (by kernel_rfl) (fun _ _ _ h => h) (Or.inl ⟨by rfl, ?_⟩) (by assumption) ?_
            rotate_left
            · intro w hSw; (try dsimp only at hSw); go_simp; (try with_reducible rfl)
            (try simp only [Act.put, List.getElem_toArray, List.getElem_cons_zero, List.getElem_cons_succ, List.setIfInBounds_toArray, List.set_cons_zero, List.set_cons_succ])
            refine wpG_take 22 9 (v := ?_) rfl (by kernel_rfl) (fun _ _ _ h => h) (Or.inl ⟨by rfl, ?_⟩) (by assumption) ?_
            rotate_left
            · intro w hSw; (try dsimp only at hSw); go_simp; (try with_reducible rfl)
            (try simp only [Act.put, List.getElem_toArray, List.getElem_cons_zero, List.getElem_cons_succ, List.setIfInBounds_toArray, List.set_cons_zero, List.set_cons_succ])
            refine wpG_take 22 13 (v := ?_) rfl (by kernel_rfl) (fun _ _ _ h => h) (Or.inl ⟨by rfl, ?_⟩) (by assumption) ?_
            rotate_left
            · intro w hSw; (try dsimp only at hSw); go_simp; (try with_reducible rfl)
            (try simp only [Act.put, List.getElem_toArray, List.getElem_cons_zero, List.getElem_cons_succ, List.setIfInBounds_toArray, List.set_cons_zero, List.set_cons_succ])
            refine wpG_take 22 14 (v := ?_) rfl (by kernel_rfl) (fun _ _ _ h => h) (Or.inl ⟨by rfl, ?_⟩) (by assumption) ?_
            rotate_left
            · intro w hSw; (try dsimp only at hSw); go_simp; (try with_reducible rfl)
            (try simp only [Act.put, List.getElem_toArray, List.getElem_cons_zero, List.getElem_cons_succ, List.setIfInBounds_toArray, List.set_cons_zero, List.set_cons_succ])
            refine wpG_take 22 15 (v := ?_) rfl (by kernel_rfl) (fun _ _ _ h => h) (Or.inl ⟨by rfl, ?_⟩) (by assumption) ?_
            rotate_left
            · intro w hSw; (try dsimp only at hSw); go_simp; (try with_reducible rfl)
            (try simp only [Act.put, List.getElem_toArray, List.getElem_cons_zero, List.getElem_cons_succ, List.setIfInBounds_toArray, List.set_cons_zero, List.set_cons_succ])
            refine wpG_take 22 16 (v := ?_) rfl (by kernel_rfl) (fun _ _ _ h => h) (Or.inl ⟨by rfl, ?_⟩) (by assumption) ?_
            rotate_left
            · intro w hSw; (try dsimp only at hSw); go_simp; (try with_reducible rfl)
            (try simp only [Act.put, List.getElem_toArray, List.getElem_cons_zero, List.getElem_cons_succ, List.setIfInBounds_toArray, List.set_cons_zero, List.set_cons_succ])
            refine wpG_take 22 17 (v := ?_) rfl (by kernel_rfl) (fun _ _ _ h => h) (Or.inl ⟨by rfl, ?_⟩) (by assumption) ?_
            rotate_left
            · intro w hSw; (try dsimp only at hSw); go_simp; (try with_reducible rfl)
            (try simp only [Act.put, List.getElem_toArray, List.getElem_cons_zero, List.getElem_cons_succ, List.setIfInBounds_toArray, List.set_cons_zero, List.set_cons_succ])
            refine wpG_take 22 11 (v := ?_) rfl (by kernel_rfl) (fun _ _ _ h => h) (Or.inl ⟨by rfl, ?_⟩) (by assumption) ?_
            rotate_left
            · intro w hSw; (try dsimp only at hSw); go_simp; (try with_reducible rfl)
            (try simp only [Act.put, List.getElem_toArray, List.getElem_cons_zero, List.getElem_cons_succ, List.setIfInBounds_toArray, List.set_cons_zero, List.set_cons_succ])
            refine wpG_take 22 18 (v := ?_) rfl (by kernel_rfl) (fun _ _ _ h => h) (Or.inl ⟨by rfl, ?_⟩) (by assumption) ?_
            rotate_left
            · intro w hSw; (try dsimp only at hSw); go_simp; (try with_reducible rfl)
            (try simp only [Act.put, List.getElem_toArray, List.getElem_cons_zero, List.getElem_cons_succ, List.setIfInBounds_toArray, List.set_cons_zero, List.set_cons_succ])
            refine wpG_take 22 19 (v := ?_) rfl (by kernel_rfl) (fun _ _ _ h => h) (Or.inl ⟨by rfl, ?_⟩) (by assumption) ?_
            rotate_left
            · intro w hSw; (try dsimp only at hSw); go_simp; (try with_reducible rfl)
            (try simp only [Act.put, List.getElem_toArray, List.getElem_cons_zero, List.getElem_cons_succ, List.setIfInBounds_toArray, List.set_cons_zero, List.set_cons_succ])
            refine wpG_one (i := 10) (by kernel_rfl) ?_
            refine wpOp_step rfl (fun K hK => ?_)
            go_simp
            refine hK _ _ ⟨hS1, ?_⟩
            clear hK K
            (try simp only [Act.put, List.getElem_toArray, List.getElem_cons_zero, List.getElem_cons_succ, List.setIfInBounds_toArray, List.set_cons_zero, List.set_cons_succ])
            refine wpG_one (i := 12) (by kernel_rfl) ?_
            refine wpOp_step rfl (fun K hK => ?_)
            go_simp
            refine hK _ _ ⟨hS1, ?_⟩
            clear hK K
            (try simp only [Act.put, List.getElem_toArray, List.getElem_cons_zero, List.getElem_cons_succ, List.setIfInBounds_toArray, List.set_cons_zero, List.set_cons_succ])
            refine wpG_one (i := 20) (by kernel_rfl) ?_
            refine wpOp_step rfl (fun K hK => ?_)
            go_simp
            refine hK _ _ ⟨hS1, ?_⟩
            clear hK K
            (try simp only [Act.put, List.getElem_toArray, List.getElem_cons_zero, List.getElem_cons_succ, List.setIfInBounds_toArray, List.set_cons_zero, List.set_cons_succ])
            refine wpG_one (i := 21) (by kernel_rfl) ?_
            refine wpOp_step rfl (fun K hK => ?_)
            go_simp
            refine hK _ _ ⟨(by (try dsimp only); refine ⟨?_, ?_, ?_⟩ <;> go_simp), ?_⟩
            clear hK K
            (try simp only [Act.put, List.getElem_toArray, List.getElem_cons_zero, List.getElem_cons_succ, List.setIfInBounds_toArray, List.set_cons_zero, List.set_cons_succ])
            refine ⟨by kernel_rfl, ?_⟩
            simp only [List.drop_succ_cons, List.drop_zero]
            clear hS1
            go_wp2_with fail
            clear e2 e3
            go_roundg (f.ps.length - (k + 1))
            case measure => omega
            case rel =>
              refine ⟨k + 1, by omega, by omega, by go_num, ?_⟩
              show DS _ _ _ _ _ _ _ _ _ _ _ _ _ _ _ _
              rw [HDRV.out, HQ3.out K3.out, HBY.out, Int.sub_self]
              exact ((HDS5.out.drew).set1 (by have := HOKK.out.fit.ws.len; omega) hlt _).set3 (by have := HOKK.out.fit.ts; show rk.ts.length = _; omega) hlt _
          · have HBY : Hid (byA f rk k = (60 * f.W - (across f rk.ws).thr k)) := by show min _ _ = _; omega
            have e1 : IntKind.i64.wrap (60 * f.W - (across f rk.ws).thr k) = 60 * f.W - (across f rk.ws).thr k := IntWalk.i64_in _ (by omega)
            have e0 : IntKind.i64.wrap (60 * f.W) = 60 * f.W := IntWalk.i64_in _ (by omega)
            have e2 : IntKind.i64.wrap (gz rk.ws k + (60 * f.W - (across f rk.ws).thr k)) = gz rk.ws k + (60 * f.W - (across f rk.ws).thr k) := IntWalk.i64_in _ (by omega)
            have e3 : IntKind.i64.wrap (gz rk.ts k - (60 * f.W - (across f rk.ws).thr k)) = gz rk.ts k - (60 * f.W - (across f rk.ws).thr k) := IntWalk.i64_in _ (by omega)
            go_upto_region 7 with (fail)
            refine wp_region_split (fun W => (W.cell? ⟨w.heap.size, 0, none⟩ = some (.int .i64 f.W) ∧ W.cell? ⟨w.heap.size, 1, none⟩ = some (.int .i64 f.H) ∧ W.cell? ⟨w.heap.size, 2, none⟩ = some (.slice (some ⟨b, off, none⟩) f.ps.length c) ∧ W.cell? ⟨sb, 0, none⟩ = some (.slice (some ⟨y1, 0, none⟩) f.ps.length z1) ∧ W.cell? ⟨sb, 2, none⟩ = some (.slice (some ⟨y3, 0, none⟩) f.ps.length z3) ∧ W.cell? ⟨y3, k, none⟩ = some (.int .i64 (gz rk.ts k)))) 17 (by kernel_rfl) (by decide) ?_
            refine wpG_take 17 0 (v := ?_) rfl (by kernel_rfl) (fun _ _ _ h => h) (Or.inl ⟨by rfl, ?_⟩) (by assumption) ?_
            rotate_left
            · intro w hSw; (try dsimp only at hSw); go_simp; (try with_reducible rfl)
            (try simp only [Act.put, List.getElem_toArray, List.getElem_cons_zero, List.getElem_cons_succ, List.setIfInBounds_toArray, List.set_cons_zero, List.set_cons_succ])
            refine wpG_take 17 1 (v := ?_) rfl (by kernel_rfl) (fun _ _ _ h => h) (Or.inl ⟨by rfl, ?_⟩) (by assumption) ?_
            rotate_left
            · intro w hSw; (try dsimp only at hSw); go_simp; (try with_reducible rfl)
            (try simp only [Act.put, List.getElem_toArray, List.getElem_cons_zero, List.getElem_cons_succ, List.setIfInBounds_toArray, List.set_cons_zero, List.set_cons_succ])
            refine wpG_take 17 2 (v := ?_) rfl (by kernel_rfl) (fun _ _ _ h => h) (Or.inl ⟨by rfl, ?_⟩) (by assumption) ?_
            rotate_left
            · intro w hSw; (try dsimp only at hSw); go_simp; (try with_reducible rfl)
            (try simp only [Act.put, List.getElem_toArray, List.getElem_cons_zero, List.getElem_cons_succ, List.setIfInBounds_toArray, List.set_cons_zero, List.set_cons_succ])
            refine wpG_take 17 3 (v := ?_) rfl (by kernel_rfl) (fun _ _ _ h => h) (Or.inl ⟨by rfl, ?_⟩) (by assumption) ?_
            rotate_left
            · intro w hSw; (try dsimp only at hSw); go_simp; (try with_reducible rfl)
            (try simp only [Act.put, List.getElem_toArray, List.getElem_cons_zero, List.getElem_cons_succ, List.setIfInBounds_toArray, List.set_cons_zero, List.set_cons_succ])
            refine wpG_take 17 4 (v := ?_) rfl (by kernel_rfl) (fun _ _ _ h => h) (Or.inl ⟨by rfl, ?_⟩) (by assumption) ?_
            rotate_left
            · intro w hSw; (try dsimp only at hSw); go_simp; (try with_reducible rfl)
            (try simp only [Act.put, List.getElem_toArray, List.getElem_cons_zero, List.getElem_cons_succ, List.setIfInBounds_toArray, List.set_cons_zero, List.set_cons_succ])
            refine wpG_take 17 5 (v := ?_) rfl (by kernel_rfl) (fun _ _ _ h => h) (Or.inl ⟨by rfl, ?_⟩) (by assumption) ?_
            rotate_left
            · intro w hSw; (try dsimp only at hSw); go_simp; (try with_reducible rfl)
            (try simp only [Act.put, List.getElem_toArray, List.getElem_cons_zero, List.getElem_cons_succ, List.setIfInBounds_toArray, List.set_cons_zero, List.set_cons_succ])
            refine wpG_take 17 6 (v := ?_) rfl (by kernel_rfl) (fun _ _ _ h => h) (Or.inl ⟨by rfl, ?_⟩) (by assumption) ?_
            rotate_left
            · intro w hSw; (try dsimp only at hSw); go_simp; (try with_reducible rfl)
            (try simp only [Act.put, List.getElem_toArray, List.getElem_cons_zero, List.getElem_cons_succ, List.setIfInBounds_toArray, List.set_cons_zero, List.set_cons_succ])
            refine wpG_take 17 7 (v := ?_) rfl (by kernel_rfl) (fun _ _ _ h => h) (Or.inl ⟨by rfl, ?_⟩) (by assumption) ?_
            rotate_left
            · intro w hSw; (try dsimp only at hSw); go_simp; (try with_reducible rfl)
            (try simp only [Act.put, List.getElem_toArray, List.getElem_cons_zero, List.getElem_cons_succ, List.setIfInBounds_toArray, List.set_cons_zero, List.set_cons_succ])
            refine wpG_take 17 8 (v := ?_) rfl (by kernel_rfl) (fun _ _ _ h => h) (Or.inl ⟨by rfl, ?_⟩) (by assumption) ?_
            rotate_left
            · intro w hSw; (try dsimp only at hSw); go_simp; (try with_reducible rfl)
            (try simp only [Act.put, List.getElem_toArray, List.getElem_cons_zero, List.getElem_cons_succ, List.setIfInBounds_toArray, List.set_cons_zero, List.set_cons_succ])
            refine wpG_take 17 9 (v := ?_) rfl (by kernel_rfl) (fun _ _ _ h => h) (Or.inl ⟨by rfl, ?_⟩) (by assumption) ?_
            rotate_left
            · intro w hSw; (try dsimp only at hSw); go_simp; (try with_reducible rfl)
            (try simp only [Act.put, List.getElem_toArray, List.getElem_cons_zero, List.getElem_cons_succ, List.setIfInBounds_toArray, List.set_cons_zero, List.set_cons_succ])
            refine wpG_take 17 10 (v := ?_) rfl (by kernel_rfl) (fun _ _ _ h => h) (Or.inl ⟨by rfl, ?_⟩) (by assumption) ?_
            rotate_left
            · intro w hSw; (try dsimp only at hSw); go_simp; (try with_reducible rfl)
            (try simp only [Act.put, List.getElem_toArray, List.getElem_cons_zero, List.getElem_cons_succ, List.setIfInBounds_toArray, List.set_cons_zero, List.set_cons_succ])
            refine wpG_take 17 12 (v := ?_) rfl (by kernel_rfl) (fun _ _ _ h => h) (Or.inl ⟨by rfl, ?_⟩) (by assumption) ?_
            rotate_left
            · intro w hSw; (try dsimp only at hSw); go_simp; (try with_reducible rfl)
            (try simp only [Act.put, List.getElem_toArray, List.getElem_cons_zero, List.getElem_cons_succ, List.setIfInBounds_toArray, List.set_cons_zero, List.set_cons_succ])
            refine wpG_one (i := 11) (by kernel_rfl) ?_
            refine wpOp_step rfl (fun K hK => ?_)
            go_simp
            go_at_call 94
            (with_reducible refine (HTH.out _ H0.out).mono ?_)
            rintro e w5 ⟨gT, rfl, hgT, RT, hb5'⟩
            have hb5 : Below wr.heap.size wr w5 := H0.out.trans (hb5'.mono H0.out.size)
            have hthr := RT.cell hkD
            have HDS5 := Lib.hid (HD.out.below hb5)
            have n5 := HK.out w5 hb5
            have H5 := Lib.hid hb5
            (try dsimp only)
            refine hK _ _ ⟨n5, ?_⟩
            clear hK K hb5' hb5
            (try clear hS0)
            (try simp only [Act.put, List.getElem_toArray, List.getElem_cons_zero, List.getElem_cons_succ, List.setIfInBounds_toArray, List.set_cons_zero, List.set_cons_succ])
            refine wpG_take 17 13 (v := ?_) rfl (by kernel_rfl) (fun _ _ _ h => h) (Or.inl ⟨by rfl, ?_⟩) (by assumption) ?_
            rotate_left
            · intro w hSw; (try dsimp only at hSw); go_simp; (try with_reducible rfl)
            (try simp only [Act.put, List.getElem_toArray, List.getElem_cons_zero, List.getElem_cons_succ, List.setIfInBounds_toArray, List.set_cons_zero, List.set_cons_succ])
            refine wpG_one (i := 14) (by kernel_rfl) ?_
            refine wpOp_step rfl (fun K hK => ?_)
            go_simp
            refine hK _ _ ⟨n5, ?_⟩
            clear hK K
            (try simp only [Act.put, List.getElem_toArray, List.getElem_cons_zero, List.getElem_cons_succ, List.setIfInBounds_toArray, List.set_cons_zero, List.set_cons_succ])
            refine wpG_take 17 15 (v := ?_) rfl (by kernel_rfl) (fun _ _ _ h => h) (Or.inl ⟨by rfl, ?_⟩) (by assumption) ?_
            rotate_left
            · intro w hSw; (try dsimp only at hSw); go_simp; (try with_reducible rfl)
            (try simp only [Act.put, List.getElem_toArray, List.getElem_cons_zero, List.getElem_cons_succ, List.setIfInBounds_toArray, List.set_cons_zero, List.set_cons_succ])
            refine wpG_one (i := 16) (by kernel_rfl) ?_
            refine wpOp_step rfl (fun K hK => ?_)
            go_simp
            refine hK _ _ ⟨n5, ?_⟩
            clear hK K
            (try simp only [Act.put, List.getElem_toArray, List.getElem_cons_zero, List.getElem_cons_succ, List.setIfInBounds_toArray, List.set_cons_zero, List.set_cons_succ])
            refine ⟨by kernel_rfl, ?_⟩
            simp only [List.drop_succ_cons, List.drop_zero]
            have q1 := HDS5.out.r1.cell hlt
            have q1f := HDS5.out.r1.frozen k
            have q3 := HDS5.out.r3.cell hlt
            have q3f := HDS5.out.r3.frozen k
            have hne3 : ¬ y3 = y1 := fun e => HDS5.out.d13 e.symm
            have hne1 : ¬ sb = y1 := fun e => HDS5.out.n1.2.2.1 e.symm
            have hne2 : ¬ y1 = y3 := HDS5.out.d13
            obtain ⟨-, -, -, n5d, n5e, -⟩ := n5
            clear e1 e0 hthr
            have hS1 : (w5.drew.cell? ⟨sb, 0, none⟩ = some (.slice (some ⟨y1, 0, none⟩) f.ps.length z1) ∧ w5.drew.cell? ⟨sb, 2, none⟩ = some (.slice (some ⟨y3, 0, none⟩) f.ps.length z3) ∧ w5.drew.cell? ⟨y3, k, none⟩ = some (.int .i64 (gz rk.ts k))) := ⟨n5d, n5e, q3⟩
            go_wp2_with fail
            refine wp_region_split (fun W => (W.cell? ⟨sb, 0, none⟩ = some (.slice (some ⟨y1, 0, none⟩) f.ps.length z1) ∧ W.cell? ⟨sb, 2, none⟩ = some (.slice (some ⟨y3, 0, none⟩) f.ps.length z3) ∧ W.cell? ⟨y3, k, none⟩ = some (.int .i64 (gz rk.ts k)))) 22 (by kernel_rfl) (by decide) ?_
            refine wpG_take 22 3 (v := ?_) rfl (by kernel_rfl) (fun _ _ _ h => h) (Or.inl ⟨by rfl, ?_⟩) (by assumption) ?_
            rotate_left
            · intro w hSw; (try dsimp only at hSw); go_simp; (try with_reducible rfl)
            (try simp only [Act.put, List.getElem_toArray, List.getElem_cons_zero, List.getElem_cons_succ, List.setIfInBounds_toArray, List.set_cons_zero, List.set_cons_succ])
            refine wpG_take 22 4 (v := ?_) rfl (by kernel_rfl) (fun _ _ _ h => h) (Or.inl ⟨by rfl, ?_⟩) (by assumption) ?_
            rotate_left
            · intro w hSw; (try dsimp only at hSw); go_simp; (try with_reducible rfl)
            (try simp only [Act.put, List.getElem_toArray, List.getElem_cons_zero, List.getElem_cons_succ, List.setIfInBounds_toArray, List.set_cons_zero, List.set_cons_succ])
            refine wpG_take 22 5 (v := ?_) rfl (by kernel_rfl) (fun _ _ _ h => h) (Or.inl ⟨by rfl, ?_⟩) (by assumption) ?_
            rotate_left
            · intro w hSw; (try dsimp only at hSw); go_simp; (try with_reducible rfl)
            (try simp only [Act.put, List.getElem_toArray, List.getElem_cons_zero, List.getElem_cons_succ, List.setIfInBounds_toArray, List.set_cons_zero, List.set_cons_succ])
            refine wpG_take 22 0 (v := ?_) rfl (by kernel_rfl) (fun _ _ _ h => h) (Or.inl ⟨by rfl, ?_⟩) (by assumption) ?_
            rotate_left
            · intro w hSw; (try dsimp only at hSw); go_simp; (try with_reducible rfl)
            (try simp only [Act.put, List.getElem_toArray, List.getElem_cons_zero, List.getElem_cons_succ, List.setIfInBounds_toArray, List.set_cons_zero, List.set_cons_succ])
            refine wpG_take 22 1 (v := ?_) rfl (by kernel_rfl) (fun _ _ _ h => h) (Or.inl ⟨by rfl, ?_⟩) (by assumption) ?_
            rotate_left
            · intro w hSw; (try dsimp only at hSw); go_simp; (try with_reducible rfl)
            (try simp only [Act.put, List.getElem_toArray, List.getElem_cons_zero, List.getElem_cons_succ, List.setIfInBounds_toArray, List.set_cons_zero, List.set_cons_succ])
            refine wpG_take 22 2 (v := ?_) rfl (by kernel_rfl) (fun _ _ _ h => h) (Or.inl ⟨by rfl, ?_⟩) (by assumption) ?_
            rotate_left
            · intro w hSw; (try dsimp only at hSw); go_simp; (try with_reducible rfl)
            (try simp only [Act.put, List.getElem_toArray, List.getElem_cons_zero, List.getElem_cons_succ, List.setIfInBounds_toArray, List.set_cons_zero, List.set_cons_succ])
            refine wpG_take 22 6 (v := ?_) rfl (by kernel_rfl) (fun _ _ _ h => h) (Or.inl ⟨by rfl, ?_⟩) (by assumption) ?_
            rotate_left
            · intro w hSw; (try dsimp only at hSw); go_simp; (try with_reducible rfl)
            (try simp only [Act.put, List.getElem_toArray, List.getElem_cons_zero, List.getElem_cons_succ, List.setIfInBounds_toArray, List.set_cons_zero, List.set_cons_succ])
            refine wpG_take 22 7 (v := ?_) rfl (by kernel_rfl) (fun _ _ _ h => h) (Or.inl ⟨by rfl, ?_⟩) (by assumption) ?_
            rotate_left
            · intro w hSw; (try dsimp only at hSw); go_simp; (try with_reducible rfl)
            (try simp only [Act.put, List.getElem_toArray, List.getElem_cons_zero, List.getElem_cons_succ, List.setIfInBounds_toArray, List.set_cons_zero, List.set_cons_succ])
            refine wpG_take 22 8 (v := ?_) rfl (by kernel_rfl) (fun _ _ _ h => h) (Or.inl ⟨by rfl, ?_⟩) (by assumption) ?_
            rotate_left
            · intro w hSw; (try dsimp only at hSw); go_simp; (try with_reducible rfl)
            (try simp only [Act.put, List.getElem_toArray, List.getElem_cons_zero, List.getElem_cons_succ, List.setIfInBounds_toArray, List.set_cons_zero, List.set_cons_succ])
            refine wpG_take 22 9 (v := ?_) rfl (by kernel_rfl) (fun _ _ _ h => h) (Or.inl ⟨by rfl, ?_⟩) (by assumption) ?_
            rotate_left
            · intro w hSw; (try dsimp only at hSw); go_simp; (try with_reducible rfl)
            (try simp only [Act.put, List.getElem_toArray, List.getElem_cons_zero, List.getElem_cons_succ, List.setIfInBounds_toArray, List.set_cons_zero, List.set_cons_succ])
            refine wpG_take 22 13 (v := ?_) rfl (by kernel_rfl) (fun _ _ _ h => h) (Or.inl ⟨by rfl, ?_⟩) (by assumption) ?_
            rotate_left
            · intro w hSw; (try dsimp only at hSw); go_simp; (try with_reducible rfl)
            (try simp only [Act.put, List.getElem_toArray, List.getElem_cons_zero, List.getElem_cons_succ, List.setIfInBounds_toArray, List.set_cons_zero, List.set_cons_succ])
            refine wpG_take 22 14 (v := ?_) rfl (by kernel_rfl) (fun _ _ _ h => h) (Or.inl ⟨by rfl, ?_⟩) (by assumption) ?_
            rotate_left
            · intro w hSw; (try dsimp only at hSw); go_simp; (try with_reducible rfl)
            (try simp only [Act.put, List.getElem_toArray, List.getElem_cons_zero, List.getElem_cons_succ, List.setIfInBounds_toArray, List.set_cons_zero, List.set_cons_succ])
            refine wpG_take 22 15 (v := ?_) rfl (by kernel_rfl) (fun _ _ _ h => h) (Or.inl ⟨by rfl, ?_⟩) (by assumption) ?_
            rotate_left
            · intro w hSw; (try dsimp only at hSw); go_simp; (try with_reducible rfl)
            (try simp only [Act.put, List.getElem_toArray, List.getElem_cons_zero, List.getElem_cons_succ, List.setIfInBounds_toArray, List.set_cons_zero, List.set_cons_succ])
            refine wpG_take 22 16 (v := ?_) rfl (by kernel_rfl) (fun _ _ _ h => h) (Or.inl ⟨by rfl, ?_⟩) (by assumption) ?_
            rotate_left
            · intro w hSw; (try dsimp only at hSw); go_simp; (try with_reducible rfl)
            (try simp only [Act.put, List.getElem_toArray, List.getElem_cons_zero, List.getElem_cons_succ, List.setIfInBounds_toArray, List.set_cons_zero, List.set_cons_succ])
            refine wpG_take 22 17 (v := ?_) rfl (by kernel_rfl) (fun _ _ _ h => h) (Or.inl ⟨by rfl, ?_⟩) (by assumption) ?_
            rotate_left
            · intro w hSw; (try dsimp only at hSw); go_simp; (try with_reducible rfl)
            (try simp only [Act.put, List.getElem_toArray, List.getElem_cons_zero, List.getElem_cons_succ, List.setIfInBounds_toArray, List.set_cons_zero, List.set_cons_succ])
            refine wpG_take 22 11 (v := ?_) rfl (by kernel_rfl) (fun _ _ _ h => h) (Or.inl ⟨by rfl, ?_⟩) (by assumption) ?_
            rotate_left
            · intro w hSw; (try dsimp only at hSw); go_simp; (try with_reducible rfl)
            (try simp only [Act.put, List.getElem_toArray, List.getElem_cons_zero, List.getElem_cons_succ, List.setIfInBounds_toArray, List.set_cons_zero, List.set_cons_succ])
            refine wpG_take 22 18 (v := ?_) rfl (by kernel_rfl) (fun _ _ _ h => h) (Or.inl ⟨by rfl, ?_⟩) (by assumption) ?_
            rotate_left
            · intro w hSw; (try dsimp only at hSw); go_simp; (try with_reducible rfl)
            (try simp only [Act.put, List.getElem_toArray, List.getElem_cons_zero, List.getElem_cons_succ, List.setIfInBounds_toArray, List.set_cons_zero, List.set_cons_succ])
            refine wpG_take 22 19 (v := ?_) rfl (by kernel_rfl) (fun _ _ _ h => h) (Or.inl ⟨by rfl, ?_⟩) (by assumption) ?_
            rotate_left
            · intro w hSw; (try dsimp only at hSw); go_simp; (try with_reducible rfl)
            (try simp only [Act.put, List.getElem_toArray, List.getElem_cons_zero, List.getElem_cons_succ, List.setIfInBounds_toArray, List.set_cons_zero, List.set_cons_succ])
            refine wpG_one (i := 10) (by kernel_rfl) ?_
            refine wpOp_step rfl (fun K hK => ?_)
            go_simp
            refine hK _ _ ⟨hS1, ?_⟩
            clear hK K
            (try simp only [Act.put, List.getElem_toArray, List.getElem_cons_zero, List.getElem_cons_succ, List.setIfInBounds_toArray, List.set_cons_zero, List.set_cons_succ])
            refine wpG_one (i := 12) (by kernel_rfl) ?_
            refine wpOp_step rfl (fun K hK => ?_)
            go_simp
            refine hK _ _ ⟨hS1, ?_⟩
            clear hK K
            (try simp only [Act.put, List.getElem_toArray, List.getElem_cons_zero, List.getElem_cons_succ, List.setIfInBounds_toArray, List.set_cons_zero, List.set_cons_succ])
            refine wpG_one (i := 20) (by kernel_rfl) ?_
            refine wpOp_step rfl (fun K hK => ?_)
            go_simp
            refine hK _ _ ⟨hS1, ?_⟩
            clear hK K
            (try simp only [Act.put, List.getElem_toArray, List.getElem_cons_zero, List.getElem_cons_succ, List.setIfInBounds_toArray, List.set_cons_zero, List.set_cons_succ])
            refine wpG_one (i := 21) (by kernel_rfl) ?_
            refine wpOp_step rfl (fun K hK => ?_)
            go_simp
            refine hK _ _ ⟨(by (try dsimp only); refine ⟨?_, ?_, ?_⟩ <;> go_simp), ?_⟩
            clear hK K
            (try simp only [Act.put, List.getElem_toArray, List.getElem_cons_zero, List.getElem_cons_succ, List.setIfInBounds_toArray, List.set_cons_zero, List.set_cons_succ])
            refine ⟨by kernel_rfl, ?_⟩
            simp only [List.drop_succ_cons, List.drop_zero]
            clear hS1
            go_wp2_with fail
            clear e2 e3
            go_roundg (f.ps.length - (k + 1))
            case measure => omega
            case rel =>
              refine ⟨k + 1, by omega, by omega, by go_num, ?_⟩
              show DS _ _ _ _ _ _ _ _ _ _ _ _ _ _ _ _
              rw [HDRV.out, HQ3.out K3.out, HBY.out]
              exact ((HDS5.out.drew).set1 (by have := HOKK.out.fit.ws.len; omega) hlt _).set3 (by have := HOKK.out.fit.ts; show rk.ts.length = _; omega) hlt _
        · have K4 : Hid ((4 : Int) = 4) := rfl
          have hDn : (down f rk.hs).n = f.ps.length := HOKK.out.fit.hs.len
          have hkD : k < (down f rk.hs).n := by omega
          have hkDz : (k : Int) < ((down f rk.hs).n : Int) := by omega
          have hus := HOKK.out.uh HOK.out.right.toLaid
          have HSW := Lib.hid (swap_call f (some ⟨b, off, none⟩) b off c wr.heap.size wr (HH.out.la.mono HD.out.B.size) (fun j hj => (HH.out.ps j hj).below HD.out.B hbA) HOK.out.right)
          have HTD := Lib.hid (down_thru f rk.hs (some ⟨y2, 0, none⟩) y2 0 z2 wr.heap.size wr HOK.out.right.toLaid hus (by omega) (fun _ => ⟨rfl, HD.out.r2.lt⟩) (ZsAt.of_row (by rw [show rk.hs.length = f.ps.length from hDn]; exact HD.out.r2)))
          have HK : Hid (∀ W, Below wr.heap.size wr W → (W.cell? ⟨w.heap.size, 0, none⟩ = some (.int .i64 f.W) ∧ W.cell? ⟨w.heap.size, 1, none⟩ = some (.int .i64 f.H) ∧ W.cell? ⟨w.heap.size, 2, none⟩ = some (.slice (some ⟨b, off, none⟩) f.ps.length c) ∧ W.cell? ⟨sb, 1, none⟩ = some (.slice (some ⟨y2, 0, none⟩) f.ps.length z2) ∧ W.cell? ⟨sb, 2, none⟩ = some (.slice (some ⟨y3, 0, none⟩) f.ps.length z3) ∧ W.cell? ⟨y3, k, none⟩ = some (.int .i64 (gz rk.ts k)))) := (show ∀ W, _ from fun W hW => ⟨(HD.out.below hW).F.cell 0, (HD.out.below hW).F.cell 1, (HD.out.below hW).F.cell 2, (HD.out.below hW).S.cell 1, (HD.out.below hW).S.cell 2, (HD.out.below hW).r3.cell hlt⟩)
          have h0 : Below wr.heap.size wr wr.drew := (Below.refl _ _).drew
          have H0 := Lib.hid h0
          have hS0 := HK.out wr.drew h0
          clear h0 hus
          by_cases hle : gz rk.ts k ≤ 60 * f.H - (down f rk.hs).thr k
          · have HBY : Hid (byD f rk k = gz rk.ts k) := by show min _ _ = _; omega
            have e1 : IntKind.i64.wrap (60 * f.H - (down f rk.hs).thr k) = 60 * f.H - (down f rk.hs).thr k := IntWalk.i64_in _ (by omega)
            have e0 : IntKind.i64.wrap (60 * f.H) = 60 * f.H := IntWalk.i64_in _ (by omega)
            have e2 : IntKind.i64.wrap (gz rk.hs k + gz rk.ts k) = gz rk.hs k + gz rk.ts k := IntWalk.i64_in _ (by omega)
            have e3 : IntKind.i64.wrap (gz rk.ts k - gz rk.ts k) = gz rk.ts k - gz rk.ts k := IntWalk.i64_in _ (by omega)
            go_upto_region 10 with (fail)
            refine wp_region_split (fun W => (W.cell? ⟨w.heap.size, 0, none⟩ = some (.int .i64 f.W) ∧ W.cell? ⟨w.heap.size, 1, none⟩ = some (.int .i64 f.H) ∧ W.cell? ⟨w.heap.size, 2, none⟩ = some (.slice (some ⟨b, off, none⟩) f.ps.length c) ∧ W.cell? ⟨sb, 1, none⟩ = some (.slice (some ⟨y2, 0, none⟩) f.ps.length z2) ∧ W.cell? ⟨sb, 2, none⟩ = some (.slice (some ⟨y3, 0, none⟩) f.ps.length z3) ∧ W.cell? ⟨y3, k, none⟩ = some (.int .i64 (gz rk.ts k)))) 18 (by kernel_rfl) (by decide) ?_
            refine wpG_take 18 0 (v := ?_) rfl (by kernel_rfl) (fun _ _ _ h => h) (Or.inl ⟨by rfl, ?_⟩) (by assumption) ?_
            rotate_left
            · intro w hSw; (try dsimp only at hSw); go_simp; (try with_reducible rfl)
            (try simp only [Act.put, List.getElem_toArray, List.getElem_cons_zero, List.getElem_cons_succ, List.setIfInBounds_toArray, List.set_cons_zero, List.set_cons_succ])
            refine wpG_take 18 1 (v := ?_) rfl (by kernel_rfl) (fun _ _ _ h => h) (Or.inl ⟨by rfl, ?_⟩) (by assumption) ?_
            rotate_left
            · intro w hSw; (try dsimp only at hSw); go_simp; (try with_reducible rfl)
            (try simp only [Act.put, List.getElem_toArray, List.getElem_cons_zero, List.getElem_cons_succ, List.setIfInBounds_toArray, List.set_cons_zero, List.set_cons_succ])
            refine wpG_take 18 2 (v := ?_) rfl (by kernel_rfl) (fun _ _ _ h => h) (Or.inl ⟨by rfl, ?_⟩) (by assumption) ?_
            rotate_left
            · intro w hSw; (try dsimp only at hSw); go_simp; (try with_reducible rfl)
            (try simp only [Act.put, List.getElem_toArray, List.getElem_cons_zero, List.getElem_cons_succ, List.setIfInBounds_toArray, List.set_cons_zero, List.set_cons_succ])
            refine wpG_take 18 3 (v := ?_) rfl (by kernel_rfl) (fun _ _ _ h => h) (Or.inl ⟨by rfl, ?_⟩) (by assumption) ?_
            rotate_left
            · intro w hSw; (try dsimp only at hSw); go_simp; (try with_reducible rfl)
            (try simp only [Act.put, List.getElem_toArray, List.getElem_cons_zero, List.getElem_cons_succ, List.setIfInBounds_toArray, List.set_cons_zero, List.set_cons_succ])
            refine wpG_take 18 4 (v := ?_) rfl (by kernel_rfl) (fun _ _ _ h => h) (Or.inl ⟨by rfl, ?_⟩) (by assumption) ?_
            rotate_left
            · intro w hSw; (try dsimp only at hSw); go_simp; (try with_reducible rfl)
            (try simp only [Act.put, List.getElem_toArray, List.getElem_cons_zero, List.getElem_cons_succ, List.setIfInBounds_toArray, List.set_cons_zero, List.set_cons_succ])
            refine wpG_take 18 5 (v := ?_) rfl (by kernel_rfl) (fun _ _ _ h => h) (Or.inl ⟨by rfl, ?_⟩) (by assumption) ?_
            rotate_left
            · intro w hSw; (try dsimp only at hSw); go_simp; (try with_reducible rfl)
            (try simp only [Act.put, List.getElem_toArray, List.getElem_cons_zero, List.getElem_cons_succ, List.setIfInBounds_toArray, List.set_cons_zero, List.set_cons_succ])
            refine wpG_take 18 6 (v := ?_) rfl (by kernel_rfl) (fun _ _ _ h => h) (Or.inl ⟨by rfl, ?_⟩) (by assumption) ?_
            rotate_left
            · intro w hSw; (try dsimp only at hSw); go_simp; (try with_reducible rfl)
            (try simp only [Act.put, List.getElem_toArray, List.getElem_cons_zero, List.getElem_cons_succ, List.setIfInBounds_toArray, List.set_cons_zero, List.set_cons_succ])
            refine wpG_take 18 7 (v := ?_) rfl (by kernel_rfl) (fun _ _ _ h => h) (Or.inl ⟨by rfl, ?_⟩) (by assumption) ?_
            rotate_left
            · intro w hSw; (try dsimp only at hSw); go_simp; (try with_reducible rfl)
            (try simp only [Act.put, List.getElem_toArray, List.getElem_cons_zero, List.getElem_cons_succ, List.setIfInBounds_toArray, List.set_cons_zero, List.set_cons_succ])
            refine wpG_take 18 8 (v := ?_) rfl (by kernel_rfl) (fun _ _ _ h => h) (Or.inl ⟨by rfl, ?_⟩) (by assumption) ?_
            rotate_left
            · intro w hSw; (try dsimp only at hSw); go_simp; (try with_reducible rfl)
            (try simp only [Act.put, List.getElem_toArray, List.getElem_cons_zero, List.getElem_cons_succ, List.setIfInBounds_toArray, List.set_cons_zero, List.set_cons_succ])
            refine wpG_take 18 10 (v := ?_) rfl (by kernel_rfl) (fun _ _ _ h => h) (Or.inl ⟨by rfl, ?_⟩) (by assumption) ?_
            rotate_left
            · intro w hSw; (try dsimp only at hSw); go_simp; (try with_reducible rfl)
            (try simp only [Act.put, List.getElem_toArray, List.getElem_cons_zero, List.getElem_cons_succ, List.setIfInBounds_toArray, List.set_cons_zero, List.set_cons_succ])
            refine wpG_take 18 11 (v := ?_) rfl (by kernel_rfl) (fun _ _ _ h => h) (Or.inl ⟨by rfl, ?_⟩) (by assumption) ?_
            rotate_left
            · intro w hSw; (try dsimp only at hSw); go_simp; (try with_reducible rfl)
            (try simp only [Act.put, List.getElem_toArray, List.getElem_cons_zero, List.getElem_cons_succ, List.setIfInBounds_toArray, List.set_cons_zero, List.set_cons_succ])
            refine wpG_take 18 13 (v := ?_) rfl (by kernel_rfl) (fun _ _ _ h => h) (Or.inl ⟨by rfl, ?_⟩) (by assumption) ?_
            rotate_left
            · intro w hSw; (try dsimp only at hSw); go_simp; (try with_reducible rfl)
            (try simp only [Act.put, List.getElem_toArray, List.getElem_cons_zero, List.getElem_cons_succ, List.setIfInBounds_toArray, List.set_cons_zero, List.set_cons_succ])
            refine wpG_one (i := 9) (by kernel_rfl) ?_
            refine wpOp_step rfl (fun K hK => ?_)
            go_simp
            go_at_call 89
            (with_reducible refine (HSW.out _ H0.out H0.out.size).mono ?_)
            rintro e w4 ⟨A', b', c', rfl, la', pa', hb4'⟩
            have hb4 : Below wr.heap.size wr w4 := H0.out.trans (hb4'.mono H0.out.size)
            have n4 := HK.out w4 hb4
            (try dsimp only)
            refine hK _ _ ⟨n4, ?_⟩
            clear hK K hb4' hS0
            (try simp only [Act.put, List.getElem_toArray, List.getElem_cons_zero, List.getElem_cons_succ, List.setIfInBounds_toArray, List.set_cons_zero, List.set_cons_succ])
            refine wpG_one (i := 12) (by kernel_rfl) ?_
            refine wpOp_step rfl (fun K hK => ?_)
            go_simp
            go_at_call 94
            (with_reducible refine (HTD.out w4 A' b' c' hb4 hb4.size la' pa').mono ?_)
            rintro e w5 ⟨gT, rfl, hgT, RT, hb5'⟩
            have hb5 : Below wr.heap.size wr w5 := hb4.trans (hb5'.mono hb4.size)
            have hthr := RT.cell hkD
            have HDS5 := Lib.hid (HD.out.below hb5)
            have n5 := HK.out w5 hb5
            have H5 := Lib.hid hb5
            (try dsimp only)
            refine hK _ _ ⟨n5, ?_⟩
            clear hK K hb5' hb5
            (try clear hS0)
            (try simp only [Act.put, List.getElem_toArray, List.getElem_cons_zero, List.getElem_cons_succ, List.setIfInBounds_toArray, List.set_cons_zero, List.set_cons_succ])
            refine wpG_take 18 14 (v := ?_) rfl (by kernel_rfl) (fun _ _ _ h => h) (Or.inl ⟨by rfl, ?_⟩) (by assumption) ?_
            rotate_left
            · intro w hSw; (try dsimp only at hSw); go_simp; (try with_reducible rfl)
            (try simp only [Act.put, List.getElem_toArray, List.getElem_cons_zero, List.getElem_cons_succ, List.setIfInBounds_toArray, List.set_cons_zero, List.set_cons_succ])
            refine wpG_one (i := 15) (by kernel_rfl) ?_
            refine wpOp_step rfl (fun K hK => ?_)
            go_simp
            refine hK _ _ ⟨n5, ?_⟩
            clear hK K
            (try simp only [Act.put, List.getElem_toArray, List.getElem_cons_zero, List.getElem_cons_succ, List.setIfInBounds_toArray, List.set_cons_zero, List.set_cons_succ])
            refine wpG_take 18 16 (v := ?_) rfl (by kernel_rfl) (fun _ _ _ h => h) (Or.inl ⟨by rfl, ?_⟩) (by assumption) ?_
            rotate_left
            · intro w hSw; (try dsimp only at hSw); go_simp; (try with_reducible rfl)
            (try simp only [Act.put, List.getElem_toArray, List.getElem_cons_zero, List.getElem_cons_succ, List.setIfInBounds_toArray, List.set_cons_zero, List.set_cons_succ])
            refine wpG_one (i := 17) (by kernel_rfl) ?_
            refine wpOp_step rfl (fun K hK => ?_)
            go_simp
            refine hK _ _ ⟨n5, ?_⟩
            clear hK K
            (try simp only [Act.put, List.getElem_toArray, List.getElem_cons_zero, List.getElem_cons_succ, List.setIfInBounds_toArray, List.set_cons_zero, List.set_cons_succ])
            refine ⟨by kernel_rfl, ?_⟩
            simp only [List.drop_succ_cons, List.drop_zero]
            have q1 := HDS5.out.r2.cell hlt
            have q1f := HDS5.out.r2.frozen k
            have q3 := HDS5.out.r3.cell hlt
            have q3f := HDS5.out.r3.frozen k
            have hne3 : ¬ y3 = y2 := fun e => HDS5.out.d23 e.symm
            have hne1 : ¬ sb = y2 := fun e => HDS5.out.n2.2.2.1 e.symm
            have hne2 : ¬ y2 = y3 := HDS5.out.d23
            obtain ⟨-, -, -, n5d, n5e, -⟩ := n5
            clear e1 e0 hthr
            have hS1 : (w5.drew.cell? ⟨sb, 1, none⟩ = some (.slice (some ⟨y2, 0, none⟩) f.ps.length z2) ∧ w5.drew.cell? ⟨sb, 2, none⟩ = some (.slice (some ⟨y3, 0, none⟩) f.ps.length z3) ∧ w5.drew.cell? ⟨y3, k, none⟩ = some (.int .i64 (gz rk.ts k))) := ⟨n5d, n5e, q3⟩
            go_wp2_with fail
            refine wp_region_split (fun W => (W.cell? ⟨sb, 1, none⟩ = some (.slice (some ⟨y2, 0, none⟩) f.ps.length z2) ∧ W.cell? ⟨sb, 2, none⟩ = some (.slice (some ⟨y3, 0, none⟩) f.ps.length z3) ∧ W.cell? ⟨y3, k, none⟩ = some (.int .i64 (gz rk.ts k)))) 22 (by kernel_rfl) (by decide) ?_
            refine wpG_take 22 3 (v := ?_) rfl (by kernel_rfl) (fun _ _ _ h => h) (Or.inl ⟨by rfl, ?_⟩) (by assumption) ?_
            rotate_left
            · intro w hSw; (try dsimp only at hSw); go_simp; (try with_reducible rfl)
            (try simp only [Act.put, List.getElem_toArray, List.getElem_cons_zero, List.getElem_cons_succ, List.setIfInBounds_toArray, List.set_cons_zero, List.set_cons_succ])
            refine wpG_take 22 4 (v := ?_) rfl (by kernel_rfl) (fun _ _ _ h => h) (Or.inl ⟨by rfl, ?_⟩) (by assumption) ?_
            rotate_left
            · intro w hSw; (try dsimp only at hSw); go_simp; (try with_reducible rfl)
            (try simp only [Act.put, List.getElem_toArray, List.getElem_cons_zero, List.getElem_cons_succ, List.setIfInBounds_toArray, List.set_cons_zero, List.set_cons_succ])
            refine wpG_take 22 5 (v := ?_) rfl (by kernel_rfl) (fun _ _ _ h => h) (Or.inl ⟨by rfl, ?_⟩) (by assumption) ?_
            rotate_left
            · intro w hSw; (try dsimp only at hSw); go_simp; (try with_reducible rfl)
            (try simp only [Act.put, List.getElem_toArray, List.getElem_cons_zero, List.getElem_cons_succ, List.setIfInBounds_toArray, List.set_cons_zero, List.set_cons_succ])
            refine wpG_take 22 0 (v := ?_) rfl (by kernel_rfl) (fun _ _ _ h => h) (Or.inl ⟨by rfl, ?_⟩) (by assumption) ?_
            rotate_left
            · intro w hSw; (try dsimp only at hSw); go_simp; (try with_reducible rfl)
            (try simp only [Act.put, List.getElem_toArray, List.getElem_cons_zero, List.getElem_cons_succ, List.setIfInBounds_toArray, List.set_cons_zero, List.set_cons_succ])
            refine wpG_take 22 1 (v := ?_) rfl (by kernel_rfl) (fun _ _ _ h => h) (Or.inl ⟨by rfl, ?_⟩) (by assumption) ?_
            rotate_left
            · intro w hSw; (try dsimp only at hSw); go_simp; (try with_reducible rfl)
            (try simp only [Act.put, List.getElem_toArray, List.getElem_cons_zero, List.getElem_cons_succ, List.setIfInBounds_toArray, List.set_cons_zero, List.set_cons_succ])
            refine wpG_take 22 2 (v := ?_) rfl (by kernel_rfl) (fun _ _ _ h => h) (Or.inl ⟨by rfl, ?_⟩) (by assumption) ?_
            rotate_left
            · intro w hSw; (try dsimp only at hSw); go_simp; (try with_reducible rfl)
            (try simp only [Act.put, List.getElem_toArray, List.getElem_cons_zero, List.getElem_cons_succ, List.setIfInBounds_toArray, List.set_cons_zero, List.set_cons_succ])
            refine wpG_take 22 6 (v := ?_) rfl (by kernel_rfl) (fun _ _ _ h => h) (Or.inl ⟨by rfl, ?_⟩) (by assumption) ?_
            rotate_left
            · intro w hSw; (try dsimp only at hSw); go_simp; (try with_reducible rfl)
            (try simp only [Act.put, List.getElem_toArray, List.getElem_cons_zero, List.getElem_cons_succ, List.setIfInBounds_toArray, List.set_cons_zero, List.set_cons_succ])
            refine wpG_take 22 7 (v := ?_) rfl (by kernel_rfl) (fun _ _ _ h => h) (Or.inl ⟨by rfl, ?_⟩) (by assumption) ?_
            rotate_left
            · intro w hSw; (try dsimp only at hSw); go_simp; (try with_reducible rfl)
            (try simp only [Act.put, List.getElem_toArray, List.getElem_cons_zero, List.getElem_cons_succ, List.setIfInBounds_toArray, List.set_cons_zero, List.set_cons_succ])
            refine wpG_take 22 8 (v := ?_) rfl (by kernel_rfl) (fun _ _ _ h => h) (Or.inl ⟨by rfl, ?_⟩) (by assumption) ?_
            rotate_left
            · intro w hSw; (try dsimp only at hSw); go_simp; (try with_reducible rfl)
            (try simp only [Act.put, List.getElem_toArray, List.getElem_cons_zero, List.getElem_cons_succ, List.setIfInBounds_toArray, List.set_cons_zero, List.set_cons_succ])
            refine wpG_take 22 9 (v := ?_) rfl (by kernel_rfl) (fun _ _ _ h => h) (Or.inl ⟨by rfl, ?_⟩) (by assumption) ?_
            rotate_left
            · intro w hSw; (try dsimp only at hSw); go_simp; (try with_reducible rfl)
            (try simp only [Act.put, List.getElem_toArray, List.getElem_cons_zero, List.getElem_cons_succ, List.setIfInBounds_toArray, List.set_cons_zero, List.set_cons_succ])
            refine wpG_take 22 13 (v := ?_) rfl (by kernel_rfl) (fun _ _ _ h => h) (Or.inl ⟨by rfl, ?_⟩) (by assumption) ?_
            rotate_left
            · intro w hSw; (try dsimp only at hSw); go_simp; (try with_reducible rfl)
            (try simp only [Act.put, List.getElem_toArray, List.getElem_cons_zero, List.getElem_cons_succ, List.setIfInBounds_toArray, List.set_cons_zero, List.set_cons_succ])
            refine wpG_take 22 14 (v := ?_) rfl (by kernel_rfl) (fun _ _ _ h => h) (Or.inl ⟨by rfl, ?_⟩) (by assumption) ?_
            rotate_left
            · intro w hSw; (try dsimp only at hSw); go_simp; (try with_reducible rfl)
            (try simp only [Act.put, List.getElem_toArray, List.getElem_cons_zero, List.getElem_cons_succ, List.setIfInBounds_toArray, List.set_cons_zero, List.set_cons_succ])
            refine wpG_take 22 15 (v := ?_) rfl (by kernel_rfl) (fun _ _ _ h => h) (Or.inl ⟨by rfl, ?_⟩) (by assumption) ?_
            rotate_left
            · intro w hSw; (try dsimp only at hSw); go_simp; (try with_reducible rfl)
            (try simp only [Act.put, List.getElem_toArray, List.getElem_cons_zero, List.getElem_cons_succ, List.setIfInBounds_toArray, List.set_cons_zero, List.set_cons_succ])
            refine wpG_take 22 16 (v := ?_) rfl (by kernel_rfl) (fun _ _ _ h => h) (Or.inl ⟨by rfl, ?_⟩) (by assumption) ?_
            rotate_left
            · intro w hSw; (try dsimp only at hSw); go_simp; (try with_reducible rfl)
            (try simp only [Act.put, List.getElem_toArray, List.getElem_cons_zero, List.getElem_cons_succ, List.setIfInBounds_toArray, List.set_cons_zero, List.set_cons_succ])
            refine wpG_take 22 17 (v := ?_) rfl (by kernel_rfl) (fun _ _ _ h => h) (Or.inl ⟨by rfl, ?_⟩) (by assumption) ?_
            rotate_left
            · intro w hSw; (try dsimp only at hSw); go_simp; (try with_reducible rfl)
            (try simp only [Act.put, List.getElem_toArray, List.getElem_cons_zero, List.getElem_cons_succ, List.setIfInBounds_toArray, List.set_cons_zero, List.set_cons_succ])
            refine wpG_take 22 11 (v := ?_) rfl (by kernel_rfl) (fun _ _ _ h => h) (Or.inl ⟨by rfl, ?_⟩) (by assumption) ?_
            rotate_left
            · intro w hSw; (try dsimp only at hSw); go_simp; (try with_reducible rfl)
            (try simp only [Act.put, List.getElem_toArray, List.getElem_cons_zero, List.getElem_cons_succ, List.setIfInBounds_toArray, List.set_cons_zero, List.set_cons_succ])
            refine wpG_take 22 18 (v := ?_) rfl (by kernel_rfl) (fun _ _ _ h => h) (Or.inl ⟨by rfl, ?_⟩) (by assumption) ?_
            rotate_left
            · intro w hSw; (try dsimp only at hSw); go_simp; (try with_reducible rfl)
            (try simp only [Act.put, List.getElem_toArray, List.getElem_cons_zero, List.getElem_cons_succ, List.setIfInBounds_toArray, List.set_cons_zero, List.set_cons_succ])
            refine wpG_take 22 19 (v := ?_) rfl (by kernel_rfl) (fun _ _ _ h => h) (Or.inl ⟨by rfl, ?_⟩) (by assumption) ?_
            rotate_left
            · intro w hSw; (try dsimp only at hSw); go_simp; (try with_reducible rfl)
            (try simp only [Act.put, List.getElem_toArray, List.getElem_cons_zero, List.getElem_cons_succ, List.setIfInBounds_toArray, List.set_cons_zero, List.set_cons_succ])
            refine wpG_one (i := 10) (by kernel_rfl) ?_
            refine wpOp_step rfl (fun K hK => ?_)
            go_simp
            refine hK _ _ ⟨hS1, ?_⟩
            clear hK K
            (try simp only [Act.put, List.getElem_toArray, List.getElem_cons_zero, List.getElem_cons_succ, List.setIfInBounds_toArray, List.set_cons_zero, List.set_cons_succ])
            refine wpG_one (i := 12) (by kernel_rfl) ?_
            refine wpOp_step rfl (fun K hK => ?_)
            go_simp
            refine hK _ _ ⟨hS1, ?_⟩
            clear hK K
            (try simp only [Act.put, List.getElem_toArray, List.getElem_cons_zero, List.getElem_cons_succ, List.setIfInBounds_toArray, List.set_cons_zero, List.set_cons_succ])
            refine wpG_one (i := 20) (by kernel_rfl) ?_
            refine wpOp_step rfl (fun K hK => ?_)
            go_simp
            refine hK _ _ ⟨hS1, ?_⟩
            clear hK K
            (try simp only [Act.put, List.getElem_toArray, List.getElem_cons_zero, List.getElem_cons_succ, List.setIfInBounds_toArray, List.set_cons_zero, List.set_cons_succ])
            refine wpG_one (i := 21) (by kernel_rfl) ?_
            refine wpOp_step rfl (fun K hK => ?_)
            go_simp
            refine hK _ _ ⟨(by (try dsimp only); refine ⟨?_, ?_, ?_⟩ <;> go_simp), ?_⟩
            clear hK K
            (try simp only [Act.put, List.getElem_toArray, List.getElem_cons_zero, List.getElem_cons_succ, List.setIfInBounds_toArray, List.set_cons_zero, List.set_cons_succ])
            refine ⟨by kernel_rfl, ?_⟩
            simp only [List.drop_succ_cons, List.drop_zero]
            clear hS1
            go_wp2_with fail
            clear e2 e3
            go_roundg (f.ps.length - (k + 1))
            case measure => omega
            case rel =>
              refine ⟨k + 1, by omega, by omega, by go_num, ?_⟩
              show DS _ _ _ _ _ _ _ _ _ _ _ _ _ _ _ _
              rw [HDRV.out, HQ4.out K4.out, HBY.out, Int.sub_self]
              exact ((HDS5.out.drew).set2 (by have := HOKK.out.fit.hs.len; omega) hlt _).set3 (by have := HOKK.out.fit.ts; show rk.ts.length = _; omega) hlt _
          · have HBY : Hid (byD f rk k = (60 * f.H - (down f rk.hs).thr k)) := by show min _ _ = _; omega
            have e1 : IntKind.i64.wrap (60 * f.H - (down f rk.hs).thr k) = 60 * f.H - (down f rk.hs).thr k := IntWalk.i64_in _ (by omega)
            have e0 : IntKind.i64.wrap (60 * f.H) = 60 * f.H := IntWalk.i64_in _ (by omega)
            have e2 : IntKind.i64.wrap (gz rk.hs k + (60 * f.H - (down f rk.hs).thr k)) = gz rk.hs k + (60 * f.H - (down f rk.hs).thr k) := IntWalk.i64_in _ (by omega)
            have e3 : IntKind.i64.wrap (gz rk.ts k - (60 * f.H - (down f rk.hs).thr k)) = gz rk.ts k - (60 * f.H - (down f rk.hs).thr k) := IntWalk.i64_in _ (by omega)
            go_upto_region 10 with (fail)
            refine wp_region_split (fun W => (W.cell? ⟨w.heap.size, 0, none⟩ = some (.int .i64 f.W) ∧ W.cell? ⟨w.heap.size, 1, none⟩ = some (.int .i64 f.H) ∧ W.cell? ⟨w.heap.size, 2, none⟩ = some (.slice (some ⟨b, off, none⟩) f.ps.length c) ∧ W.cell? ⟨sb, 1, none⟩ = some (.slice (some ⟨y2, 0, none⟩) f.ps.length z2) ∧ W.cell? ⟨sb, 2, none⟩ = some (.slice (some ⟨y3, 0, none⟩) f.ps.length z3) ∧ W.cell? ⟨y3, k, none⟩ = some (.int .i64 (gz rk.ts k)))) 18 (by kernel_rfl) (by decide) ?_
            refine wpG_take 18 0 (v := ?_) rfl (by kernel_rfl) (fun _ _ _ h => h) (Or.inl ⟨by rfl, ?_⟩) (by assumption) ?_
            rotate_left
            · intro w hSw; (try dsimp only at hSw); go_simp; (try with_reducible rfl)
            (try simp only [Act.put, List.getElem_toArray, List.getElem_cons_zero, List.getElem_cons_succ, List.setIfInBounds_toArray, List.set_cons_zero, List.set_cons_succ])
            refine wpG_take 18 1 (v := ?_) rfl (by kernel_rfl) (fun _ _ _ h => h) (Or.inl ⟨by rfl, ?_⟩) (by assumption) ?_
            rotate_left
            · intro w hSw; (try dsimp only at hSw); go_simp; (try with_reducible rfl)
            (try simp only [Act.put, List.getElem_toArray, List.getElem_cons_zero, List.getElem_cons_succ, List.setIfInBounds_toArray, List.set_cons_zero, List.set_cons_succ])
            refine wpG_take 18 2 (v := ?_) rfl (by kernel_rfl) (fun _ _ _ h => h) (Or.inl ⟨by rfl, ?_⟩) (by assumption) ?_
            rotate_left
            · intro w hSw; (try dsimp only at hSw); go_simp; (try with_reducible rfl)
            (try simp only [Act.put, List.getElem_toArray, List.getElem_cons_zero, List.getElem_cons_succ, List.setIfInBounds_toArray, List.set_cons_zero, List.set_cons_succ])
            refine wpG_take 18 3 (v := ?_) rfl (by kernel_rfl) (fun _ _ _ h => h) (Or.inl ⟨by rfl, ?_⟩) (by assumption) ?_
            rotate_left
            · intro w hSw; (try dsimp only at hSw); go_simp; (try with_reducible rfl)
            (try simp only [Act.put, List.getElem_toArray, List.getElem_cons_zero, List.getElem_cons_succ, List.setIfInBounds_toArray, List.set_cons_zero, List.set_cons_succ])
            refine wpG_take 18 4 (v := ?_) rfl (by kernel_rfl) (fun _ _ _ h => h) (Or.inl ⟨by rfl, ?_⟩) (by assumption) ?_
            rotate_left
            · intro w hSw; (try dsimp only at hSw); go_simp; (try with_reducible rfl)
            (try simp only [Act.put, List.getElem_toArray, List.getElem_cons_zero, List.getElem_cons_succ, List.setIfInBounds_toArray, List.set_cons_zero, List.set_cons_succ])
            refine wpG_take 18 5 (v := ?_) rfl (by kernel_rfl) (fun _ _ _ h => h) (Or.inl ⟨by rfl, ?_⟩) (by assumption) ?_
            rotate_left
            · intro w hSw; (try dsimp only at hSw); go_simp; (try with_reducible rfl)
            (try simp only [Act.put, List.getElem_toArray, List.getElem_cons_zero, List.getElem_cons_succ, List.setIfInBounds_toArray, List.set_cons_zero, List.set_cons_succ])
            refine wpG_take 18 6 (v := ?_) rfl (by kernel_rfl) (fun _ _ _ h => h) (Or.inl ⟨by rfl, ?_⟩) (by assumption) ?_
            rotate_left
            · intro w hSw; (try dsimp only at hSw); go_simp; (try with_reducible rfl)
            (try simp only [Act.put, List.getElem_toArray, List.getElem_cons_zero, List.getElem_cons_succ, List.setIfInBounds_toArray, List.set_cons_zero, List.set_cons_succ])
            refine wpG_take 18 7 (v := ?_) rfl (by kernel_rfl) (fun _ _ _ h => h) (Or.inl ⟨by rfl, ?_⟩) (by assumption) ?_
            rotate_left
            · intro w hSw; (try dsimp only at hSw); go_simp; (try with_reducible rfl)
            (try simp only [Act.put, List.getElem_toArray, List.getElem_cons_zero, List.getElem_cons_succ, List.setIfInBounds_toArray, List.set_cons_zero, List.set_cons_succ])
            refine wpG_take 18 8 (v := ?_) rfl (by kernel_rfl) (fun _ _ _ h => h) (Or.inl ⟨by rfl, ?_⟩) (by assumption) ?_
            rotate_left
            · intro w hSw; (try dsimp only at hSw); go_simp; (try with_reducible rfl)
            (try simp only [Act.put, List.getElem_toArray, List.getElem_cons_zero, List.getElem_cons_succ, List.setIfInBounds_toArray, List.set_cons_zero, List.set_cons_succ])
            refine wpG_take 18 10 (v := ?_) rfl (by kernel_rfl) (fun _ _ _ h => h) (Or.inl ⟨by rfl, ?_⟩) (by assumption) ?_
            rotate_left
            · intro w hSw; (try dsimp only at hSw); go_simp; (try with_reducible rfl)
            (try simp only [Act.put, List.getElem_toArray, List.getElem_cons_zero, List.getElem_cons_succ, List.setIfInBounds_toArray, List.set_cons_zero, List.set_cons_succ])
            refine wpG_take 18 11 (v := ?_) rfl (by kernel_rfl) (fun _ _ _ h => h) (Or.inl ⟨by rfl, ?_⟩) (by assumption) ?_
            rotate_left
            · intro w hSw; (try dsimp only at hSw); go_simp; (try with_reducible rfl)
            (try simp only [Act.put, List.getElem_toArray, List.getElem_cons_zero, List.getElem_cons_succ, List.setIfInBounds_toArray, List.set_cons_zero, List.set_cons_succ])
            refine wpG_take 18 13 (v := ?_) rfl (by kernel_rfl) (fun _ _ _ h => h) (Or.inl ⟨by rfl, ?_⟩) (by assumption) ?_
            rotate_left
            · intro w hSw; (try dsimp only at hSw); go_simp; (try with_reducible rfl)
            (try simp only [Act.put, List.getElem_toArray, List.getElem_cons_zero, List.getElem_cons_succ, List.setIfInBounds_toArray, List.set_cons_zero, List.set_cons_succ])
            refine wpG_one (i := 9) (by kernel_rfl) ?_
            refine wpOp_step rfl (fun K hK => ?_)
            go_simp
            go_at_call 89
            (with_reducible refine (HSW.out _ H0.out H0.out.size).mono ?_)
            rintro e w4 ⟨A', b', c', rfl, la', pa', hb4'⟩
            have hb4 : Below wr.heap.size wr w4 := H0.out.trans (hb4'.mono H0.out.size)
            have n4 := HK.out w4 hb4
            (try dsimp only)
            refine hK _ _ ⟨n4, ?_⟩
            clear hK K hb4' hS0
            (try simp only [Act.put, List.getElem_toArray, List.getElem_cons_zero, List.getElem_cons_succ, List.setIfInBounds_toArray, List.set_cons_zero, List.set_cons_succ])
            refine wpG_one (i := 12) (by kernel_rfl) ?_
            refine wpOp_step rfl (fun K hK => ?_)
            go_simp
            go_at_call 94
            (with_reducible refine (HTD.out w4 A' b' c' hb4 hb4.size la' pa').mono ?_)
            rintro e w5 ⟨gT, rfl, hgT, RT, hb5'⟩
            have hb5 : Below wr.heap.size wr w5 := hb4.trans (hb5'.mono hb4.size)
            have hthr := RT.cell hkD
            have HDS5 := Lib.hid (HD.out.below hb5)
            have n5 := HK.out w5 hb5
            have H5 := Lib.hid hb5
            (try dsimp only)
            refine hK _ _ ⟨n5, ?_⟩
            clear hK K hb5' hb5
            (try clear hS0)
            (try simp only [Act.put, List.getElem_toArray, List.getElem_cons_zero, List.getElem_cons_succ, List.setIfInBounds_toArray, List.set_cons_zero, List.set_cons_succ])
            refine wpG_take 18 14 (v := ?_) rfl (by kernel_rfl) (fun _ _ _ h => h) (Or.inl ⟨by rfl, ?_⟩) (by assumption) ?_
            rotate_left
            · intro w hSw; (try dsimp only at hSw); go_simp; (try with_reducible rfl)
            (try simp only [Act.put, List.getElem_toArray, List.getElem_cons_zero, List.getElem_cons_succ, List.setIfInBounds_toArray, List.set_cons_zero, List.set_cons_succ])
            refine wpG_one (i := 15) (by kernel_rfl) ?_
            refine wpOp_step rfl (fun K hK => ?_)
            go_simp
            refine hK _ _ ⟨n5, ?_⟩
            clear hK K
            (try simp only [Act.put, List.getElem_toArray, List.getElem_cons_zero, List.getElem_cons_succ, List.setIfInBounds_toArray, List.set_cons_zero, List.set_cons_succ])
            refine wpG_take 18 16 (v := ?_) rfl (by kernel_rfl) (fun _ _ _ h => h) (Or.inl ⟨by rfl, ?_⟩) (by assumption) ?_
            rotate_left
            · intro w hSw; (try dsimp only at hSw); go_simp; (try with_reducible rfl)
            (try simp only [Act.put, List.getElem_toArray, List.getElem_cons_zero, List.getElem_cons_succ, List.setIfInBounds_toArray, List.set_cons_zero, List.set_cons_succ])
            refine wpG_one (i := 17) (by kernel_rfl) ?_
            refine wpOp_step rfl (fun K hK => ?_)
            go_simp
            refine hK _ _ ⟨n5, ?_⟩
            clear hK K
            (try simp only [Act.put, List.getElem_toArray, List.getElem_cons_zero, List.getElem_cons_succ, List.setIfInBounds_toArray, List.set_cons_zero, List.set_cons_succ])
            refine ⟨by kernel_rfl, ?_⟩
            simp only [List.drop_succ_cons, List.drop_zero]
            have q1 := HDS5.out.r2.cell hlt
            have q1f := HDS5.out.r2.frozen k
            have q3 := HDS5.out.r3.cell hlt
            have q3f := HDS5.out.r3.frozen k
            have hne3 : ¬ y3 = y2 := fun e => HDS5.out.d23 e.symm
            have hne1 : ¬ sb = y2 := fun e => HDS5.out.n2.2.2.1 e.symm
            have hne2 : ¬ y2 = y3 := HDS5.out.d23
            obtain ⟨-, -, -, n5d, n5e, -⟩ := n5
            clear e1 e0 hthr
            have hS1 : (w5.drew.cell? ⟨sb, 1, none⟩ = some (.slice (some ⟨y2, 0, none⟩) f.ps.length z2) ∧ w5.drew.cell? ⟨sb, 2, none⟩ = some (.slice (some ⟨y3, 0, none⟩) f.ps.length z3) ∧ w5.drew.cell? ⟨y3, k, none⟩ = some (.int .i64 (gz rk.ts k))) := ⟨n5d, n5e, q3⟩
            go_wp2_with fail
            refine wp_region_split (fun W => (W.cell? ⟨sb, 1, none⟩ = some (.slice (some ⟨y2, 0, none⟩) f.ps.length z2) ∧ W.cell? ⟨sb, 2, none⟩ = some (.slice (some ⟨y3, 0, none⟩) f.ps.length z3) ∧ W.cell? ⟨y3, k, none⟩ = some (.int .i64 (gz rk.ts k)))) 22 (by kernel_rfl) (by decide) ?_
            refine wpG_take 22 3 (v := ?_) rfl (by kernel_rfl) (fun _ _ _ h => h) (Or.inl ⟨by rfl, ?_⟩) (by assumption) ?_
            rotate_left
            · intro w hSw; (try dsimp only at hSw); go_simp; (try with_reducible rfl)
            (try simp only [Act.put, List.getElem_toArray, List.getElem_cons_zero, List.getElem_cons_succ, List.setIfInBounds_toArray, List.set_cons_zero, List.set_cons_succ])
            refine wpG_take 22 4 (v := ?_) rfl (by kernel_rfl) (fun _ _ _ h => h) (Or.inl ⟨by rfl, ?_⟩) (by assumption) ?_
            rotate_left
            · intro w hSw; (try dsimp only at hSw); go_simp; (try with_reducible rfl)
            (try simp only [Act.put, List.getElem_toArray, List.getElem_cons_zero, List.getElem_cons_succ, List.setIfInBounds_toArray, List.set_cons_zero, List.set_cons_succ])
            refine wpG_take 22 5 (v := ?_) rfl (by kernel_rfl) (fun _ _ _ h => h) (Or.inl ⟨by rfl, ?_⟩) (by assumption) ?_
            rotate_left
            · intro w hSw; (try dsimp only at hSw); go_simp; (try with_reducible rfl)
            (try simp only [Act.put, List.getElem_toArray, List.getElem_cons_zero, List.getElem_cons_succ, List.setIfInBounds_toArray, List.set_cons_zero, List.set_cons_succ])
            refine wpG_take 22 0 (v := ?_) rfl (by kernel_rfl) (fun _ _ _ h => h) (Or.inl ⟨by rfl, ?_⟩) (by assumption) ?_
            rotate_left
            · intro w hSw; (try dsimp only at hSw); go_simp; (try with_reducible rfl)
            (try simp only [Act.put, List.getElem_toArray, List.getElem_cons_zero, List.getElem_cons_succ, List.setIfInBounds_toArray, List.set_cons_zero, List.set_cons_succ])
            refine wpG_take 22 1 (v := ?_) rfl (by kernel_rfl) (fun _ _ _ h => h) (Or.inl ⟨by rfl, ?_⟩) (by assumption) ?_
            rotate_left
            · intro w hSw; (try dsimp only at hSw); go_simp; (try with_reducible rfl)
            (try simp only [Act.put, List.getElem_toArray, List.getElem_cons_zero, List.getElem_cons_succ, List.setIfInBounds_toArray, List.set_cons_zero, List.set_cons_succ])
            refine wpG_take 22 2 (v := ?_) rfl (by kernel_rfl) (fun _ _ _ h => h) (Or.inl ⟨by rfl, ?_⟩) (by assumption) ?_
            rotate_left
            · intro w hSw; (try dsimp only at hSw); go_simp; (try with_reducible rfl)
            (try simp only [Act.put, List.getElem_toArray, List.getElem_cons_zero, List.getElem_cons_succ, List.setIfInBounds_toArray, List.set_cons_zero, List.set_cons_succ])
            refine wpG_take 22 6 (v := ?_) rfl (by kernel_rfl) (fun _ _ _ h => h) (Or.inl ⟨by rfl, ?_⟩) (by assumption) ?_
            rotate_left
            · intro w hSw; (try dsimp only at hSw); go_simp; (try with_reducible rfl)
            (try simp only [Act.put, List.getElem_toArray, List.getElem_cons_zero, List.getElem_cons_succ, List.setIfInBounds_toArray, List.set_cons_zero, List.set_cons_succ])
            refine wpG_take 22 7 (v := ?_) rfl (by kernel_rfl) (fun _ _ _ h => h) (Or.inl ⟨by rfl, ?_⟩) (by assumption) ?_
            rotate_left
            · intro w hSw; (try dsimp only at hSw); go_simp; (try with_reducible rfl)
            (try simp only [Act.put, List.getElem_toArray, List.getElem_cons_zero, List.getElem_cons_succ, List.setIfInBounds_toArray, List.set_cons_zero, List.set_cons_succ])
            refine wpG_take 22 8 (v := ?_) rfl (by kernel_rfl) (fun _ _ _ h => h) (Or.inl ⟨by rfl, ?_⟩) (by assumption) ?_
            rotate_left
            · intro w hSw; (try dsimp only at hSw); go_simp; (try with_reducible rfl)
            (try simp only [Act.put, List.getElem_toArray, List.getElem_cons_zero, List.getElem_cons_succ, List.setIfInBounds_toArray, List.set_cons_zero, List.set_cons_succ])
            refine wpG_take 22 9 (v := ?_) rfl (by kernel_rfl) (fun _ _ _ h => h) (Or.inl ⟨by rfl, ?_⟩) (by assumption) ?_
            rotate_left
            · intro w hSw; (try dsimp only at hSw); go_simp; (try with_reducible rfl)
            (try simp only [Act.put, List.getElem_toArray, List.getElem_cons_zero, List.getElem_cons_succ, List.setIfInBounds_toArray, List.set_cons_zero, List.set_cons_succ])
            refine wpG_take 22 13 (v := ?_) rfl (by kernel_rfl) (fun _ _ _ h => h) (Or.inl ⟨by rfl, ?_⟩) (by assumption) ?_
            rotate_left
            · intro w hSw; (try dsimp only at hSw); go_simp; (try with_reducible rfl)
            (try simp only [Act.put, List.getElem_toArray, List.getElem_cons_zero, List.getElem_cons_succ, List.setIfInBounds_toArray, List.set_cons_zero, List.set_cons_succ])
            refine wpG_take 22 14 (v := ?_) rfl (by kernel_rfl) (fun _ _ _ h => h) (Or.inl ⟨by rfl, ?_⟩) (by assumption) ?_
            rotate_left
            · intro w hSw; (try dsimp only at hSw); go_simp; (try with_reducible rfl)
            (try simp only [Act.put, List.getElem_toArray, List.getElem_cons_zero, List.getElem_cons_succ, List.setIfInBounds_toArray, List.set_cons_zero, List.set_cons_succ])
            refine wpG_take 22 15 (v := ?_) rfl (by kernel_rfl) (fun _ _ _ h => h) (Or.inl ⟨by rfl, ?_⟩) (by assumption) ?_
            rotate_left
            · intro w hSw; (try dsimp only at hSw); go_simp; (try with_reducible rfl)
            (try simp only [Act.put, List.getElem_toArray, List.getElem_cons_zero, List.getElem_cons_succ, List.setIfInBounds_toArray, List.set_cons_zero, List.set_cons_succ])
            refine wpG_take 22 16 (v := ?_) rfl (by kernel_rfl) (fun _ _ _ h => h) (Or.inl ⟨by rfl, ?_⟩) (by assumption) ?_
            rotate_left
            · intro w hSw; (try dsimp only at hSw); go_simp; (try with_reducible rfl)
            (try simp only [Act.put, List.getElem_toArray, List.getElem_cons_zero, List.getElem_cons_succ, List.setIfInBounds_toArray, List.set_cons_zero, List.set_cons_succ])
            refine wpG_take 22 17 (v := ?_) rfl (by kernel_rfl) (fun _ _ _ h => h) (Or.inl ⟨by rfl, ?_⟩) (by assumption) ?_
            rotate_left
            · intro w hSw; (try dsimp only at hSw); go_simp; (try with_reducible rfl)
            (try simp only [Act.put, List.getElem_toArray, List.getElem_cons_zero, List.getElem_cons_succ, List.setIfInBounds_toArray, List.set_cons_zero, List.set_cons_succ])
            refine wpG_take 22 11 (v := ?_) rfl (by kernel_rfl) (fun _ _ _ h => h) (Or.inl ⟨by rfl, ?_⟩) (by assumption) ?_
            rotate_left
            · intro w hSw; (try dsimp only at hSw); go_simp; (try with_reducible rfl)
            (try simp only [Act.put, List.getElem_toArray, List.getElem_cons_zero, List.getElem_cons_succ, List.setIfInBounds_toArray, List.set_cons_zero, List.set_cons_succ])
            refine wpG_take 22 18 (v := ?_) rfl (by kernel_rfl) (fun _ _ _ h => h) (Or.inl ⟨by rfl, ?_⟩) (by assumption) ?_
            rotate_left
            · intro w hSw; (try dsimp only at hSw); go_simp; (try with_reducible rfl)
            (try simp only [Act.put, List.getElem_toArray, List.getElem_cons_zero, List.getElem_cons_succ, List.setIfInBounds_toArray, List.set_cons_zero, List.set_cons_succ])
            refine wpG_take 22 19 (v := ?_) rfl (by kernel_rfl) (fun _ _ _ h => h) (Or.inl ⟨by rfl, ?_⟩) (by assumption) ?_
            rotate_left
            · intro w hSw; (try dsimp only at hSw); go_simp; (try with_reducible rfl)
            (try simp only [Act.put, List.getElem_toArray, List.getElem_cons_zero, List.getElem_cons_succ, List.setIfInBounds_toArray, List.set_cons_zero, List.set_cons_succ])
            refine wpG_one (i := 10) (by kernel_rfl) ?_
            refine wpOp_step rfl (fun K hK => ?_)
            go_simp
            refine hK _ _ ⟨hS1, ?_⟩
            clear hK K
            (try simp only [Act.put, List.getElem_toArray, List.getElem_cons_zero, List.getElem_cons_succ, List.setIfInBounds_toArray, List.set_cons_zero, List.set_cons_succ])
            refine wpG_one (i := 12) (by kernel_rfl) ?_
            refine wpOp_step rfl (fun K hK => ?_)
            go_simp
            refine hK _ _ ⟨hS1, ?_⟩
            clear hK K
            (try simp only [Act.put, List.getElem_toArray, List.getElem_cons_zero, List.getElem_cons_succ, List.setIfInBounds_toArray, List.set_cons_zero, List.set_cons_succ])
            refine wpG_one (i := 20) (by kernel_rfl) ?_
            refine wpOp_step rfl (fun K hK => ?_)
            go_simp
            refine hK _ _ ⟨hS1, ?_⟩
            clear hK K
            (try simp only [Act.put, List.getElem_toArray, List.getElem_cons_zero, List.getElem_cons_succ, List.setIfInBounds_toArray, List.set_cons_zero, List.set_cons_succ])
            refine wpG_one (i := 21) (by kernel_rfl) ?_
            refine wpOp_step rfl (fun K hK => ?_)
            go_simp
            refine hK _ _ ⟨(by (try dsimp only); refine ⟨?_, ?_, ?_⟩ <;> go_simp), ?_⟩
            clear hK K
            (try simp only [Act.put, List.getElem_toArray, List.getElem_cons_zero, List.getElem_cons_succ, List.setIfInBounds_toArray, List.set_cons_zero, List.set_cons_succ])
            refine ⟨by kernel_rfl, ?_⟩
            simp only [List.drop_succ_cons, List.drop_zero]
            clear hS1
            go_wp2_with fail
            clear e2 e3
            go_roundg (f.ps.length - (k + 1))
            case measure => omega
            case rel =>
              refine ⟨k + 1, by omega, by omega, by go_num, ?_⟩
              show DS _ _ _ _ _ _ _ _ _ _ _ _ _ _ _ _
              rw [HDRV.out, HQ4.out K4.out, HBY.out]
              exact ((HDS5.out.drew).set2 (by have := HOKK.out.fit.hs.len; omega) hlt _).set3 (by have := HOKK.out.fit.ts; show rk.ts.length = _; omega) hlt _
      · have hltz : ¬ (k : Int) < (f.ps.length : Int) := by omega
        have he : k = f.ps.length := by omega
        have hokk := HKF.out.driven HOK.out.right.toLaid k (by omega)
        have HRV : Hid (∀ W' : World, wr.heap.size ≤ W'.heap.size → (∀ j, j ≠ w.heap.size + 1 + 1 → W'.heap[j]? = wr.heap[j]?) → Below w.heap.size w W' → RdrYes (r.driven f f.ps.length) w (.returned (.agg #[.slice (some ⟨y1, 0, none⟩) f.ps.length z1, .slice (some ⟨y2, 0, none⟩) f.ps.length z2, .slice (some ⟨y3, 0, none⟩) f.ps.length z3])) W') := by
          show ∀ W' : World, _
          intro W' hs hbk hbel
          rw [← he]
          have l1 := hokk.fit.ws.len
          have l2 := hokk.fit.hs.len
          have l3 := hokk.fit.ts
          have d := HD.out
          refine ⟨_, rfl, ⟨_, _, _, z1, z2, z3, y1, y2, y3, by rw [l1, l2, l3, he], ⟨fun _ => ⟨rfl, by have := d.r1.lt; omega⟩, fun _ => ⟨rfl, by have := d.r2.lt; omega⟩, fun _ => ⟨rfl, by have := d.r3.lt; omega⟩,
            ZsAt.of_row (by rw [l1]; exact d.r1.of_block (hbk _ d.n1.2.1)), ZsAt.of_row (by rw [l2]; exact d.r2.of_block (hbk _ d.n2.2.1)), ZsAt.of_row (by rw [l3]; exact d.r3.of_block (hbk _ d.n3.2.1))⟩, ?_, ?_, ?_⟩, hbel⟩
          · rw [l1]; exact k1
          · rw [l2]; exact k2
          · rw [l3]; exact k3
        have S0 : wr.cell? ⟨sb, 0, none⟩ = some (.slice (some ⟨y1, 0, none⟩) f.ps.length z1) := HD.out.S.cell 0
        have S1 : wr.cell? ⟨sb, 1, none⟩ = some (.slice (some ⟨y2, 0, none⟩) f.ps.length z2) := HD.out.S.cell 1
        have S2 : wr.cell? ⟨sb, 2, none⟩ = some (.slice (some ⟨y3, 0, none⟩) f.ps.length z3) := HD.out.S.cell 2
        have s0 : wr.cell? ⟨w.heap.size + 1 + 1, 0, none⟩ = some (.slice none 0 0) := HD.out.O.cell 0
        have s1 : wr.cell? ⟨w.heap.size + 1 + 1, 1, none⟩ = some (.slice none 0 0) := HD.out.O.cell 1
        have s2 : wr.cell? ⟨w.heap.size + 1 + 1, 2, none⟩ = some (.slice none 0 0) := HD.out.O.cell 2
        have t0 := HD.out.O.frozen 0
        have t1 := HD.out.O.frozen 1
        have t2 := HD.out.O.frozen 2
        have hzr := HD.out.O.lt
        have HBD := Lib.hid HD.out.B
        subst he
        clear hokk HD
        go_wp2_with fail
        have hfin := HRV.out (((wr.setCell ⟨w.heap.size + 1 + 1, 0, none⟩ (Value.slice (some ⟨y1, 0, none⟩) f.ps.length z1)).setCell ⟨w.heap.size + 1 + 1, 1, none⟩ (Value.slice (some ⟨y2, 0, none⟩) f.ps.length z2)).setCell ⟨w.heap.size + 1 + 1, 2, none⟩ (Value.slice (some ⟨y3, 0, none⟩) f.ps.length z3)) (by simp [World.setCell])
          (fun j hj => ((Below.heap_setCell _ _ _ _ (by simpa using hj)).trans ((Below.heap_setCell _ _ _ _ (by simpa using hj)).trans (Below.heap_setCell _ _ _ _ (by simpa using hj)))))
          (((HBD.out.setCell (p := ⟨w.heap.size + 1 + 1, 0, none⟩) (by show _ ≤ w.heap.size + 1 + 1; omega) _).setCell (p := ⟨w.heap.size + 1 + 1, 1, none⟩) (by show _ ≤ w.heap.size + 1 + 1; omega) _).setCell (p := ⟨w.heap.size + 1 + 1, 2, none⟩) (by show _ ≤ w.heap.size + 1 + 1; omega) _)
        exact bodyPost_ret (v := .agg #[.slice (some ⟨y1, 0, none⟩) f.ps.length z1, .slice (some ⟨y2, 0, none⟩) f.ps.length z2, .slice (some ⟨y3, 0, none⟩) f.ps.length z3]) (by simp [results, Try.results48, go_sem, s0, s1, s2, hzr]) rfl hfin
end Go.Proofs.Ytlfeoofchebbkaa
