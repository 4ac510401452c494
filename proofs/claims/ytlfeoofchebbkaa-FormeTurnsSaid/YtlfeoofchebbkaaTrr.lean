/- The reference's Turned: the forme with its sides changed, seen from behind. -/
import Derived.Test.YtlfeoofchebbkaaSwp
import Derived.Test.YtlfeoofchebbkaaMir
namespace Go.Proofs.Ytlfeoofchebbkaa
set_option linter.unusedSimpArgs false
set_option linter.unusedVariables false
open Go.RowKit
set_option maxRecDepth 100000 in
set_option maxHeartbeats 4000000 in
theorem turnedR_any (f : Forme) (A : Option Addr) (b off c : Nat) (w : World) (hA : Lies A f.ps.length w.heap.size b off) (hps : PsAt w b off f.ps) (hf : f.Right) (hm : f.ps.length ≤ 1000000) :
    Calls Try.prog 70 #[.agg #[.int .i64 f.W, .int .i64 f.H, .slice A f.ps.length c]] w (CopyFPost w f.swapK.mirror) := by
  have hw1 := hf.h1
  have hw2 := hf.h2
  have hml0 : f.swapK.ps.length = f.ps.length := by simp [Forme.swapK]
  have hk4 : ∀ i, i < f.ps.length → 1 ≤ (gp f.ps i).kind ∧ (gp f.ps i).kind ≤ 4 := fun i hi => hf.kind _ (by rw [gp_get hi]; exact List.getElem_mem hi)
  have HS : Hid (∀ i, i < f.ps.length → Sml (gp f.ps i)) := fun i hi => hf.toLaid.sml hi
  have hB2 : Below w.heap.size w ((w.alloc (Obj.cells #[Value.int IntKind.i64 f.W, Value.int IntKind.i64 f.H, Value.slice A f.ps.length c] 37)).alloc (Obj.cells #[Value.int IntKind.i64 0, Value.int IntKind.i64 0, Value.slice none 0 0] 37)) := (below_new _ _).trans ((below_new _ _).mono (by simp))
  have hF : Blk ((w.alloc (Obj.cells #[Value.int IntKind.i64 f.W, Value.int IntKind.i64 f.H, Value.slice A f.ps.length c] 37)).alloc (Obj.cells #[Value.int IntKind.i64 0, Value.int IntKind.i64 0, Value.slice none 0 0] 37)) w.heap.size 37 #[Value.int IntKind.i64 f.W, Value.int IntKind.i64 f.H, Value.slice A f.ps.length c] :=
    (Below.heap_alloc _ _ _ (by simp)).trans (Blk.new w 37 _)
  have hR : Blk ((w.alloc (Obj.cells #[Value.int IntKind.i64 f.W, Value.int IntKind.i64 f.H, Value.slice A f.ps.length c] 37)).alloc (Obj.cells #[Value.int IntKind.i64 0, Value.int IntKind.i64 0, Value.slice none 0 0] 37)) (w.heap.size + 1) 37 #[Value.int IntKind.i64 0, Value.int IntKind.i64 0, Value.slice none 0 0] := by
    have := Blk.new (w.alloc (Obj.cells #[Value.int IntKind.i64 f.W, Value.int IntKind.i64 f.H, Value.slice A f.ps.length c] 37)) 37 #[Value.int IntKind.i64 0, Value.int IntKind.i64 0, Value.slice none 0 0]
    rwa [World.size_alloc] at this
  have hsz : ((w.alloc (Obj.cells #[Value.int IntKind.i64 f.W, Value.int IntKind.i64 f.H, Value.slice A f.ps.length c] 37)).alloc (Obj.cells #[Value.int IntKind.i64 0, Value.int IntKind.i64 0, Value.slice none 0 0] 37)).heap.size = w.heap.size + 1 + 1 := by simp
  go_enter Try.func70, Try.ntmps70
  go_wp2_with fail
  generalize ((w.alloc (Obj.cells #[Value.int IntKind.i64 f.W, Value.int IntKind.i64 f.H, Value.slice A f.ps.length c] 37)).alloc (Obj.cells #[Value.int IntKind.i64 0, Value.int IntKind.i64 0, Value.slice none 0 0] 37)) = W0 at *
  have hz0 : w.heap.size + 1 < W0.heap.size := by omega
  have HZ := Lib.hid hsz
  clear hsz
  have HPS0 : Hid (PsAt W0 b off f.ps) := fun j hj => (hps j hj).below hB2 (hA (by omega)).2
  have hA0 : Lies A f.ps.length W0.heap.size b off := hA.mono (by omega)
  refine (swapped_any f A b off c W0 hA0 HPS0.out hk4 hm).mono ?_
  rintro e w1 ⟨v, rfl, ⟨A', b', c', rfl, k1, l1, p1, q1⟩, b1⟩
  rw [hml0] at k1 l1 q1 ⊢
  rw [show f.swapK.W = f.H from rfl, show f.swapK.H = f.W from rfl]
  have HB1 := Lib.hid (hB2.trans (b1.mono hB2.size))
  have F1 := hF.below b1 (by omega)
  have R1 := hR.below b1 (by omega)
  have hz1 : w.heap.size + 1 < w1.heap.size := by have := b1.size; omega
  have HPS1 : Hid (∀ W, Below w.heap.size w W → PsAt W b off f.ps) := fun W hW j hj => (hps j hj).below hW (hA (by omega)).2
  obtain ⟨bb, hbb, hbn⟩ : ∃ bb : Nat, (0 < f.ps.length → bb = b') ∧ (f.ps.length = 0 → bb = w1.heap.size + 1) := by
    by_cases h : 0 < f.ps.length
    · exact ⟨b', fun _ => rfl, fun h' => by omega⟩
    · exact ⟨w1.heap.size + 1, fun h' => absurd h' h, fun _ => rfl⟩
  have HF1 := Lib.hid F1
  have HR1 := Lib.hid R1
  have HL1 := Lib.hid l1
  have HQ1 : Hid (0 < f.ps.length → W0.heap.size ≤ bb ∧ bb < w1.heap.size ∧ A' = some ⟨bb, 0, none⟩ ∧ rowG w1 bb (f.ps.length * 6) (mcell f.swapK 0)) := (show _ → _ from fun h => by
    obtain ⟨h1, h2⟩ := l1 h
    obtain ⟨h3, h4⟩ := q1 h
    rw [hbb h]
    exact ⟨h3, h2, h1, h4.congr fun j _ => (mcell_zero f.swapK j).symm⟩)
  have HBN := Lib.hid hbn
  clear hB2 hF hR b1 F1 R1 hps l1 p1 q1 hbb hbn HPS0
  go_wp2_with fail
  have hO : Blk (w1.alloc (Obj.cells #[Value.int IntKind.i64 f.H, Value.int IntKind.i64 f.W, Value.slice A' f.ps.length c'] 37)) w1.heap.size 37 #[Value.int IntKind.i64 f.H, Value.int IntKind.i64 f.W, Value.slice A' f.ps.length c'] := Blk.new w1 37 _
  have hF2 := HF1.out.below (below_new w1 (Obj.cells #[Value.int IntKind.i64 f.H, Value.int IntKind.i64 f.W, Value.slice A' f.ps.length c'] 37)) (by omega)
  have hR2 := HR1.out.below (below_new w1 (Obj.cells #[Value.int IntKind.i64 f.H, Value.int IntKind.i64 f.W, Value.slice A' f.ps.length c'] 37)) (by omega)
  have hB2 := HB1.out.alloc HB1.out.size (Obj.cells #[Value.int IntKind.i64 f.H, Value.int IntKind.i64 f.W, Value.slice A' f.ps.length c'] 37)
  have hQ2 : 0 < f.ps.length → rowG (w1.alloc (Obj.cells #[Value.int IntKind.i64 f.H, Value.int IntKind.i64 f.W, Value.slice A' f.ps.length c'] 37)) bb (f.ps.length * 6) (mcell f.swapK 0) := fun h => by
    obtain ⟨h1, h2, h3, h4⟩ := HQ1.out h
    exact h4.of_block (Below.heap_alloc _ _ _ h2)
  have hz2 : (w1.alloc (Obj.cells #[Value.int IntKind.i64 f.H, Value.int IntKind.i64 f.W, Value.slice A' f.ps.length c'] 37)).heap.size = w1.heap.size + 1 := by simp
  generalize hW2 : w1.alloc (Obj.cells #[Value.int IntKind.i64 f.H, Value.int IntKind.i64 f.W, Value.slice A' f.ps.length c'] 37) = W2 at *
  clear hW2
  have hq1 : 0 < f.ps.length → W0.heap.size ≤ bb ∧ bb < w1.heap.size ∧ A' = some ⟨bb, 0, none⟩ := fun h => ⟨(HQ1.out h).1, (HQ1.out h).2.1, (HQ1.out h).2.2.1⟩
  have HQ := Lib.hid hq1
  have hbne : bb ≠ w.heap.size ∧ bb ≠ w.heap.size + 1 ∧ bb ≠ w1.heap.size ∧ w.heap.size ≤ bb := by
    rcases Nat.eq_zero_or_pos f.ps.length with h | h
    · have := HBN.out h; omega
    · have := hq1 h; omega
  obtain ⟨n1, n2, n3, n4⟩ := hbne
  generalize hob : w1.heap.size = ob at *
  have HZ2 := Lib.hid hz2
  have HB := Lib.hid hB2
  have HF := Lib.hid hF2
  have HR := Lib.hid hR2
  have HO := Lib.hid hO
  clear hob hz2 hB2 hF2 hR2 hO hq1 HF1 HR1 HL1 HQ1 HBN HB1
  have HH : Hid (f.ps.length = f.ps.length) := rfl
  generalize hn : f.ps.length = n at *
  have HN := Lib.hid hn
  clear hn HH
  have HK : Hid (∀ W, W2.grownBy W (some bb) → Blk W w.heap.size 37 #[Value.int IntKind.i64 f.W, Value.int IntKind.i64 f.H, Value.slice A n c] ∧ Blk W (w.heap.size + 1) 37 #[Value.int IntKind.i64 0, Value.int IntKind.i64 0, Value.slice none 0 0] ∧
      Blk W ob 37 #[Value.int IntKind.i64 f.H, Value.int IntKind.i64 f.W, Value.slice A' n c'] ∧ Below w.heap.size w W ∧ ob < W.heap.size) := (show ∀ W, _ from fun W hW =>
    ⟨HF.out.grown hW (by simpa using Ne.symm n1), HR.out.grown hW (by simpa using Ne.symm n2), HO.out.grown hW (by simpa using Ne.symm n3), HB.out.trans (below_of_grown hW n4 HB.out.size), by have := HZ2.out; have := hW.size; omega⟩)
  go_loopg [4] n (fun gg s4 wr => ∃ k : Nat, k ≤ n ∧ n - k ≤ gg ∧ s4 = .int .i64 k ∧ Hid (W2.grownBy wr (some bb)) ∧ Hid (0 < n → rowG wr bb (n * 6) (mcell f.swapK k)))
  case atStart => exact ⟨0, Nat.zero_le _, by omega, rfl, World.grownBy.refl _ _, hQ2⟩
  case round =>
    obtain ⟨k, hk, hgk, rfl, G, R⟩ := hrel
    clear hQ2
    obtain ⟨hF, hR', hO, hB, hob⟩ := HK.out wr G.out
    by_cases hkn : k < n
    · have hknz : (k : Int) < (n : Int) := by omega
      have hk0 : (0 : Int) ≤ (k : Int) := by omega
      obtain ⟨q1, q2, rfl⟩ := HQ.out (by omega)
      obtain ⟨rfl, hbw⟩ := hA (by omega)
      obtain ⟨c0, c1, c2, c3, c4, c5⟩ := HPS1.out wr hB k (by have := HN.out; omega)
      obtain ⟨s1, s2, s3, s4, s5, s6, s7, s8⟩ := HS.out k hkn
      have r := R.out (by omega)
      have rc := r.cell (j := k * 6 + 2) (by omega)
      have rf := r.frozen (k * 6 + 2)
      have HR2 := Lib.hid r
      have f1 : wr.cell? ⟨w.heap.size, 1, none⟩ = some (.int .i64 f.H) := hF.cell 1
      have f2 : wr.cell? ⟨w.heap.size, 2, none⟩ = some (.slice (some ⟨b, off, none⟩) n c) := hF.cell 2
      have o2 : wr.cell? ⟨ob, 2, none⟩ = some (.slice (some ⟨bb, 0, none⟩) n c') := hO.cell 2
      have hst : ∀ j, mcell f.swapK (k + 1) j = if j = k * 6 + 2 then .int .i64 (f.H - (gp f.ps k).y - (gp f.ps k).h) else mcell f.swapK k j := fun j => by
        rw [mcell_step, show gp f.swapK.ps k = swapP (gp f.ps k) from gp_map f.ps swapP (by have := HN.out; omega)]; rfl
      have HST := Lib.hid hst
      clear hst
      generalize mcell f.swapK k (k * 6 + 2) = old at *
      generalize gp f.ps k = p at *
      have e1 : IntKind.i64.wrap (f.H - p.y) = f.H - p.y := IntWalk.i64_in _ (by omega)
      have e2 : IntKind.i64.wrap (f.H - p.y - p.h) = f.H - p.y - p.h := IntWalk.i64_in _ (by omega)
      clear hF hR' hO r hB
      go_wp2_with fail
      go_still_tail 21, (by kernel_rfl)
      change wpList _ _ _ _ _ wr.drew
      go_wp2_with fail
      clear e1 e2
      go_roundg (n - (k + 1))
      case measure => omega
      case rel =>
        refine ⟨k + 1, by omega, by omega, by go_num, grown_drew' (grown_setCell' G.out _ _), (show _ → _ from fun h => ?_)⟩
        refine (HR2.out.set _ _).drew.congr fun j hj => ?_
        rw [HST.out j]
    · have hknz : ¬ (k : Int) < (n : Int) := by omega
      have he : k = n := by omega
      subst he
      have hml : f.swapK.mirror.ps.length = k := by rw [← HN.out]; simp [Forme.mirror, Forme.swapK]
      have HFN : Hid (∀ W' : World, wr.heap.size ≤ W'.heap.size → (∀ j, j ≠ w.heap.size + 1 → W'.heap[j]? = wr.heap[j]?) → Below w.heap.size w W' → CopyFPost w f.swapK.mirror (.returned (.agg #[.int .i64 f.H, .int .i64 f.W, .slice A' k c'])) W') := by
        show ∀ W' : World, _
        intro W' hs hbk hbel
        have hrow : 0 < k → rowG W' bb (k * 6) (pcell f.swapK.mirror.ps) := fun h => ((R.out h).of_block (hbk bb n2)).congr fun j hj => by
          have := mcell_all f.swapK j (by rw [hml0]; exact hj)
          rw [hml0] at this
          exact this
        refine ⟨_, rfl, ⟨A', bb, c', by rw [hml], by rw [hml]; exact k1, fun h => ?_, ?_, fun h => ?_⟩, hbel⟩
        · rw [hml] at h
          exact ⟨(HQ.out h).2.2, (hrow h).lt⟩
        · rcases Nat.eq_zero_or_pos k with h | h
          · exact fun j hj => by omega
          · exact PsAt.of_row (by rw [hml]; exact hrow h)
        · rw [hml] at h ⊢
          exact ⟨n4, hrow h⟩
      have o0 : wr.cell? ⟨ob, 0, none⟩ = some (.int .i64 f.H) := hO.cell 0
      have o1 : wr.cell? ⟨ob, 1, none⟩ = some (.int .i64 f.W) := hO.cell 1
      have o2 : wr.cell? ⟨ob, 2, none⟩ = some (.slice A' k c') := hO.cell 2
      have s0 : wr.cell? ⟨w.heap.size + 1, 0, none⟩ = some (.int .i64 0) := hR'.cell 0
      have s1 : wr.cell? ⟨w.heap.size + 1, 1, none⟩ = some (.int .i64 0) := hR'.cell 1
      have s2 : wr.cell? ⟨w.heap.size + 1, 2, none⟩ = some (.slice none 0 0) := hR'.cell 2
      have t0 := hR'.frozen 0
      have t1 := hR'.frozen 1
      have t2 := hR'.frozen 2
      have hzr := hR'.lt
      have HB' := Lib.hid hB
      clear hF hR' hO hB R hml
      go_wp2_with fail
      have hfin := HFN.out (((wr.setCell ⟨w.heap.size + 1, 0, none⟩ (Value.int IntKind.i64 f.H)).setCell ⟨w.heap.size + 1, 1, none⟩ (Value.int IntKind.i64 f.W)).setCell ⟨w.heap.size + 1, 2, none⟩ (Value.slice A' k c')) (by simp [World.setCell])
        (fun j hj => ((Below.heap_setCell _ _ _ _ (by simpa using hj)).trans ((Below.heap_setCell _ _ _ _ (by simpa using hj)).trans (Below.heap_setCell _ _ _ _ (by simpa using hj)))))
        (((HB'.out.setCell (by simp) _).setCell (by simp) _).setCell (by simp) _)
      exact bodyPost_ret (v := .agg #[.int .i64 f.H, .int .i64 f.W, .slice A' k c']) (by simp [results, Try.results70, go_sem, s0, s1, s2, hzr]) rfl hfin
end Go.Proofs.Ytlfeoofchebbkaa
