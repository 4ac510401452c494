/- Turned: a forme turned round by a quarter. -/
import Derived.Test.YtlfeoofchebbkaaTrr
import Derived.Test.YtlfeoofchebbkaaMrp
import Derived.StillTailTactics
namespace Go.Proofs.Ytlfeoofchebbkaa
set_option linter.unusedSimpArgs false
set_option linter.unusedVariables false
open Go.RowKit
def turnP (H : Int) (p : Piece) : Piece := { name := p.name, kind := if 3 ≤ p.kind then 7 - p.kind else p.kind, x := H - p.y - p.h, y := p.x, w := p.h, h := p.w }
theorem turn_ps (f : Forme) : f.swapK.mirror.ps = f.ps.map (turnP f.H) := by
  unfold Forme.mirror Forme.swapK
  rw [List.map_map]
  rfl
theorem pcells_snocG (ps : List Piece) (g : Piece → Piece) {k : Nat} (hk : k < ps.length) : pcells ((ps.map g).take (k + 1)) = pcells ((ps.map g).take k) ++ (pcs (g (gp ps k))).toList := by
  have h : k < (ps.map g).length := by simpa using hk
  have e : (ps.map g).take (k + 1) = (ps.map g).take k ++ [g (gp ps k)] := by
    rw [List.take_succ_eq_append_getElem h, gp_get hk]; simp
  unfold pcells
  rw [e, List.flatMap_append]
  simp
theorem own_keepT {W0 W : World} {base : Nat} {e : TypeId} {s n : Nat} {u : Value} {xs : List Value} (h : W0.ownsRow base e s u n xs) (hb : ∀ g, u.ownBlock = some g → W.heap[g]? = W0.heap[g]?) : W.ownsRow base e s u n xs := by
  refine ⟨h.1, ?_⟩
  rcases h.2 with hn | ⟨g, cap, cur, rfl, h1, h2, rest⟩
  · exact .inl hn
  · exact .inr ⟨g, cap, cur, rfl, h1, (hb g rfl).trans h2, rest⟩
set_option maxRecDepth 100000 in
set_option maxHeartbeats 2000000 in
theorem turnP_bad (f : Forme) (A : Option Addr) (b off c : Nat) (w : World) (hA : Lies A f.ps.length w.heap.size b off) (hps : PsAt w b off f.ps) (hnm : NameOk f.ps) (hc : f.ps.length ≤ c) (hm : f.ps.length ≤ 9223372036854775807) (hs : (checkF f).2 ≠ 0) :
    Calls Try.prog 66 #[.agg #[.int .i64 f.W, .int .i64 f.H, .slice A f.ps.length c]] w (BadPost w (checkF f).2) := by
  have hB2 : Below w.heap.size w ((w.alloc (Obj.cells #[Value.int IntKind.i64 f.W, Value.int IntKind.i64 f.H, Value.slice A f.ps.length c] 37)).alloc (Obj.cells #[Value.int IntKind.i64 0, Value.int IntKind.i64 0, Value.slice none 0 0] 37)) := (below_new _ _).trans ((below_new _ _).mono (by simp))
  have hF : Blk ((w.alloc (Obj.cells #[Value.int IntKind.i64 f.W, Value.int IntKind.i64 f.H, Value.slice A f.ps.length c] 37)).alloc (Obj.cells #[Value.int IntKind.i64 0, Value.int IntKind.i64 0, Value.slice none 0 0] 37)) w.heap.size 37 #[Value.int IntKind.i64 f.W, Value.int IntKind.i64 f.H, Value.slice A f.ps.length c] :=
    (Below.heap_alloc _ _ _ (by simp)).trans (Blk.new w 37 _)
  have hR : Blk ((w.alloc (Obj.cells #[Value.int IntKind.i64 f.W, Value.int IntKind.i64 f.H, Value.slice A f.ps.length c] 37)).alloc (Obj.cells #[Value.int IntKind.i64 0, Value.int IntKind.i64 0, Value.slice none 0 0] 37)) (w.heap.size + 1) 37 #[Value.int IntKind.i64 0, Value.int IntKind.i64 0, Value.slice none 0 0] := by
    have := Blk.new (w.alloc (Obj.cells #[Value.int IntKind.i64 f.W, Value.int IntKind.i64 f.H, Value.slice A f.ps.length c] 37)) 37 #[Value.int IntKind.i64 0, Value.int IntKind.i64 0, Value.slice none 0 0]
    rwa [World.size_alloc] at this
  have hsz : ((w.alloc (Obj.cells #[Value.int IntKind.i64 f.W, Value.int IntKind.i64 f.H, Value.slice A f.ps.length c] 37)).alloc (Obj.cells #[Value.int IntKind.i64 0, Value.int IntKind.i64 0, Value.slice none 0 0] 37)).heap.size = w.heap.size + 1 + 1 := by simp
  have hcall := check_any f A b off c ((w.alloc (Obj.cells #[Value.int IntKind.i64 f.W, Value.int IntKind.i64 f.H, Value.slice A f.ps.length c] 37)).alloc (Obj.cells #[Value.int IntKind.i64 0, Value.int IntKind.i64 0, Value.slice none 0 0] 37)) (hA.mono (by omega)) (fun j hj => (hps j hj).below hB2 (hA (by omega)).2) hnm hc hm
  have hsb : ((checkF f).2 != 0) = true := bne_t hs
  generalize (checkF f).2 = s at *
  generalize f.ps.length = n at *
  clear hA hps hnm hs
  go_enter Try.func66, Try.ntmps66
  go_wp2_with fail
  generalize ((w.alloc (Obj.cells #[Value.int IntKind.i64 f.W, Value.int IntKind.i64 f.H, Value.slice A n c] 37)).alloc (Obj.cells #[Value.int IntKind.i64 0, Value.int IntKind.i64 0, Value.slice none 0 0] 37)) = W0 at *
  refine hcall.mono ?_
  rintro e w1 ⟨rfl, b1⟩
  have HB := Lib.hid (hB2.trans (b1.mono hB2.size))
  have R1 := hR.below b1 (by omega)
  have s0 : w1.cell? ⟨w.heap.size + 1, 0, none⟩ = some (.int .i64 0) := R1.cell 0
  have s1 : w1.cell? ⟨w.heap.size + 1, 1, none⟩ = some (.int .i64 0) := R1.cell 1
  have s2 : w1.cell? ⟨w.heap.size + 1, 2, none⟩ = some (.slice none 0 0) := R1.cell 2
  have t0 := R1.frozen 0
  have t1 := R1.frozen 1
  have t2 := R1.frozen 2
  have hzr := R1.lt
  clear hB2 hF hR b1 R1 hcall
  go_wp2_with fail
  exact bodyPost_ret (v := .tuple #[.agg #[.int .i64 0, .int .i64 0, .slice none 0 0], .int .i64 s]) (by simp [results, Try.results66, go_sem, s0, s1, s2, hzr]) rfl ⟨rfl, ((HB.out.setCell (by simp) _).setCell (by simp) _).setCell (by simp) _⟩
set_option maxRecDepth 100000 in
set_option maxHeartbeats 8000000 in
theorem turnP_ok (f : Forme) (A : Option Addr) (b off c : Nat) (w : World) (hA : Lies A f.ps.length w.heap.size b off) (hps : PsAt w b off f.ps) (hnm : NameOk f.ps) (hc : f.ps.length ≤ c) (hm : f.ps.length ≤ 1000000) (hs : (checkF f).2 = 0) :
    Calls Try.prog 66 #[.agg #[.int .i64 f.W, .int .i64 f.H, .slice A f.ps.length c]] w (OkPost w f.swapK.mirror) := by
  obtain ⟨i0, hi0, hz0, hz1, hz2⟩ := info_parts Try.info70
  have hr := checkF_zero hs
  have hw1 := hr.h1
  have hw2 := hr.h2
  have HS1 : Hid (∀ i, i < f.ps.length → Sml (gp f.ps i)) := fun i hi => hr.toLaid.sml hi
  have HK4 : Hid (∀ i, i < f.ps.length → 1 ≤ (gp f.ps i).kind ∧ (gp f.ps i).kind ≤ 4) := fun i hi => hr.kind _ (by rw [gp_get hi]; exact List.getElem_mem hi)
  have hB2 : Below w.heap.size w ((w.alloc (Obj.cells #[Value.int IntKind.i64 f.W, Value.int IntKind.i64 f.H, Value.slice A f.ps.length c] 37)).alloc (Obj.cells #[Value.int IntKind.i64 0, Value.int IntKind.i64 0, Value.slice none 0 0] 37)) := (below_new _ _).trans ((below_new _ _).mono (by simp))
  have hF : Blk ((w.alloc (Obj.cells #[Value.int IntKind.i64 f.W, Value.int IntKind.i64 f.H, Value.slice A f.ps.length c] 37)).alloc (Obj.cells #[Value.int IntKind.i64 0, Value.int IntKind.i64 0, Value.slice none 0 0] 37)) w.heap.size 37 #[Value.int IntKind.i64 f.W, Value.int IntKind.i64 f.H, Value.slice A f.ps.length c] :=
    (Below.heap_alloc _ _ _ (by simp)).trans (Blk.new w 37 _)
  have hR : Blk ((w.alloc (Obj.cells #[Value.int IntKind.i64 f.W, Value.int IntKind.i64 f.H, Value.slice A f.ps.length c] 37)).alloc (Obj.cells #[Value.int IntKind.i64 0, Value.int IntKind.i64 0, Value.slice none 0 0] 37)) (w.heap.size + 1) 37 #[Value.int IntKind.i64 0, Value.int IntKind.i64 0, Value.slice none 0 0] := by
    have := Blk.new (w.alloc (Obj.cells #[Value.int IntKind.i64 f.W, Value.int IntKind.i64 f.H, Value.slice A f.ps.length c] 37)) 37 #[Value.int IntKind.i64 0, Value.int IntKind.i64 0, Value.slice none 0 0]
    rwa [World.size_alloc] at this
  have hsz : ((w.alloc (Obj.cells #[Value.int IntKind.i64 f.W, Value.int IntKind.i64 f.H, Value.slice A f.ps.length c] 37)).alloc (Obj.cells #[Value.int IntKind.i64 0, Value.int IntKind.i64 0, Value.slice none 0 0] 37)).heap.size = w.heap.size + 1 + 1 := by simp
  have hcall := check_any f A b off c ((w.alloc (Obj.cells #[Value.int IntKind.i64 f.W, Value.int IntKind.i64 f.H, Value.slice A f.ps.length c] 37)).alloc (Obj.cells #[Value.int IntKind.i64 0, Value.int IntKind.i64 0, Value.slice none 0 0] 37)) (hA.mono (by omega)) (fun j hj => (hps j hj).below hB2 (hA (by omega)).2) hnm hc (by omega)
  rw [hs] at hcall
  have HPS1 : Hid (∀ W, Below w.heap.size w W → PsAt W b off f.ps) := fun W hW j hj => (hps j hj).below hW (hA (by omega)).2
  have HSN : Hid (∀ k, k < f.ps.length → pcells ((f.ps.map (turnP f.H)).take (k + 1)) = pcells ((f.ps.map (turnP f.H)).take k) ++ (pcs (turnP f.H (gp f.ps k))).toList) := fun k hk => pcells_snocG f.ps _ hk
  have HFN : Hid (∀ (v : Value) (W' : World), W'.ownsRow w.heap.size 70 6 v f.ps.length (pcells ((f.ps.map (turnP f.H)).take f.ps.length)) → Below w.heap.size w W' → OkPost w f.swapK.mirror (.returned (.tuple #[.agg #[.int .i64 f.H, .int .i64 f.W, v], .int .i64 0])) W') := by
    show ∀ (v : Value) (W' : World), _
    intro v W' ho hbel
    have hml : f.swapK.mirror.ps.length = f.ps.length := by rw [turn_ps]; simp
    rw [List.take_of_length_le (by simp), ← turn_ps, ← hml] at ho
    exact ⟨v, rfl, ps_own ho, hbel⟩
  go_enter Try.func66, Try.ntmps66
  go_wp2_with fail
  generalize ((w.alloc (Obj.cells #[Value.int IntKind.i64 f.W, Value.int IntKind.i64 f.H, Value.slice A f.ps.length c] 37)).alloc (Obj.cells #[Value.int IntKind.i64 0, Value.int IntKind.i64 0, Value.slice none 0 0] 37)) = W0 at *
  refine hcall.mono ?_
  rintro e w1 ⟨rfl, b1⟩
  have hB1 := hB2.trans (b1.mono hB2.size)
  have F1 := hF.below b1 (by omega)
  have R1 := hR.below b1 (by omega)
  have hz1' : w.heap.size + 1 < w1.heap.size := by have := b1.size; omega
  have f0 : w1.cell? ⟨w.heap.size, 0, none⟩ = some (.int .i64 f.W) := F1.cell 0
  have f1 : w1.cell? ⟨w.heap.size, 1, none⟩ = some (.int .i64 f.H) := F1.cell 1
  have hbn := below_new w1 (Obj.cells #[Value.int IntKind.i64 f.H, Value.int IntKind.i64 f.W, Value.slice none 0 0] 37)
  have hO := Blk.new w1 37 #[Value.int IntKind.i64 f.H, Value.int IntKind.i64 f.W, Value.slice none 0 0]
  have hF2 := F1.below hbn F1.lt
  have hR2 := R1.below hbn R1.lt
  have hB := hB1.trans (hbn.mono hB1.size)
  have hzW : (w1.alloc (Obj.cells #[Value.int IntKind.i64 f.H, Value.int IntKind.i64 f.W, Value.slice none 0 0] 37)).heap.size = w1.heap.size + 1 := by simp
  have f2 : (w1.alloc (Obj.cells #[Value.int IntKind.i64 f.H, Value.int IntKind.i64 f.W, Value.slice none 0 0] 37)).cell? ⟨w.heap.size, 2, none⟩ = some (.slice A f.ps.length c) := hF2.cell 2
  clear hcall hB2 hF hR b1 F1 R1 hps hB1 hbn
  go_wp2_with fail
  generalize w1.alloc (Obj.cells #[Value.int IntKind.i64 f.H, Value.int IntKind.i64 f.W, Value.slice none 0 0] 37) = W1 at *
  generalize w1.heap.size = ob at *
  have hob1 : ob < W1.heap.size := by omega
  have HK : Hid (∀ W, W1.grownBy W (some ob) → Blk W w.heap.size 37 #[Value.int IntKind.i64 f.W, Value.int IntKind.i64 f.H, Value.slice A f.ps.length c] ∧ Blk W (w.heap.size + 1) 37 #[Value.int IntKind.i64 0, Value.int IntKind.i64 0, Value.slice none 0 0] ∧ Below w.heap.size w W ∧ ob < W.heap.size ∧ W1.heap.size ≤ W.heap.size) := (show ∀ W, _ from fun W hW =>
    ⟨hF2.grown hW (by simp; omega), hR2.grown hW (by simp; omega), hB.trans (below_of_grown hW (by omega) hB.size), by have := hW.size; omega, hW.size⟩)
  have HO := Lib.hid hO
  clear hB hF2 hR2 hO f0 f1 f2 hs
  generalize hn : f.ps.length = n at *
  have HN := Lib.hid hn
  clear hn
  go_loopg [23] n (fun gg s4 wr => ∃ (k : Nat) (v : Value), k ≤ n ∧ n - k ≤ gg ∧ s4 = .int .i64 k ∧ Hid (W1.grownBy wr (some ob)) ∧ Hid (Blk wr ob 37 #[.int .i64 f.H, .int .i64 f.W, v]) ∧ Hid (wr.ownsRow W1.heap.size 70 6 v k (pcells ((f.ps.map (turnP f.H)).take k))))
  case atStart => exact ⟨0, .slice none 0 0, Nat.zero_le _, by omega, rfl, World.grownBy.refl _ _, HO.out, World.ownsRow_nil _ _ _ _⟩
  case round =>
    obtain ⟨k, v, hk, hgk, rfl, G, O, R⟩ := hrel
    clear HO
    obtain ⟨hF, hR', hB, hob, hw1'⟩ := HK.out wr G.out
    by_cases hkn : k < n
    · have hknz : (k : Int) < (n : Int) := by omega
      have hk0 : (0 : Int) ≤ (k : Int) := by omega
      obtain ⟨rfl, hbw⟩ := hA (by omega)
      obtain ⟨c0, c1, c2, c3, c4, c5⟩ := HPS1.out wr hB k (by have := HN.out; omega)
      obtain ⟨kd1, kd2⟩ := HK4.out k hkn
      obtain ⟨s1, s2, s3, s4, s5, s6, s7, s8⟩ := HS1.out k hkn
      have HS := Lib.hid (HSN.out k hkn)
      have hbr : b < wr.heap.size := by have := hB.size; omega
      have hwb : w.heap.size + 1 < wr.heap.size := by omega
      have HFw := Lib.hid hF
      generalize gp f.ps k = p at *
      clear hF hR' hB
      have e1 : IntKind.i64.wrap (f.H - p.y) = f.H - p.y := IntWalk.i64_in _ (by omega)
      have e2 : IntKind.i64.wrap (f.H - p.y - p.h) = f.H - p.y - p.h := IntWalk.i64_in _ (by omega)
      have hq := Blk.new (wr.alloc (Obj.cells #[Value.string p.name, Value.int IntKind.i64 p.kind, Value.int IntKind.i64 p.x, Value.int IntKind.i64 p.y, Value.int IntKind.i64 p.w, Value.int IntKind.i64 p.h] 70)) 70 #[Value.string p.name, Value.int IntKind.i64 p.kind, Value.int IntKind.i64 p.x, Value.int IntKind.i64 p.y, Value.int IntKind.i64 p.w, Value.int IntKind.i64 p.h]
      rw [World.size_alloc] at hq
      have hp := (Blk.new wr 70 #[Value.string p.name, Value.int IntKind.i64 p.kind, Value.int IntKind.i64 p.x, Value.int IntKind.i64 p.y, Value.int IntKind.i64 p.w, Value.int IntKind.i64 p.h]).below (below_new (wr.alloc (Obj.cells #[Value.string p.name, Value.int IntKind.i64 p.kind, Value.int IntKind.i64 p.x, Value.int IntKind.i64 p.y, Value.int IntKind.i64 p.w, Value.int IntKind.i64 p.h] 70)) (Obj.cells #[Value.string p.name, Value.int IntKind.i64 p.kind, Value.int IntKind.i64 p.x, Value.int IntKind.i64 p.y, Value.int IntKind.i64 p.w, Value.int IntKind.i64 p.h] 70)) (by simp)
      have hbq : Below wr.heap.size wr ((wr.alloc (Obj.cells #[Value.string p.name, Value.int IntKind.i64 p.kind, Value.int IntKind.i64 p.x, Value.int IntKind.i64 p.y, Value.int IntKind.i64 p.w, Value.int IntKind.i64 p.h] 70)).alloc (Obj.cells #[Value.string p.name, Value.int IntKind.i64 p.kind, Value.int IntKind.i64 p.x, Value.int IntKind.i64 p.y, Value.int IntKind.i64 p.w, Value.int IntKind.i64 p.h] 70)) := (below_new _ _).alloc (by simp) _
      go_wp2_with fail
      generalize (wr.alloc (Obj.cells #[Value.string p.name, Value.int IntKind.i64 p.kind, Value.int IntKind.i64 p.x, Value.int IntKind.i64 p.y, Value.int IntKind.i64 p.w, Value.int IntKind.i64 p.h] 70)).alloc (Obj.cells #[Value.string p.name, Value.int IntKind.i64 p.kind, Value.int IntKind.i64 p.x, Value.int IntKind.i64 p.y, Value.int IntKind.i64 p.w, Value.int IntKind.i64 p.h] 70) = Wq at *
      have f1 : Wq.cell? ⟨w.heap.size, 1, none⟩ = some (.int .i64 f.H) := (HFw.out.below hbq (by omega)).cell 1
      have p2 : Wq.cell? ⟨wr.heap.size, 2, none⟩ = some (.int .i64 p.x) := hp.cell 2
      have p3 : Wq.cell? ⟨wr.heap.size, 3, none⟩ = some (.int .i64 p.y) := hp.cell 3
      have p4 : Wq.cell? ⟨wr.heap.size, 4, none⟩ = some (.int .i64 p.w) := hp.cell 4
      have p5 : Wq.cell? ⟨wr.heap.size, 5, none⟩ = some (.int .i64 p.h) := hp.cell 5
      have q2 : Wq.cell? ⟨wr.heap.size + 1, 2, none⟩ = some (.int .i64 p.x) := hq.cell 2
      have q2f : Wq.frozen? ⟨wr.heap.size + 1, 2, none⟩ = false := hq.frozen 2
      have q3 : Wq.cell? ⟨wr.heap.size + 1, 3, none⟩ = some (.int .i64 p.y) := hq.cell 3
      have q3f : Wq.frozen? ⟨wr.heap.size + 1, 3, none⟩ = false := hq.frozen 3
      have q4 : Wq.cell? ⟨wr.heap.size + 1, 4, none⟩ = some (.int .i64 p.w) := hq.cell 4
      have q4f : Wq.frozen? ⟨wr.heap.size + 1, 4, none⟩ = false := hq.frozen 4
      have q5 : Wq.cell? ⟨wr.heap.size + 1, 5, none⟩ = some (.int .i64 p.h) := hq.cell 5
      have q5f : Wq.frozen? ⟨wr.heap.size + 1, 5, none⟩ = false := hq.frozen 5
      have hq1 : Blk (Wq.setCell ⟨wr.heap.size + 1, 2, none⟩ (.int .i64 (f.H - p.y - p.h))) (wr.heap.size + 1) 70 #[.string p.name, .int .i64 p.kind, .int .i64 (f.H - p.y - p.h), .int .i64 p.y, .int .i64 p.w, .int .i64 p.h] := hq.set_ 2 _
      have hq2 : Blk ((Wq.setCell ⟨wr.heap.size + 1, 2, none⟩ (.int .i64 (f.H - p.y - p.h))).setCell ⟨wr.heap.size + 1, 3, none⟩ (.int .i64 (p.x))) (wr.heap.size + 1) 70 #[.string p.name, .int .i64 p.kind, .int .i64 (f.H - p.y - p.h), .int .i64 (p.x), .int .i64 p.w, .int .i64 p.h] := hq1.set_ 3 _
      have hq3 : Blk (((Wq.setCell ⟨wr.heap.size + 1, 2, none⟩ (.int .i64 (f.H - p.y - p.h))).setCell ⟨wr.heap.size + 1, 3, none⟩ (.int .i64 (p.x))).setCell ⟨wr.heap.size + 1, 4, none⟩ (.int .i64 (p.h))) (wr.heap.size + 1) 70 #[.string p.name, .int .i64 p.kind, .int .i64 (f.H - p.y - p.h), .int .i64 (p.x), .int .i64 (p.h), .int .i64 p.h] := hq2.set_ 4 _
      have hq4 : Blk ((((Wq.setCell ⟨wr.heap.size + 1, 2, none⟩ (.int .i64 (f.H - p.y - p.h))).setCell ⟨wr.heap.size + 1, 3, none⟩ (.int .i64 (p.x))).setCell ⟨wr.heap.size + 1, 4, none⟩ (.int .i64 (p.h))).setCell ⟨wr.heap.size + 1, 5, none⟩ (.int .i64 (p.w))) (wr.heap.size + 1) 70 #[.string p.name, .int .i64 p.kind, .int .i64 (f.H - p.y - p.h), .int .i64 (p.x), .int .i64 (p.h), .int .i64 (p.w)] := hq3.set_ 5 _
      have hpp0 : Blk Wq wr.heap.size 70 #[Value.string p.name, Value.int IntKind.i64 p.kind, Value.int IntKind.i64 p.x, Value.int IntKind.i64 p.y, Value.int IntKind.i64 p.w, Value.int IntKind.i64 p.h] := hp
      have hff0 : Blk Wq w.heap.size 37 #[Value.int IntKind.i64 f.W, Value.int IntKind.i64 f.H, Value.slice (some ⟨b, off, none⟩) n c] := HFw.out.below hbq (by omega)
      have hpp1 : Blk (Wq.setCell ⟨wr.heap.size + 1, 2, none⟩ (.int .i64 (f.H - p.y - p.h))) wr.heap.size 70 #[Value.string p.name, Value.int IntKind.i64 p.kind, Value.int IntKind.i64 p.x, Value.int IntKind.i64 p.y, Value.int IntKind.i64 p.w, Value.int IntKind.i64 p.h] := (Below.heap_setCell _ _ _ _ (by show wr.heap.size ≠ wr.heap.size + 1; omega)).trans hpp0
      have hff1 : Blk (Wq.setCell ⟨wr.heap.size + 1, 2, none⟩ (.int .i64 (f.H - p.y - p.h))) w.heap.size 37 #[Value.int IntKind.i64 f.W, Value.int IntKind.i64 f.H, Value.slice (some ⟨b, off, none⟩) n c] := (Below.heap_setCell _ _ _ _ (by show w.heap.size ≠ wr.heap.size + 1; omega)).trans hff0
      have hpp2 : Blk ((Wq.setCell ⟨wr.heap.size + 1, 2, none⟩ (.int .i64 (f.H - p.y - p.h))).setCell ⟨wr.heap.size + 1, 3, none⟩ (.int .i64 (p.x))) wr.heap.size 70 #[Value.string p.name, Value.int IntKind.i64 p.kind, Value.int IntKind.i64 p.x, Value.int IntKind.i64 p.y, Value.int IntKind.i64 p.w, Value.int IntKind.i64 p.h] := (Below.heap_setCell _ _ _ _ (by show wr.heap.size ≠ wr.heap.size + 1; omega)).trans hpp1
      have hff2 : Blk ((Wq.setCell ⟨wr.heap.size + 1, 2, none⟩ (.int .i64 (f.H - p.y - p.h))).setCell ⟨wr.heap.size + 1, 3, none⟩ (.int .i64 (p.x))) w.heap.size 37 #[Value.int IntKind.i64 f.W, Value.int IntKind.i64 f.H, Value.slice (some ⟨b, off, none⟩) n c] := (Below.heap_setCell _ _ _ _ (by show w.heap.size ≠ wr.heap.size + 1; omega)).trans hff1
      have hpp3 : Blk (((Wq.setCell ⟨wr.heap.size + 1, 2, none⟩ (.int .i64 (f.H - p.y - p.h))).setCell ⟨wr.heap.size + 1, 3, none⟩ (.int .i64 (p.x))).setCell ⟨wr.heap.size + 1, 4, none⟩ (.int .i64 (p.h))) wr.heap.size 70 #[Value.string p.name, Value.int IntKind.i64 p.kind, Value.int IntKind.i64 p.x, Value.int IntKind.i64 p.y, Value.int IntKind.i64 p.w, Value.int IntKind.i64 p.h] := (Below.heap_setCell _ _ _ _ (by show wr.heap.size ≠ wr.heap.size + 1; omega)).trans hpp2
      have hff3 : Blk (((Wq.setCell ⟨wr.heap.size + 1, 2, none⟩ (.int .i64 (f.H - p.y - p.h))).setCell ⟨wr.heap.size + 1, 3, none⟩ (.int .i64 (p.x))).setCell ⟨wr.heap.size + 1, 4, none⟩ (.int .i64 (p.h))) w.heap.size 37 #[Value.int IntKind.i64 f.W, Value.int IntKind.i64 f.H, Value.slice (some ⟨b, off, none⟩) n c] := (Below.heap_setCell _ _ _ _ (by show w.heap.size ≠ wr.heap.size + 1; omega)).trans hff2
      have hpp4 : Blk ((((Wq.setCell ⟨wr.heap.size + 1, 2, none⟩ (.int .i64 (f.H - p.y - p.h))).setCell ⟨wr.heap.size + 1, 3, none⟩ (.int .i64 (p.x))).setCell ⟨wr.heap.size + 1, 4, none⟩ (.int .i64 (p.h))).setCell ⟨wr.heap.size + 1, 5, none⟩ (.int .i64 (p.w))) wr.heap.size 70 #[Value.string p.name, Value.int IntKind.i64 p.kind, Value.int IntKind.i64 p.x, Value.int IntKind.i64 p.y, Value.int IntKind.i64 p.w, Value.int IntKind.i64 p.h] := (Below.heap_setCell _ _ _ _ (by show wr.heap.size ≠ wr.heap.size + 1; omega)).trans hpp3
      have hff4 : Blk ((((Wq.setCell ⟨wr.heap.size + 1, 2, none⟩ (.int .i64 (f.H - p.y - p.h))).setCell ⟨wr.heap.size + 1, 3, none⟩ (.int .i64 (p.x))).setCell ⟨wr.heap.size + 1, 4, none⟩ (.int .i64 (p.h))).setCell ⟨wr.heap.size + 1, 5, none⟩ (.int .i64 (p.w))) w.heap.size 37 #[Value.int IntKind.i64 f.W, Value.int IntKind.i64 f.H, Value.slice (some ⟨b, off, none⟩) n c] := (Below.heap_setCell _ _ _ _ (by show w.heap.size ≠ wr.heap.size + 1; omega)).trans hff3
      have hSS0 : (Wq.drew.cell? ⟨w.heap.size, 1, none⟩ = some (.int .i64 f.H) ∧ Wq.drew.cell? ⟨wr.heap.size, 2, none⟩ = some (.int .i64 p.x) ∧ Wq.drew.cell? ⟨wr.heap.size, 3, none⟩ = some (.int .i64 p.y) ∧ Wq.drew.cell? ⟨wr.heap.size, 4, none⟩ = some (.int .i64 p.w) ∧ Wq.drew.cell? ⟨wr.heap.size, 5, none⟩ = some (.int .i64 p.h)) := ⟨hff0.cell 1, hpp0.cell 2, hpp0.cell 3, hpp0.cell 4, hpp0.cell 5⟩
      have hSS1 : ((Wq.setCell ⟨wr.heap.size + 1, 2, none⟩ (.int .i64 (f.H - p.y - p.h))).drew.cell? ⟨w.heap.size, 1, none⟩ = some (.int .i64 f.H) ∧ (Wq.setCell ⟨wr.heap.size + 1, 2, none⟩ (.int .i64 (f.H - p.y - p.h))).drew.cell? ⟨wr.heap.size, 2, none⟩ = some (.int .i64 p.x) ∧ (Wq.setCell ⟨wr.heap.size + 1, 2, none⟩ (.int .i64 (f.H - p.y - p.h))).drew.cell? ⟨wr.heap.size, 3, none⟩ = some (.int .i64 p.y) ∧ (Wq.setCell ⟨wr.heap.size + 1, 2, none⟩ (.int .i64 (f.H - p.y - p.h))).drew.cell? ⟨wr.heap.size, 4, none⟩ = some (.int .i64 p.w) ∧ (Wq.setCell ⟨wr.heap.size + 1, 2, none⟩ (.int .i64 (f.H - p.y - p.h))).drew.cell? ⟨wr.heap.size, 5, none⟩ = some (.int .i64 p.h)) := ⟨hff1.cell 1, hpp1.cell 2, hpp1.cell 3, hpp1.cell 4, hpp1.cell 5⟩
      have hSS2 : (((Wq.setCell ⟨wr.heap.size + 1, 2, none⟩ (.int .i64 (f.H - p.y - p.h))).setCell ⟨wr.heap.size + 1, 3, none⟩ (.int .i64 (p.x))).drew.cell? ⟨w.heap.size, 1, none⟩ = some (.int .i64 f.H) ∧ ((Wq.setCell ⟨wr.heap.size + 1, 2, none⟩ (.int .i64 (f.H - p.y - p.h))).setCell ⟨wr.heap.size + 1, 3, none⟩ (.int .i64 (p.x))).drew.cell? ⟨wr.heap.size, 2, none⟩ = some (.int .i64 p.x) ∧ ((Wq.setCell ⟨wr.heap.size + 1, 2, none⟩ (.int .i64 (f.H - p.y - p.h))).setCell ⟨wr.heap.size + 1, 3, none⟩ (.int .i64 (p.x))).drew.cell? ⟨wr.heap.size, 3, none⟩ = some (.int .i64 p.y) ∧ ((Wq.setCell ⟨wr.heap.size + 1, 2, none⟩ (.int .i64 (f.H - p.y - p.h))).setCell ⟨wr.heap.size + 1, 3, none⟩ (.int .i64 (p.x))).drew.cell? ⟨wr.heap.size, 4, none⟩ = some (.int .i64 p.w) ∧ ((Wq.setCell ⟨wr.heap.size + 1, 2, none⟩ (.int .i64 (f.H - p.y - p.h))).setCell ⟨wr.heap.size + 1, 3, none⟩ (.int .i64 (p.x))).drew.cell? ⟨wr.heap.size, 5, none⟩ = some (.int .i64 p.h)) := ⟨hff2.cell 1, hpp2.cell 2, hpp2.cell 3, hpp2.cell 4, hpp2.cell 5⟩
      have hSS3 : ((((Wq.setCell ⟨wr.heap.size + 1, 2, none⟩ (.int .i64 (f.H - p.y - p.h))).setCell ⟨wr.heap.size + 1, 3, none⟩ (.int .i64 (p.x))).setCell ⟨wr.heap.size + 1, 4, none⟩ (.int .i64 (p.h))).drew.cell? ⟨w.heap.size, 1, none⟩ = some (.int .i64 f.H) ∧ (((Wq.setCell ⟨wr.heap.size + 1, 2, none⟩ (.int .i64 (f.H - p.y - p.h))).setCell ⟨wr.heap.size + 1, 3, none⟩ (.int .i64 (p.x))).setCell ⟨wr.heap.size + 1, 4, none⟩ (.int .i64 (p.h))).drew.cell? ⟨wr.heap.size, 2, none⟩ = some (.int .i64 p.x) ∧ (((Wq.setCell ⟨wr.heap.size + 1, 2, none⟩ (.int .i64 (f.H - p.y - p.h))).setCell ⟨wr.heap.size + 1, 3, none⟩ (.int .i64 (p.x))).setCell ⟨wr.heap.size + 1, 4, none⟩ (.int .i64 (p.h))).drew.cell? ⟨wr.heap.size, 3, none⟩ = some (.int .i64 p.y) ∧ (((Wq.setCell ⟨wr.heap.size + 1, 2, none⟩ (.int .i64 (f.H - p.y - p.h))).setCell ⟨wr.heap.size + 1, 3, none⟩ (.int .i64 (p.x))).setCell ⟨wr.heap.size + 1, 4, none⟩ (.int .i64 (p.h))).drew.cell? ⟨wr.heap.size, 4, none⟩ = some (.int .i64 p.w) ∧ (((Wq.setCell ⟨wr.heap.size + 1, 2, none⟩ (.int .i64 (f.H - p.y - p.h))).setCell ⟨wr.heap.size + 1, 3, none⟩ (.int .i64 (p.x))).setCell ⟨wr.heap.size + 1, 4, none⟩ (.int .i64 (p.h))).drew.cell? ⟨wr.heap.size, 5, none⟩ = some (.int .i64 p.h)) := ⟨hff3.cell 1, hpp3.cell 2, hpp3.cell 3, hpp3.cell 4, hpp3.cell 5⟩
      have hSS4 : (((((Wq.setCell ⟨wr.heap.size + 1, 2, none⟩ (.int .i64 (f.H - p.y - p.h))).setCell ⟨wr.heap.size + 1, 3, none⟩ (.int .i64 (p.x))).setCell ⟨wr.heap.size + 1, 4, none⟩ (.int .i64 (p.h))).setCell ⟨wr.heap.size + 1, 5, none⟩ (.int .i64 (p.w))).drew.cell? ⟨w.heap.size, 1, none⟩ = some (.int .i64 f.H) ∧ ((((Wq.setCell ⟨wr.heap.size + 1, 2, none⟩ (.int .i64 (f.H - p.y - p.h))).setCell ⟨wr.heap.size + 1, 3, none⟩ (.int .i64 (p.x))).setCell ⟨wr.heap.size + 1, 4, none⟩ (.int .i64 (p.h))).setCell ⟨wr.heap.size + 1, 5, none⟩ (.int .i64 (p.w))).drew.cell? ⟨wr.heap.size, 2, none⟩ = some (.int .i64 p.x) ∧ ((((Wq.setCell ⟨wr.heap.size + 1, 2, none⟩ (.int .i64 (f.H - p.y - p.h))).setCell ⟨wr.heap.size + 1, 3, none⟩ (.int .i64 (p.x))).setCell ⟨wr.heap.size + 1, 4, none⟩ (.int .i64 (p.h))).setCell ⟨wr.heap.size + 1, 5, none⟩ (.int .i64 (p.w))).drew.cell? ⟨wr.heap.size, 3, none⟩ = some (.int .i64 p.y) ∧ ((((Wq.setCell ⟨wr.heap.size + 1, 2, none⟩ (.int .i64 (f.H - p.y - p.h))).setCell ⟨wr.heap.size + 1, 3, none⟩ (.int .i64 (p.x))).setCell ⟨wr.heap.size + 1, 4, none⟩ (.int .i64 (p.h))).setCell ⟨wr.heap.size + 1, 5, none⟩ (.int .i64 (p.w))).drew.cell? ⟨wr.heap.size, 4, none⟩ = some (.int .i64 p.w) ∧ ((((Wq.setCell ⟨wr.heap.size + 1, 2, none⟩ (.int .i64 (f.H - p.y - p.h))).setCell ⟨wr.heap.size + 1, 3, none⟩ (.int .i64 (p.x))).setCell ⟨wr.heap.size + 1, 4, none⟩ (.int .i64 (p.h))).setCell ⟨wr.heap.size + 1, 5, none⟩ (.int .i64 (p.w))).drew.cell? ⟨wr.heap.size, 5, none⟩ = some (.int .i64 p.h)) := ⟨hff4.cell 1, hpp4.cell 2, hpp4.cell 3, hpp4.cell 4, hpp4.cell 5⟩
      have hbl : Below wr.heap.size wr ((((Wq.setCell ⟨wr.heap.size + 1, 2, none⟩ (.int .i64 (f.H - p.y - p.h))).setCell ⟨wr.heap.size + 1, 3, none⟩ (.int .i64 (p.x))).setCell ⟨wr.heap.size + 1, 4, none⟩ (.int .i64 (p.h))).setCell ⟨wr.heap.size + 1, 5, none⟩ (.int .i64 (p.w))).drew := ((((hbq.setCell (p := ⟨wr.heap.size + 1, 2, none⟩) (by show wr.heap.size ≤ wr.heap.size + 1; omega) _).setCell (p := ⟨wr.heap.size + 1, 3, none⟩) (by show wr.heap.size ≤ wr.heap.size + 1; omega) _).setCell (p := ⟨wr.heap.size + 1, 4, none⟩) (by show wr.heap.size ≤ wr.heap.size + 1; omega) _).setCell (p := ⟨wr.heap.size + 1, 5, none⟩) (by show wr.heap.size ≤ wr.heap.size + 1; omega) _).drew
      have kk : ((((Wq.setCell ⟨wr.heap.size + 1, 2, none⟩ (.int .i64 (f.H - p.y - p.h))).setCell ⟨wr.heap.size + 1, 3, none⟩ (.int .i64 (p.x))).setCell ⟨wr.heap.size + 1, 4, none⟩ (.int .i64 (p.h))).setCell ⟨wr.heap.size + 1, 5, none⟩ (.int .i64 (p.w))).drew.cell? ⟨wr.heap.size, 1, none⟩ = some (.int .i64 p.kind) := hpp4.cell 1
      have hqd : Blk ((((Wq.setCell ⟨wr.heap.size + 1, 2, none⟩ (.int .i64 (f.H - p.y - p.h))).setCell ⟨wr.heap.size + 1, 3, none⟩ (.int .i64 (p.x))).setCell ⟨wr.heap.size + 1, 4, none⟩ (.int .i64 (p.h))).setCell ⟨wr.heap.size + 1, 5, none⟩ (.int .i64 (p.w))).drew (wr.heap.size + 1) 70 #[.string p.name, .int .i64 p.kind, .int .i64 (f.H - p.y - p.h), .int .i64 (p.x), .int .i64 (p.h), .int .i64 (p.w)] := hq4
      have HBn := Lib.hid hqd
      have HBL := Lib.hid hbl
      clear hq hp hbq hq1 hq2 hq3 hq4 hqd hbl hpp0 hpp1 hpp2 hpp3 hpp4 hff0 hff1 hff2 hff3 hff4
      go_region_held3 (fun W => (W.cell? ⟨w.heap.size, 1, none⟩ = some (.int .i64 f.H) ∧ W.cell? ⟨wr.heap.size, 2, none⟩ = some (.int .i64 p.x) ∧ W.cell? ⟨wr.heap.size, 3, none⟩ = some (.int .i64 p.y) ∧ W.cell? ⟨wr.heap.size, 4, none⟩ = some (.int .i64 p.w) ∧ W.cell? ⟨wr.heap.size, 5, none⟩ = some (.int .i64 p.h)))
        (first | exact hSS0 | exact hSS1 | exact hSS2 | exact hSS3 | exact hSS4 | go_keep) (fail)
      clear hSS0 hSS1 hSS2 hSS3 hSS4 q2 q3 q4 q5 q2f q3f q4f q5f f1 p2 p3 p4 p5 e1 e2
      generalize ((((Wq.setCell ⟨wr.heap.size + 1, 2, none⟩ (.int .i64 (f.H - p.y - p.h))).setCell ⟨wr.heap.size + 1, 3, none⟩ (.int .i64 (p.x))).setCell ⟨wr.heap.size + 1, 4, none⟩ (.int .i64 (p.h))).setCell ⟨wr.heap.size + 1, 5, none⟩ (.int .i64 (p.w))).drew = Wn at *
      by_cases hk3 : p.kind = 3
      · have hBk : Blk (Wn.setCell ⟨wr.heap.size + 1, 1, none⟩ (.int .i64 4)) (wr.heap.size + 1) 70 #[.string p.name, .int .i64 4, .int .i64 (f.H - p.y - p.h), .int .i64 p.x, .int .i64 p.h, .int .i64 p.w] := HBn.out.set_ 1 _
        have hbk : Below wr.heap.size wr (Wn.setCell ⟨wr.heap.size + 1, 1, none⟩ (.int .i64 4)) := HBL.out.setCell (p := ⟨wr.heap.size + 1, 1, none⟩) (by show wr.heap.size ≤ wr.heap.size + 1; omega) _
        have hTP : turnP f.H p = ⟨p.name, 4, f.H - p.y - p.h, p.x, p.h, p.w⟩ := by unfold turnP; rw [if_pos (by omega), hk3]; rfl
        have z1 : Wn.cell? ⟨wr.heap.size + 1, 1, none⟩ = some (.int .i64 p.kind) := HBn.out.cell 1
        have z1f := HBn.out.frozen 1
        have b0 := hBk.cell 0
        have b1 := hBk.cell 1
        have b2 := hBk.cell 2
        have b3 := hBk.cell 3
        have b4 := hBk.cell 4
        have b5 := hBk.cell 5
        have hO3 := O.out.below hbk O.out.lt
        have o2 : World.cell? (Wn.setCell ⟨wr.heap.size + 1, 1, none⟩ (.int .i64 4)) ⟨ob, 2, none⟩ = some v := hO3.cell 2
        have hR3 : World.ownsRow (Wn.setCell ⟨wr.heap.size + 1, 1, none⟩ (.int .i64 4)) W1.heap.size 70 6 v k (pcells ((f.ps.map (turnP f.H)).take k)) := own_keepT R.out fun g e => hbk.block g (R.out.lt g e).2
        have hsk := hbk.size
        have hsz : (World.heap (Wn.setCell ⟨wr.heap.size + 1, 1, none⟩ (.int .i64 4))).size = (World.heap Wn).size := by first | rfl | simp
        have HO3 := Lib.hid hO3
        have HTP := Lib.hid hTP
        have HBK := Lib.hid hbk
        clear hBk hO3 hTP hbk
        have hk30 : (p.kind == 3) = true := by simp [hk3]
        clear hk3
        go_wp2_with ((at_builtin
                      refine wpList_append_lies _ rfl (.tmp 55) (.tmp 57) 35 (by rfl) W1.heap.size 70 i0 _ 6 56 Try.underlying35 hi0 hz0 hz1 hz2 rfl (by omega) v k _ (by rfl) (hR3.alloc _) ⟨(World.heap Wn).size, 0, none⟩ 1 1 [.string p.name, .int .i64 4, .int .i64 (f.H - p.y - p.h), .int .i64 p.x, .int .i64 p.h, .int .i64 p.w] (by rfl) (by rfl) (by rw [← hsz]; exact World.news_of_block (heap_alloc_new (Wn.setCell ⟨wr.heap.size + 1, 1, none⟩ (.int .i64 4)) _)) (by simp [Value.oneCell']) (by omega) (by simp only [maxLen]; omega) (by omega) (by simp; omega) ((World.heap (Wn.setCell ⟨wr.heap.size + 1, 1, none⟩ (.int .i64 4))).size + 1) (by simp) ?_
                      intro g1 cap1 w2 hown hgrow hat hlt
                      have hne : some ob ≠ v.ownBlock := fun e => by have := (R.out.lt ob e.symm).1; omega
                      have hO4 : Blk w2 ob 37 #[.int .i64 f.H, .int .i64 f.W, v] := (HO3.out.below (below_new (Wn.setCell ⟨wr.heap.size + 1, 1, none⟩ (.int .i64 4)) _) HO3.out.lt).grown hgrow hne
                      have hG4 : W1.grownBy w2 (some ob) := grown_comp (grown_comp G.out (grown_of_below (HBK.out.trans ((below_new (Wn.setCell ⟨wr.heap.size + 1, 1, none⟩ (.int .i64 4)) _).mono hsk)) none) (fun t ht => by cases ht)) hgrow (fun t ht => (R.out.lt t ht).1)
                      have HG2 := Lib.hid hG4
                      have o2' : w2.cell? ⟨ob, 2, none⟩ = some v := hO4.cell 2
                      have g2' := hO4.frozen 2
                      have HO2 := Lib.hid hO4
                      have HR2 := Lib.hid hown
                      clear hown hgrow hat hG4 hO4))
        go_roundg (n - (k + 1))
        case measure => omega
        case rel =>
          refine ⟨k + 1, .slice (some ⟨g1, 0, none⟩) (k + 1) cap1, by omega, by omega, by go_num, grown_setCell' HG2.out _ _, ?_, ?_⟩
          · show Blk _ _ _ _
            exact HO2.out.set_ 2 _
          · show World.ownsRow _ _ _ _ _ _ _
            have := HR2.out
            rw [HS.out, HTP.out]
            exact ownsRow_setCell_below this (by simpa using hob1) _
      · by_cases hk4 : p.kind = 4
        · have hBk : Blk (Wn.setCell ⟨wr.heap.size + 1, 1, none⟩ (.int .i64 3)) (wr.heap.size + 1) 70 #[.string p.name, .int .i64 3, .int .i64 (f.H - p.y - p.h), .int .i64 p.x, .int .i64 p.h, .int .i64 p.w] := HBn.out.set_ 1 _
          have hbk : Below wr.heap.size wr (Wn.setCell ⟨wr.heap.size + 1, 1, none⟩ (.int .i64 3)) := HBL.out.setCell (p := ⟨wr.heap.size + 1, 1, none⟩) (by show wr.heap.size ≤ wr.heap.size + 1; omega) _
          have hTP : turnP f.H p = ⟨p.name, 3, f.H - p.y - p.h, p.x, p.h, p.w⟩ := by unfold turnP; rw [if_pos (by omega), hk4]; rfl
          have z1 : Wn.cell? ⟨wr.heap.size + 1, 1, none⟩ = some (.int .i64 p.kind) := HBn.out.cell 1
          have z1f := HBn.out.frozen 1
          have b0 := hBk.cell 0
          have b1 := hBk.cell 1
          have b2 := hBk.cell 2
          have b3 := hBk.cell 3
          have b4 := hBk.cell 4
          have b5 := hBk.cell 5
          have hO3 := O.out.below hbk O.out.lt
          have o2 : World.cell? (Wn.setCell ⟨wr.heap.size + 1, 1, none⟩ (.int .i64 3)) ⟨ob, 2, none⟩ = some v := hO3.cell 2
          have hR3 : World.ownsRow (Wn.setCell ⟨wr.heap.size + 1, 1, none⟩ (.int .i64 3)) W1.heap.size 70 6 v k (pcells ((f.ps.map (turnP f.H)).take k)) := own_keepT R.out fun g e => hbk.block g (R.out.lt g e).2
          have hsk := hbk.size
          have hsz : (World.heap (Wn.setCell ⟨wr.heap.size + 1, 1, none⟩ (.int .i64 3))).size = (World.heap Wn).size := by first | rfl | simp
          have HO3 := Lib.hid hO3
          have HTP := Lib.hid hTP
          have HBK := Lib.hid hbk
          clear hBk hO3 hTP hbk
          have hk30 : (p.kind == 3) = false := by simp [hk3]
          have hk40 : (p.kind == 4) = true := by simp [hk4]
          clear hk3 hk4
          go_wp2_with ((at_builtin
                        refine wpList_append_lies _ rfl (.tmp 55) (.tmp 57) 35 (by rfl) W1.heap.size 70 i0 _ 6 56 Try.underlying35 hi0 hz0 hz1 hz2 rfl (by omega) v k _ (by rfl) (hR3.alloc _) ⟨(World.heap Wn).size, 0, none⟩ 1 1 [.string p.name, .int .i64 3, .int .i64 (f.H - p.y - p.h), .int .i64 p.x, .int .i64 p.h, .int .i64 p.w] (by rfl) (by rfl) (by rw [← hsz]; exact World.news_of_block (heap_alloc_new (Wn.setCell ⟨wr.heap.size + 1, 1, none⟩ (.int .i64 3)) _)) (by simp [Value.oneCell']) (by omega) (by simp only [maxLen]; omega) (by omega) (by simp; omega) ((World.heap (Wn.setCell ⟨wr.heap.size + 1, 1, none⟩ (.int .i64 3))).size + 1) (by simp) ?_
                        intro g1 cap1 w2 hown hgrow hat hlt
                        have hne : some ob ≠ v.ownBlock := fun e => by have := (R.out.lt ob e.symm).1; omega
                        have hO4 : Blk w2 ob 37 #[.int .i64 f.H, .int .i64 f.W, v] := (HO3.out.below (below_new (Wn.setCell ⟨wr.heap.size + 1, 1, none⟩ (.int .i64 3)) _) HO3.out.lt).grown hgrow hne
                        have hG4 : W1.grownBy w2 (some ob) := grown_comp (grown_comp G.out (grown_of_below (HBK.out.trans ((below_new (Wn.setCell ⟨wr.heap.size + 1, 1, none⟩ (.int .i64 3)) _).mono hsk)) none) (fun t ht => by cases ht)) hgrow (fun t ht => (R.out.lt t ht).1)
                        have HG2 := Lib.hid hG4
                        have o2' : w2.cell? ⟨ob, 2, none⟩ = some v := hO4.cell 2
                        have g2' := hO4.frozen 2
                        have HO2 := Lib.hid hO4
                        have HR2 := Lib.hid hown
                        clear hown hgrow hat hG4 hO4))
          go_roundg (n - (k + 1))
          case measure => omega
          case rel =>
            refine ⟨k + 1, .slice (some ⟨g1, 0, none⟩) (k + 1) cap1, by omega, by omega, by go_num, grown_setCell' HG2.out _ _, ?_, ?_⟩
            · show Blk _ _ _ _
              exact HO2.out.set_ 2 _
            · show World.ownsRow _ _ _ _ _ _ _
              have := HR2.out
              rw [HS.out, HTP.out]
              exact ownsRow_setCell_below this (by simpa using hob1) _
        · have hBk : Blk Wn (wr.heap.size + 1) 70 #[.string p.name, .int .i64 p.kind, .int .i64 (f.H - p.y - p.h), .int .i64 p.x, .int .i64 p.h, .int .i64 p.w] := HBn.out
          have hbk : Below wr.heap.size wr Wn := HBL.out
          have hTP : turnP f.H p = ⟨p.name, p.kind, f.H - p.y - p.h, p.x, p.h, p.w⟩ := by unfold turnP; rw [if_neg (by omega)]
          have z1 : Wn.cell? ⟨wr.heap.size + 1, 1, none⟩ = some (.int .i64 p.kind) := HBn.out.cell 1
          have z1f := HBn.out.frozen 1
          have b0 := hBk.cell 0
          have b1 := hBk.cell 1
          have b2 := hBk.cell 2
          have b3 := hBk.cell 3
          have b4 := hBk.cell 4
          have b5 := hBk.cell 5
          have hO3 := O.out.below hbk O.out.lt
          have o2 : World.cell? Wn ⟨ob, 2, none⟩ = some v := hO3.cell 2
          have hR3 : World.ownsRow Wn W1.heap.size 70 6 v k (pcells ((f.ps.map (turnP f.H)).take k)) := own_keepT R.out fun g e => hbk.block g (R.out.lt g e).2
          have hsk := hbk.size
          have hsz : (World.heap Wn).size = (World.heap Wn).size := by first | rfl | simp
          have HO3 := Lib.hid hO3
          have HTP := Lib.hid hTP
          have HBK := Lib.hid hbk
          clear hBk hO3 hTP hbk
          have hk30 : (p.kind == 3) = false := by simp [hk3]
          have hk40 : (p.kind == 4) = false := by simp [hk4]
          clear hk3 hk4
          go_wp2_with ((at_builtin
                        refine wpList_append_lies _ rfl (.tmp 55) (.tmp 57) 35 (by rfl) W1.heap.size 70 i0 _ 6 56 Try.underlying35 hi0 hz0 hz1 hz2 rfl (by omega) v k _ (by rfl) (hR3.alloc _) ⟨(World.heap Wn).size, 0, none⟩ 1 1 [.string p.name, .int .i64 p.kind, .int .i64 (f.H - p.y - p.h), .int .i64 p.x, .int .i64 p.h, .int .i64 p.w] (by rfl) (by rfl) (by rw [← hsz]; exact World.news_of_block (heap_alloc_new Wn _)) (by simp [Value.oneCell']) (by omega) (by simp only [maxLen]; omega) (by omega) (by simp; omega) ((World.heap Wn).size + 1) (by simp) ?_
                        intro g1 cap1 w2 hown hgrow hat hlt
                        have hne : some ob ≠ v.ownBlock := fun e => by have := (R.out.lt ob e.symm).1; omega
                        have hO4 : Blk w2 ob 37 #[.int .i64 f.H, .int .i64 f.W, v] := (HO3.out.below (below_new Wn _) HO3.out.lt).grown hgrow hne
                        have hG4 : W1.grownBy w2 (some ob) := grown_comp (grown_comp G.out (grown_of_below (HBK.out.trans ((below_new Wn _).mono hsk)) none) (fun t ht => by cases ht)) hgrow (fun t ht => (R.out.lt t ht).1)
                        have HG2 := Lib.hid hG4
                        have o2' : w2.cell? ⟨ob, 2, none⟩ = some v := hO4.cell 2
                        have g2' := hO4.frozen 2
                        have HO2 := Lib.hid hO4
                        have HR2 := Lib.hid hown
                        clear hown hgrow hat hG4 hO4))
          go_roundg (n - (k + 1))
          case measure => omega
          case rel =>
            refine ⟨k + 1, .slice (some ⟨g1, 0, none⟩) (k + 1) cap1, by omega, by omega, by go_num, grown_setCell' HG2.out _ _, ?_, ?_⟩
            · show Blk _ _ _ _
              exact HO2.out.set_ 2 _
            · show World.ownsRow _ _ _ _ _ _ _
              have := HR2.out
              rw [HS.out, HTP.out]
              exact ownsRow_setCell_below this (by simpa using hob1) _
    · have hknz : ¬ (k : Int) < (n : Int) := by omega
      have he : k = n := by omega
      subst he
      obtain ⟨A', c', rfl⟩ := own_slice R.out
      have o0 : wr.cell? ⟨ob, 0, none⟩ = some (.int .i64 f.H) := O.out.cell 0
      have o1 : wr.cell? ⟨ob, 1, none⟩ = some (.int .i64 f.W) := O.out.cell 1
      have o2 : wr.cell? ⟨ob, 2, none⟩ = some (.slice A' k c') := O.out.cell 2
      have s0 : wr.cell? ⟨w.heap.size + 1, 0, none⟩ = some (.int .i64 0) := hR'.cell 0
      have s1 : wr.cell? ⟨w.heap.size + 1, 1, none⟩ = some (.int .i64 0) := hR'.cell 1
      have s2 : wr.cell? ⟨w.heap.size + 1, 2, none⟩ = some (.slice none 0 0) := hR'.cell 2
      have t0 := hR'.frozen 0
      have t1 := hR'.frozen 1
      have t2 := hR'.frozen 2
      have hzr := hR'.lt
      have HB' := Lib.hid hB
      have hRW := R.out
      have HRW := Lib.hid hRW
      clear hF hR' hB R hRW O
      go_wp2_with fail
      have hfin := HFN.out _ (((wr.setCell ⟨w.heap.size + 1, 0, none⟩ (Value.int IntKind.i64 f.H)).setCell ⟨w.heap.size + 1, 1, none⟩ (Value.int IntKind.i64 f.W)).setCell ⟨w.heap.size + 1, 2, none⟩ (Value.slice A' k c'))
        (own_mono (ownsRow_setCell_blk (ownsRow_setCell_blk (ownsRow_setCell_blk HRW.out (by omega) _) (by omega) _) (by omega) _) (show w.heap.size ≤ W1.heap.size by omega))
        (((HB'.out.setCell (by simp) _).setCell (by simp) _).setCell (by simp) _)
      exact bodyPost_ret (v := .tuple #[.agg #[.int .i64 f.H, .int .i64 f.W, .slice A' k c'], .int .i64 0]) (by simp [results, Try.results66, go_sem, s0, s1, s2, hzr]) rfl hfin
end Go.Proofs.Ytlfeoofchebbkaa
