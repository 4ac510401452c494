/- Mirrored: a forme that is seen from behind. -/
import Derived.Test.YtlfeoofchebbkaaMir
import Derived.Test.YtlfeoofchebbkaaLw
namespace Go.Proofs.Ytlfeoofchebbkaa
set_option linter.unusedSimpArgs false
set_option linter.unusedVariables false
open Go.RowKit
def ClonePost (w : World) (ps : List Piece) (e : Ending) (w' : World) : Prop := ∃ v, e = .returned v ∧ PsOwn w' w.heap.size ps v ∧ Below w.heap.size w w'
set_option maxRecDepth 100000 in
theorem clonePs_any (ps : List Piece) (A : Option Addr) (b off c : Nat) (w : World) (hA : Lies A ps.length w.heap.size b off) (hps : PsAt w b off ps) (hm : ps.length ≤ 1000000) :
    Calls Try.prog 125 #[.slice A ps.length c] w (ClonePost w ps) := by
  cases A with
  | none =>
    have hn : ps.length = 0 := by
      rcases Nat.eq_zero_or_pos ps.length with h | h
      · exact h
      · have := (hA h).1; cases this
    obtain rfl : ps = [] := List.eq_nil_of_length_eq_zero hn
    have heq : ∀ W, (binOp .eql 35 (.slice none 0 c) (.slice none 0 0)).run Try.prog W = .ok (.bool true) W := fun W => by
      have := Lib.run_eql_slice_nil W 35 70 none 0 c 0 0 Try.underlying35
      simpa using this
    clear hA hps hn
    go_enter Try.func125, Try.ntmps125
    go_wp2_with fail
    go_ret
    exact ⟨_, rfl, ⟨none, 0, 0, rfl, Nat.le_refl _, fun h => absurd h (by simp), fun j hj => absurd hj (by simp), fun h => absurd h (by simp)⟩, Below.refl _ _⟩
  | some a =>
    obtain ⟨i0, hi0, hz0, hz1, hz2⟩ := info_parts Try.info70
    have hh : ∀ j, j < ps.length * 6 → w.cell? ⟨b, off + j, none⟩ = (pcells ps)[j]? := fun j hj => by rw [hps.all j hj, pcells_get _ j hj]
    have HH := Lib.hid hh
    have HP : Hid (∀ v w', w'.ownsRow w.heap.size 70 6 v ps.length (pcells ps) → Below w.heap.size w w' → ClonePost w ps (.returned v) w') := (show ∀ v w', _ from fun v w' h hb => ⟨v, rfl, ps_own h, hb⟩)
    clear hps hh
    have heq : ∀ W, (binOp .eql 35 (.slice (some a) ps.length c) (.slice none 0 0)).run Try.prog W = .ok (.bool false) W := fun W => by
      have := Lib.run_eql_slice_nil W 35 70 (some a) ps.length c 0 0 Try.underlying35
      simpa using this
    go_enter Try.func125, Try.ntmps125
    go_wp2_with ((at_builtin
                  refine wpList_copy rfl (.tmp 5) (.tmp 6) 35 rfl 70 i0 _ 6 56 Try.underlying35 hi0 hz0 hz1 hz2 rfl (by omega) rfl rfl (some a) b off ps.length c _ rfl (pcells_length ps) hA HH.out (pcells_one ps) (by simp only [maxLen]; omega) (by omega) ?_
                  intro v1 w1 hown1 hg1
                  have HO := Lib.hid hown1
                  have HG := Lib.hid hg1
                  clear hown1 hg1))
    go_ret
    exact HP.out _ _ HO.out HG.out
/-- A forme of the call's own, and no error. -/
def OkPost (w : World) (g : Forme) (e : Ending) (w' : World) : Prop := ∃ v, e = .returned (.tuple #[.agg #[.int .i64 g.W, .int .i64 g.H, v], .int .i64 0]) ∧ PsOwn w' w.heap.size g.ps v ∧ Below w.heap.size w w'
def BadPost (w : World) (s : Int) (e : Ending) (w' : World) : Prop := e = .returned (.tuple #[.agg #[.int .i64 0, .int .i64 0, .slice none 0 0], .int .i64 s]) ∧ Below w.heap.size w w'
set_option maxRecDepth 100000 in
set_option maxHeartbeats 2000000 in
theorem mirrorP_bad (f : Forme) (A : Option Addr) (b off c : Nat) (w : World) (hA : Lies A f.ps.length w.heap.size b off) (hps : PsAt w b off f.ps) (hnm : NameOk f.ps) (hc : f.ps.length ≤ c) (hm : f.ps.length ≤ 9223372036854775807) (hs : (checkF f).2 ≠ 0) :
    Calls Try.prog 67 #[.agg #[.int .i64 f.W, .int .i64 f.H, .slice A f.ps.length c]] w (BadPost w (checkF f).2) := by
  have hB2 : Below w.heap.size w ((w.alloc (Obj.cells #[Value.int IntKind.i64 f.W, Value.int IntKind.i64 f.H, Value.slice A f.ps.length c] 37)).alloc (Obj.cells #[Value.int IntKind.i64 0, Value.int IntKind.i64 0, Value.slice none 0 0] 37)) := (below_new _ _).trans ((below_new _ _).mono (by simp))
  have hF : Blk ((w.alloc (Obj.cells #[Value.int IntKind.i64 f.W, Value.int IntKind.i64 f.H, Value.slice A f.ps.length c] 37)).alloc (Obj.cells #[Value.int IntKind.i64 0, Value.int IntKind.i64 0, Value.slice none 0 0] 37)) w.heap.size 37 #[Value.int IntKind.i64 f.W, Value.int IntKind.i64 f.H, Value.slice A f.ps.length c] :=
    (Below.heap_alloc _ _ _ (by simp)).trans (Blk.new w 37 _)
  have hR : Blk ((w.alloc (Obj.cells #[Value.int IntKind.i64 f.W, Value.int IntKind.i64 f.H, Value.slice A f.ps.length c] 37)).alloc (Obj.cells #[Value.int IntKind.i64 0, Value.int IntKind.i64 0, Value.slice none 0 0] 37)) (w.heap.size + 1) 37 #[Value.int IntKind.i64 0, Value.int IntKind.i64 0, Value.slice none 0 0] := by
    have := Blk.new (w.alloc (Obj.cells #[Value.int IntKind.i64 f.W, Value.int IntKind.i64 f.H, Value.slice A f.ps.length c] 37)) 37 #[Value.int IntKind.i64 0, Value.int IntKind.i64 0, Value.slice none 0 0]
    rwa [World.size_alloc] at this
  have hsz : ((w.alloc (Obj.cells #[Value.int IntKind.i64 f.W, Value.int IntKind.i64 f.H, Value.slice A f.ps.length c] 37)).alloc (Obj.cells #[Value.int IntKind.i64 0, Value.int IntKind.i64 0, Value.slice none 0 0] 37)).heap.size = w.heap.size + 1 + 1 := by simp
  have hcall := check_any f A b off c ((w.alloc (Obj.cells #[Value.int IntKind.i64 f.W, Value.int IntKind.i64 f.H, Value.slice A f.ps.length c] 37)).alloc (Obj.cells #[Value.int IntKind.i64 0, Value.int IntKind.i64 0, Value.slice none 0 0] 37)) (hA.mono (by omega)) (fun j hj => (hps j hj).below hB2 (hA (by omega)).2) hnm hc hm
  have hsb : ((checkF f).2 != 0) = true := bne_t hs
  generalize (checkF f).2 = s at *
  generalize f.ps.length = n at *
  clear hA hps hnm hs
  go_enter Try.func67, Try.ntmps67
  go_wp2_with fail
  generalize ((w.alloc (Obj.cells #[Value.int IntKind.i64 f.W, Value.int IntKind.i64 f.H, Value.slice A n c] 37)).alloc (Obj.cells #[Value.int IntKind.i64 0, Value.int IntKind.i64 0, Value.slice none 0 0] 37)) = W0 at *
  refine hcall.mono ?_
  rintro e w1 ⟨rfl, b1⟩
  have HB := Lib.hid (hB2.trans (b1.mono hB2.size))
  have R1 := hR.below b1 (by omega)
  have s0 : w1.cell? ⟨w.heap.size + 1, 0, none⟩ = some (.int .i64 0) := R1.cell 0
  have s1 : w1.cell? ⟨w.heap.size + 1, 1, none⟩ = some (.int .i64 0) := R1.cell 1
  have s2 : w1.cell? ⟨w.heap.size + 1, 2, none⟩ = some (.slice none 0 0) := R1.cell 2
  have t0 := R1.frozen 0
  have t1 := R1.frozen 1
  have t2 := R1.frozen 2
  have hzr := R1.lt
  clear hB2 hF hR b1 R1 hcall
  go_wp2_with fail
  exact bodyPost_ret (v := .tuple #[.agg #[.int .i64 0, .int .i64 0, .slice none 0 0], .int .i64 s]) (by simp [results, Try.results67, go_sem, s0, s1, s2, hzr]) rfl ⟨rfl, ((HB.out.setCell (by simp) _).setCell (by simp) _).setCell (by simp) _⟩
set_option maxRecDepth 100000 in
set_option maxHeartbeats 4000000 in
theorem mirrorP_ok (f : Forme) (A : Option Addr) (b off c : Nat) (w : World) (hA : Lies A f.ps.length w.heap.size b off) (hps : PsAt w b off f.ps) (hnm : NameOk f.ps) (hc : f.ps.length ≤ c) (hm : f.ps.length ≤ 1000000) (hs : (checkF f).2 = 0) :
    Calls Try.prog 67 #[.agg #[.int .i64 f.W, .int .i64 f.H, .slice A f.ps.length c]] w (OkPost w f.mirror) := by
  have hf := (checkF_zero hs).toLaid
  have hw1 := hf.w1
  have hw2 := hf.w2
  have HS : Hid (∀ i, i < f.ps.length → Sml (gp f.ps i)) := fun i hi => hf.sml hi
  have hB2 : Below w.heap.size w ((w.alloc (Obj.cells #[Value.int IntKind.i64 f.W, Value.int IntKind.i64 f.H, Value.slice A f.ps.length c] 37)).alloc (Obj.cells #[Value.int IntKind.i64 0, Value.int IntKind.i64 0, Value.slice none 0 0] 37)) := (below_new _ _).trans ((below_new _ _).mono (by simp))
  have hF : Blk ((w.alloc (Obj.cells #[Value.int IntKind.i64 f.W, Value.int IntKind.i64 f.H, Value.slice A f.ps.length c] 37)).alloc (Obj.cells #[Value.int IntKind.i64 0, Value.int IntKind.i64 0, Value.slice none 0 0] 37)) w.heap.size 37 #[Value.int IntKind.i64 f.W, Value.int IntKind.i64 f.H, Value.slice A f.ps.length c] :=
    (Below.heap_alloc _ _ _ (by simp)).trans (Blk.new w 37 _)
  have hR : Blk ((w.alloc (Obj.cells #[Value.int IntKind.i64 f.W, Value.int IntKind.i64 f.H, Value.slice A f.ps.length c] 37)).alloc (Obj.cells #[Value.int IntKind.i64 0, Value.int IntKind.i64 0, Value.slice none 0 0] 37)) (w.heap.size + 1) 37 #[Value.int IntKind.i64 0, Value.int IntKind.i64 0, Value.slice none 0 0] := by
    have := Blk.new (w.alloc (Obj.cells #[Value.int IntKind.i64 f.W, Value.int IntKind.i64 f.H, Value.slice A f.ps.length c] 37)) 37 #[Value.int IntKind.i64 0, Value.int IntKind.i64 0, Value.slice none 0 0]
    rwa [World.size_alloc] at this
  have hsz : ((w.alloc (Obj.cells #[Value.int IntKind.i64 f.W, Value.int IntKind.i64 f.H, Value.slice A f.ps.length c] 37)).alloc (Obj.cells #[Value.int IntKind.i64 0, Value.int IntKind.i64 0, Value.slice none 0 0] 37)).heap.size = w.heap.size + 1 + 1 := by simp
  have hcall := check_any f A b off c ((w.alloc (Obj.cells #[Value.int IntKind.i64 f.W, Value.int IntKind.i64 f.H, Value.slice A f.ps.length c] 37)).alloc (Obj.cells #[Value.int IntKind.i64 0, Value.int IntKind.i64 0, Value.slice none 0 0] 37)) (hA.mono (by omega)) (fun j hj => (hps j hj).below hB2 (hA (by omega)).2) hnm hc (by omega)
  rw [hs] at hcall
  go_enter Try.func67, Try.ntmps67
  go_wp2_with fail
  generalize ((w.alloc (Obj.cells #[Value.int IntKind.i64 f.W, Value.int IntKind.i64 f.H, Value.slice A f.ps.length c] 37)).alloc (Obj.cells #[Value.int IntKind.i64 0, Value.int IntKind.i64 0, Value.slice none 0 0] 37)) = W0 at *
  have HPS0 : Hid (PsAt W0 b off f.ps) := fun j hj => (hps j hj).below hB2 (hA (by omega)).2
  have hA0 : Lies A f.ps.length W0.heap.size b off := hA.mono (by omega)
  refine hcall.mono ?_
  rintro e w1 ⟨rfl, b1⟩
  have HB1 := Lib.hid (hB2.trans (b1.mono hB2.size))
  have F1 := hF.below b1 (by omega)
  have R1 := hR.below b1 (by omega)
  have hz1 : w.heap.size + 1 < w1.heap.size := by have := b1.size; omega
  have hA1 := hA0.mono b1.size
  have HPS1 : Hid (PsAt w1 b off f.ps) := fun j hj => (HPS0.out j hj).below b1 (hA0 (by omega)).2
  have f2 : w1.cell? ⟨w.heap.size, 2, none⟩ = some (.slice A f.ps.length c) := F1.cell 2
  have HF1 := Lib.hid F1
  have HR1 := Lib.hid R1
  clear hcall hB2 hF hR b1 F1 R1 hps HPS0 hA0
  go_wp2_with fail
  refine (clonePs_any f.ps A b off c w1 hA1 HPS1.out hm).mono ?_
  rintro e w2 ⟨v, rfl, ⟨A', b', c', rfl, k1, l1, p1, q1⟩, b2⟩
  have F2 := HF1.out.below b2 (by omega)
  have R2 := HR1.out.below b2 (by omega)
  have hz2 := b2.size
  have HB2 := Lib.hid (HB1.out.trans (b2.mono HB1.out.size))
  have g2 : w2.cell? ⟨w.heap.size, 2, none⟩ = some (.slice A f.ps.length c) := F2.cell 2
  have g2f := F2.frozen 2
  obtain ⟨bb, hbb, hbn⟩ : ∃ bb : Nat, (0 < f.ps.length → bb = b') ∧ (f.ps.length = 0 → bb = w2.heap.size) := by
    by_cases h : 0 < f.ps.length
    · exact ⟨b', fun _ => rfl, fun h' => by omega⟩
    · exact ⟨w2.heap.size, fun h' => absurd h' h, fun _ => rfl⟩
  have HF2 := Lib.hid F2
  have HR2 := Lib.hid R2
  have HQ1 : Hid (0 < f.ps.length → w1.heap.size ≤ bb ∧ bb < w2.heap.size ∧ A' = some ⟨bb, 0, none⟩ ∧ rowG w2 bb (f.ps.length * 6) (mcell f 0)) := (show _ → _ from fun h => by
    obtain ⟨h1, h2⟩ := l1 h
    obtain ⟨h3, h4⟩ := q1 h
    rw [hbb h]
    exact ⟨h3, h2, h1, h4.congr fun j _ => (mcell_zero f j).symm⟩)
  have HBN := Lib.hid hbn
  clear b2 F2 R2 l1 p1 q1 hbb hbn f2 HF1 HR1 HPS1 HB1
  go_wp2_with fail
  have hbne : bb ≠ w.heap.size ∧ bb ≠ w.heap.size + 1 ∧ w.heap.size ≤ bb := by
    rcases Nat.eq_zero_or_pos f.ps.length with h | h
    · have := HBN.out h; omega
    · have := (HQ1.out h).1; omega
  obtain ⟨n1, n2, n4⟩ := hbne
  have hF3 : Blk (w2.setCell ⟨w.heap.size, 2, none⟩ (Value.slice A' f.ps.length c')) w.heap.size 37 #[Value.int IntKind.i64 f.W, Value.int IntKind.i64 f.H, Value.slice A' f.ps.length c'] := HF2.out.set_ 2 _
  have hR3 : Blk (w2.setCell ⟨w.heap.size, 2, none⟩ (Value.slice A' f.ps.length c')) (w.heap.size + 1) 37 #[Value.int IntKind.i64 0, Value.int IntKind.i64 0, Value.slice none 0 0] := (Below.heap_setCell _ _ _ _ (by show w.heap.size + 1 ≠ w.heap.size; omega)).trans HR2.out
  have hQ3 : 0 < f.ps.length → rowG (w2.setCell ⟨w.heap.size, 2, none⟩ (Value.slice A' f.ps.length c')) bb (f.ps.length * 6) (mcell f 0) := fun h => (HQ1.out h).2.2.2.setOther n1 _
  have hB3 : Below w.heap.size w (w2.setCell ⟨w.heap.size, 2, none⟩ (Value.slice A' f.ps.length c')) := HB2.out.setCell (p := ⟨w.heap.size, 2, none⟩) (Nat.le_refl _) _
  have HQ : Hid (0 < f.ps.length → A' = some ⟨bb, 0, none⟩) := (show _ → _ from fun h => (HQ1.out h).2.2.1)
  clear g2 g2f HF2 HR2 HQ1 HB2 HBN
  generalize w2.setCell ⟨w.heap.size, 2, none⟩ (Value.slice A' f.ps.length c') = W3 at *
  have HF := Lib.hid hF3
  have HR := Lib.hid hR3
  have HB := Lib.hid hB3
  have h3z := hF3.lt
  have h3r := hR3.lt
  clear hF3 hR3 hB3
  generalize hn : f.ps.length = n at *
  have HN := Lib.hid hn
  clear hn
  have HK : Hid (∀ W, W3.grownBy W (some bb) → Blk W w.heap.size 37 #[Value.int IntKind.i64 f.W, Value.int IntKind.i64 f.H, Value.slice A' n c'] ∧ Blk W (w.heap.size + 1) 37 #[Value.int IntKind.i64 0, Value.int IntKind.i64 0, Value.slice none 0 0] ∧ Below w.heap.size w W) := (show ∀ W, _ from fun W hW =>
    ⟨HF.out.grown hW (by simpa using Ne.symm n1), HR.out.grown hW (by simpa using Ne.symm n2), HB.out.trans (below_of_grown hW n4 HB.out.size)⟩)
  go_loopg [20] n (fun gg s20 wr => ∃ k : Nat, k ≤ n ∧ n - k ≤ gg ∧ s20 = .int .i64 k ∧ Hid (W3.grownBy wr (some bb)) ∧ Hid (0 < n → rowG wr bb (n * 6) (mcell f k)))
  case atStart => exact ⟨0, Nat.zero_le _, by omega, rfl, World.grownBy.refl _ _, hQ3⟩
  case round =>
    obtain ⟨k, hk, hgk, rfl, G, R⟩ := hrel
    clear hQ3
    obtain ⟨hF, hR', hB⟩ := HK.out wr G.out
    by_cases hkn : k < n
    · have hknz : (k : Int) < (n : Int) := by omega
      have hk0 : (0 : Int) ≤ (k : Int) := by omega
      obtain rfl := HQ.out (by omega)
      obtain ⟨s1, s2, s3, s4, s5, s6, s7, s8⟩ := HS.out k hkn
      have r := R.out (by omega)
      have rc : wr.cell? ⟨bb, k * 6 + 2, none⟩ = some (.int .i64 (gp f.ps k).x) := by
        rw [r.cell (j := k * 6 + 2) (by omega)]
        unfold mcell
        rw [if_neg (by omega), (pcell_at f.ps k).2.2.1]
      have rw4 : wr.cell? ⟨bb, k * 6 + 4, none⟩ = some (.int .i64 (gp f.ps k).w) := by
        rw [r.cell (j := k * 6 + 4) (by omega)]
        unfold mcell
        rw [if_neg (by omega), (pcell_at f.ps k).2.2.2.2.1]
      have rf := r.frozen (k * 6 + 2)
      have HR2 := Lib.hid r
      have f0 : wr.cell? ⟨w.heap.size, 0, none⟩ = some (.int .i64 f.W) := hF.cell 0
      have f2 : wr.cell? ⟨w.heap.size, 2, none⟩ = some (.slice (some ⟨bb, 0, none⟩) n c') := hF.cell 2
      have HST := Lib.hid (mcell_step f k)
      generalize gp f.ps k = p at *
      have e1 : IntKind.i64.wrap (f.W - p.x) = f.W - p.x := IntWalk.i64_in _ (by omega)
      have e2 : IntKind.i64.wrap (f.W - p.x - p.w) = f.W - p.x - p.w := IntWalk.i64_in _ (by omega)
      clear hF hR' r hB
      go_wp2_with fail
      go_still_tail 15, (by kernel_rfl)
      change wpList _ _ _ _ _ wr.drew
      go_wp2_with fail
      clear e1 e2
      go_roundg (n - (k + 1))
      case measure => omega
      case rel =>
        refine ⟨k + 1, by omega, by omega, by go_num, grown_drew' (grown_setCell' G.out _ _), (show _ → _ from fun h => ?_)⟩
        refine (HR2.out.set _ _).drew.congr fun j hj => ?_
        rw [HST.out j]
    · have hknz : ¬ (k : Int) < (n : Int) := by omega
      have he : k = n := by omega
      subst he
      have hml : f.mirror.ps.length = k := by rw [← HN.out]; simp [Forme.mirror]
      have HFN : Hid (∀ W' : World, wr.heap.size ≤ W'.heap.size → (∀ j, j ≠ w.heap.size + 1 → W'.heap[j]? = wr.heap[j]?) → Below w.heap.size w W' → OkPost w f.mirror (.returned (.tuple #[.agg #[.int .i64 f.W, .int .i64 f.H, .slice A' k c'], .int .i64 0])) W') := by
        show ∀ W' : World, _
        intro W' hs hbk hbel
        have hrow : 0 < k → rowG W' bb (k * 6) (pcell f.mirror.ps) := fun h => ((R.out h).of_block (hbk bb n2)).congr fun j hj => by
          have := mcell_all f j (by rw [HN.out]; exact hj)
          rw [HN.out] at this
          exact this
        refine ⟨_, rfl, ⟨A', bb, c', by rw [hml], by rw [hml]; exact k1, fun h => ?_, ?_, fun h => ?_⟩, hbel⟩
        · rw [hml] at h
          exact ⟨HQ.out h, (hrow h).lt⟩
        · rcases Nat.eq_zero_or_pos k with h | h
          · exact fun j hj => by omega
          · exact PsAt.of_row (by rw [hml]; exact hrow h)
        · rw [hml] at h ⊢
          exact ⟨n4, hrow h⟩
      have o0 : wr.cell? ⟨w.heap.size, 0, none⟩ = some (.int .i64 f.W) := hF.cell 0
      have o1 : wr.cell? ⟨w.heap.size, 1, none⟩ = some (.int .i64 f.H) := hF.cell 1
      have o2 : wr.cell? ⟨w.heap.size, 2, none⟩ = some (.slice A' k c') := hF.cell 2
      have s0 : wr.cell? ⟨w.heap.size + 1, 0, none⟩ = some (.int .i64 0) := hR'.cell 0
      have s1 : wr.cell? ⟨w.heap.size + 1, 1, none⟩ = some (.int .i64 0) := hR'.cell 1
      have s2 : wr.cell? ⟨w.heap.size + 1, 2, none⟩ = some (.slice none 0 0) := hR'.cell 2
      have t0 := hR'.frozen 0
      have t1 := hR'.frozen 1
      have t2 := hR'.frozen 2
      have hzr := hR'.lt
      have HB' := Lib.hid hB
      clear hF hR' hB R hml
      go_wp2_with fail
      have hfin := HFN.out (((wr.setCell ⟨w.heap.size + 1, 0, none⟩ (Value.int IntKind.i64 f.W)).setCell ⟨w.heap.size + 1, 1, none⟩ (Value.int IntKind.i64 f.H)).setCell ⟨w.heap.size + 1, 2, none⟩ (Value.slice A' k c')) (by simp [World.setCell])
        (fun j hj => ((Below.heap_setCell _ _ _ _ (by simpa using hj)).trans ((Below.heap_setCell _ _ _ _ (by simpa using hj)).trans (Below.heap_setCell _ _ _ _ (by simpa using hj)))))
        (((HB'.out.setCell (by simp) _).setCell (by simp) _).setCell (by simp) _)
      exact bodyPost_ret (v := .tuple #[.agg #[.int .i64 f.W, .int .i64 f.H, .slice A' k c'], .int .i64 0]) (by simp [results, Try.results67, go_sem, s0, s1, s2, hzr]) rfl hfin
end Go.Proofs.Ytlfeoofchebbkaa
