/- across and down: a forme with true sizes, seen in one direction. -/
import Derived.Test.YtlfeoofchebbkaaDoorApp
namespace Go.Proofs.YtlfeoofchebbkaaDoor
set_option linter.unusedSimpArgs false
set_option linter.unusedVariables false
open Go.RowKit
theorem Tryd.info88 : (Tryd.prog.info? 88).map (fun i => (i.zero, i.size, i.bytes)) = some (some (.agg #[.int .i64 0, .int .i64 0]), 2, 16) := by kernel_rfl
/-- The cells of a list of pairs. -/
def prs (l : List (Int × Int)) : List Value := l.flatMap fun p => [.int .i64 p.1, .int .i64 p.2]
/-- What across and down hand back: a new direction. -/
def AcPost (w : World) (n : Nat) (l m : List (Int × Int)) (vz sd : Value) (e : Ending) (w' : World) : Prop :=
  ∃ (dg : Nat) (va vb : Value), e = .returned (.pointer (some ⟨dg, 0, none⟩)) ∧ w.heap.size ≤ dg ∧ Blk w' dg 86 #[va, vb, vz, sd] ∧
    w'.ownsRow w.heap.size 88 2 va n (prs l) ∧ w'.ownsRow w.heap.size 88 2 vb n (prs m) ∧ Below w.heap.size w w'

set_option maxRecDepth 100000 in
set_option maxHeartbeats 4000000 in
theorem across_any (f : Forme) (A A1 A2 A3 : Option Addr) (b off c n1 c1 n2 c2 n3 c3 : Nat) (w : World) (hA : Lies A f.ps.length w.heap.size b off) (hps : PsAt w b off f.ps) (hm : f.ps.length ≤ 1000)
    (hsm : ∀ i, i < f.ps.length → (gp f.ps i).inn f.W f.H) (hW : f.W ≤ 4000) (hH : f.H ≤ 4000) :
    Calls Tryd.prog 28 #[.agg #[.int .i64 f.W, .int .i64 f.H, .slice A f.ps.length c], .agg #[.slice A1 n1 c1, .slice A2 n2 c2, .slice A3 n3 c3]] w
      (AcPost w f.ps.length (f.ps.map fun p => (p.x, p.x + p.w)) (f.ps.map fun p => (p.y, p.y + p.h)) (Value.slice A1 n1 c1) (.int .i64 f.W)) := by
  obtain ⟨i0, hi0, hz0, hz1, hz2⟩ := info_parts Tryd.info88
  have hts : ∀ k, k < f.ps.length → f.ps.take (k + 1) = f.ps.take k ++ [gp f.ps k] := fun k hk => by rw [List.take_succ_eq_append_getElem hk, gp_get hk]
  have hall : f.ps.take f.ps.length = f.ps := List.take_length
  generalize hn : f.ps.length = n at *
  have HN := Lib.hid hn
  have HALL := Lib.hid hall
  have HTS := Lib.hid hts
  clear hn hall hts
  go_enter Tryd.func28, Tryd.ntmps28
  go_wp2_with fail
  have hB0 := (((below_new w (Obj.cells #[Value.int IntKind.i64 f.W, Value.int IntKind.i64 f.H, Value.slice A n c] 28)).alloc (by simp) (Obj.cells #[Value.slice A1 n1 c1, Value.slice A2 n2 c2, Value.slice A3 n3 c3] 43)).alloc (by simp; omega) (Obj.cells #[Value.slice none 0 0, Value.slice none 0 0, Value.slice A1 n1 c1, Value.int IntKind.i64 f.W] 86))
  have hD0 : Blk (((w.alloc (Obj.cells #[Value.int IntKind.i64 f.W, Value.int IntKind.i64 f.H, Value.slice A n c] 28)).alloc (Obj.cells #[Value.slice A1 n1 c1, Value.slice A2 n2 c2, Value.slice A3 n3 c3] 43)).alloc (Obj.cells #[Value.slice none 0 0, Value.slice none 0 0, Value.slice A1 n1 c1, Value.int IntKind.i64 f.W] 86)) (w.heap.size + 1 + 1) 86 #[Value.slice none 0 0, Value.slice none 0 0, Value.slice A1 n1 c1, Value.int IntKind.i64 f.W] := by
    simpa only [World.size_alloc] using Blk.new ((w.alloc (Obj.cells #[Value.int IntKind.i64 f.W, Value.int IntKind.i64 f.H, Value.slice A n c] 28)).alloc (Obj.cells #[Value.slice A1 n1 c1, Value.slice A2 n2 c2, Value.slice A3 n3 c3] 43)) 86 #[Value.slice none 0 0, Value.slice none 0 0, Value.slice A1 n1 c1, Value.int IntKind.i64 f.W]
  have hz0' : w.heap.size ≤ (((w.alloc (Obj.cells #[Value.int IntKind.i64 f.W, Value.int IntKind.i64 f.H, Value.slice A n c] 28)).alloc (Obj.cells #[Value.slice A1 n1 c1, Value.slice A2 n2 c2, Value.slice A3 n3 c3] 43)).alloc (Obj.cells #[Value.slice none 0 0, Value.slice none 0 0, Value.slice A1 n1 c1, Value.int IntKind.i64 f.W] 86)).heap.size := by simp; omega
  generalize ((w.alloc (Obj.cells #[Value.int IntKind.i64 f.W, Value.int IntKind.i64 f.H, Value.slice A n c] 28)).alloc (Obj.cells #[Value.slice A1 n1 c1, Value.slice A2 n2 c2, Value.slice A3 n3 c3] 43)).alloc (Obj.cells #[Value.slice none 0 0, Value.slice none 0 0, Value.slice A1 n1 c1, Value.int IntKind.i64 f.W] 86) = W0 at *
  generalize hdg : w.heap.size + 1 + 1 = dg at *
  have HDG := Lib.hid hdg
  clear hdg
  go_loopg [17] n (fun gg s17 wr => ∃ (k : Nat) (va vb : Value), k ≤ n ∧ n - k ≤ gg ∧ s17 = .int .i64 k ∧ Hid (Blk wr dg 86 #[va, vb, Value.slice A1 n1 c1, Value.int IntKind.i64 f.W]) ∧
      Hid (wr.ownsRow w.heap.size 88 2 va k (prs ((f.ps.take k).map fun p => (p.x, p.x + p.w)))) ∧ Hid (wr.ownsRow w.heap.size 88 2 vb k (prs ((f.ps.take k).map fun p => (p.y, p.y + p.h)))) ∧
      Hid (Apart2 va vb) ∧ Hid (Below w.heap.size w wr) ∧ Hid (w.heap.size ≤ wr.heap.size))
  case atStart => exact ⟨0, _, _, Nat.zero_le _, by omega, rfl, hD0, World.ownsRow_nil _ _ _ _, World.ownsRow_nil _ _ _ _, .inl rfl, hB0, hz0'⟩
  case round =>
    obtain ⟨k, va, vb, hk, hg, rfl, D0, R1, R2, SP, BW, ZW⟩ := hrel
    clear hB0 hD0 hz0'
    by_cases hlt : k < n
    · have hltz : (k : Int) < (n : Int) := by omega
      obtain ⟨rfl, hb⟩ := hA (by omega)
      obtain ⟨q0, q1, q2, q3, q4, q5⟩ := (hps k (by rw [HN.out]; omega)).below BW.out hb
      have hin := hsm k hlt
      have hts := HTS.out k hlt
      generalize gp f.ps k = p at *
      obtain ⟨i1, i2, i3, i4, i5, i6⟩ := hin
      have e1 : IntKind.i64.wrap (p.x + p.w) = p.x + p.w := IntWalk.i64_in _ (by omega)
      have e2 : IntKind.i64.wrap (p.y + p.h) = p.y + p.h := IntWalk.i64_in _ (by omega)
      have HXS : Hid (prs ((f.ps.take (k + 1)).map fun p => (p.x, p.x + p.w)) = prs ((f.ps.take k).map fun p => (p.x, p.x + p.w)) ++ [.int .i64 p.x, .int .i64 (p.x + p.w)]) := by
        show _ = _
        rw [hts]; simp [prs]
      have HYS : Hid (prs ((f.ps.take (k + 1)).map fun p => (p.y, p.y + p.h)) = prs ((f.ps.take k).map fun p => (p.y, p.y + p.h)) ++ [.int .i64 p.y, .int .i64 (p.y + p.h)]) := by
        show _ = _
        rw [hts]; simp [prs]
      clear hA hps hsm hts HTS
      generalize prs ((f.ps.take k).map fun p => (p.x, p.x + p.w)) = xs at *
      generalize prs ((f.ps.take k).map fun p => (p.y, p.y + p.h)) = ys at *
      go_wp2_with fail
      have H0 : Hid (AcR w w.heap.size dg wr.heap.size va vb (Value.slice A1 n1 c1) (.int .i64 f.W) p va k xs vb k ys (wr.alloc (Obj.cells (pcs p) 60)).drew) :=
        ⟨(Below.heap_alloc wr _ dg D0.out.lt).trans D0.out, Blk.new wr 60 (pcs p), R1.out.alloc _, R2.out.alloc _, SP.out, (BW.out.alloc ZW.out _).drew, by have := ZW.out; simp; omega, by have := HDG.out; omega⟩
      have hsz : Hid ((wr.alloc (Obj.cells (pcs p) 60)).drew.heap.size = wr.heap.size + 1) := by show _ = _; simp [World.drew]
      clear D0 R1 R2 SP BW ZW q0 q1 q2 q3 q4 q5
      have hS := H0.out.cells
      refine wp_region_split1 (fun w' => (w'.cell? ⟨dg, 0, none⟩ = some va ∧ w'.cell? ⟨dg, 1, none⟩ = some vb ∧ w'.cell? ⟨wr.heap.size, 2, none⟩ = some (.int .i64 p.x) ∧ w'.cell? ⟨wr.heap.size, 3, none⟩ = some (.int .i64 p.y) ∧ w'.cell? ⟨wr.heap.size, 4, none⟩ = some (.int .i64 p.w) ∧ w'.cell? ⟨wr.heap.size, 5, none⟩ = some (.int .i64 p.h))) 30 1 (ve := ?_) (by kernel_rfl) (by decide) (by decide) rfl (by kernel_rfl) (fun _ _ _ h => h) (Or.inl ⟨by rfl, ?_⟩) ?_
      rotate_left
      · intro w; go_simp; (try with_reducible rfl)
      (try simp only [Act.put, List.setIfInBounds_toArray, List.set_cons_zero, List.set_cons_succ, Nat.reduceSub])
      refine wpG_take 30 0 (v := ?_) rfl (by kernel_rfl) (fun _ _ _ h => h) (Or.inl ⟨by rfl, ?_⟩) (by assumption) ?_
      rotate_left
      · intro w hSw; (try dsimp only at hSw); go_simp; (try with_reducible rfl)
      (try simp only [Act.put, List.setIfInBounds_toArray, List.set_cons_zero, List.set_cons_succ])
      refine wpG_take 30 2 (v := ?_) rfl (by kernel_rfl) (fun _ _ _ h => h) (Or.inl ⟨by rfl, ?_⟩) (by assumption) ?_
      rotate_left
      · intro w hSw; (try dsimp only at hSw); go_simp; (try with_reducible rfl)
      (try simp only [Act.put, List.setIfInBounds_toArray, List.set_cons_zero, List.set_cons_succ])
      refine wpG_take 30 3 (v := ?_) rfl (by kernel_rfl) (fun _ _ _ h => h) (Or.inl ⟨by rfl, ?_⟩) (by assumption) ?_
      rotate_left
      · intro w hSw; (try dsimp only at hSw); go_simp; (try with_reducible rfl)
      (try simp only [Act.put, List.setIfInBounds_toArray, List.set_cons_zero, List.set_cons_succ])
      refine wpG_take 30 4 (v := ?_) rfl (by kernel_rfl) (fun _ _ _ h => h) (Or.inl ⟨by rfl, ?_⟩) (by assumption) ?_
      rotate_left
      · intro w hSw; (try dsimp only at hSw); go_simp; (try with_reducible rfl)
      (try simp only [Act.put, List.setIfInBounds_toArray, List.set_cons_zero, List.set_cons_succ])
      refine wpG_take 30 5 (v := ?_) rfl (by kernel_rfl) (fun _ _ _ h => h) (Or.inl ⟨by rfl, ?_⟩) (by assumption) ?_
      rotate_left
      · intro w hSw; (try dsimp only at hSw); go_simp; (try with_reducible rfl)
      (try simp only [Act.put, List.setIfInBounds_toArray, List.set_cons_zero, List.set_cons_succ])
      refine wpG_take 30 6 (v := ?_) rfl (by kernel_rfl) (fun _ _ _ h => h) (Or.inl ⟨by rfl, ?_⟩) (by assumption) ?_
      rotate_left
      · intro w hSw; (try dsimp only at hSw); go_simp; (try with_reducible rfl)
      (try simp only [Act.put, List.setIfInBounds_toArray, List.set_cons_zero, List.set_cons_succ])
      refine wpG_take 30 7 (v := ?_) rfl (by kernel_rfl) (fun _ _ _ h => h) (Or.inl ⟨by rfl, ?_⟩) (by assumption) ?_
      rotate_left
      · intro w hSw; (try dsimp only at hSw); go_simp; (try with_reducible rfl)
      (try simp only [Act.put, List.setIfInBounds_toArray, List.set_cons_zero, List.set_cons_succ])
      refine wpG_take 30 8 (v := ?_) rfl (by kernel_rfl) (fun _ _ _ h => h) (Or.inl ⟨by rfl, ?_⟩) (by assumption) ?_
      rotate_left
      · intro w hSw; (try dsimp only at hSw); go_simp; (try with_reducible rfl)
      (try simp only [Act.put, List.setIfInBounds_toArray, List.set_cons_zero, List.set_cons_succ])
      refine wpG_take 30 9 (v := ?_) rfl (by kernel_rfl) (fun _ _ _ h => h) (Or.inl ⟨by rfl, ?_⟩) (by assumption) ?_
      rotate_left
      · intro w hSw; (try dsimp only at hSw); go_simp; (try with_reducible rfl)
      (try simp only [Act.put, List.setIfInBounds_toArray, List.set_cons_zero, List.set_cons_succ])
      refine wpG_take 30 10 (v := ?_) rfl (by kernel_rfl) (fun _ _ _ h => h) (Or.inl ⟨by rfl, ?_⟩) (by assumption) ?_
      rotate_left
      · intro w hSw; (try dsimp only at hSw); go_simp; (try with_reducible rfl)
      (try simp only [Act.put, List.setIfInBounds_toArray, List.set_cons_zero, List.set_cons_succ])
      refine wpG_take 30 11 (v := ?_) rfl (by kernel_rfl) (fun _ _ _ h => h) (Or.inl ⟨by rfl, ?_⟩) (by assumption) ?_
      rotate_left
      · intro w hSw; (try dsimp only at hSw); go_simp; (try with_reducible rfl)
      (try simp only [Act.put, List.setIfInBounds_toArray, List.set_cons_zero, List.set_cons_succ])
      refine wpG_take 30 12 (v := ?_) rfl (by kernel_rfl) (fun _ _ _ h => h) (Or.inl ⟨by rfl, ?_⟩) (by assumption) ?_
      rotate_left
      · intro w hSw; (try dsimp only at hSw); go_simp; (try with_reducible rfl)
      (try simp only [Act.put, List.setIfInBounds_toArray, List.set_cons_zero, List.set_cons_succ])
      refine wpG_take 30 13 (v := ?_) rfl (by kernel_rfl) (fun _ _ _ h => h) (Or.inl ⟨by rfl, ?_⟩) (by assumption) ?_
      rotate_left
      · intro w hSw; (try dsimp only at hSw); go_simp; (try with_reducible rfl)
      (try simp only [Act.put, List.setIfInBounds_toArray, List.set_cons_zero, List.set_cons_succ])
      refine wpG_take 30 16 (v := ?_) rfl (by kernel_rfl) (fun _ _ _ h => h) (Or.inl ⟨by rfl, ?_⟩) (by assumption) ?_
      rotate_left
      · intro w hSw; (try dsimp only at hSw); go_simp; (try with_reducible rfl)
      (try simp only [Act.put, List.setIfInBounds_toArray, List.set_cons_zero, List.set_cons_succ])
      refine wpG_take 30 17 (v := ?_) rfl (by kernel_rfl) (fun _ _ _ h => h) (Or.inl ⟨by rfl, ?_⟩) (by assumption) ?_
      rotate_left
      · intro w hSw; (try dsimp only at hSw); go_simp; (try with_reducible rfl)
      (try simp only [Act.put, List.setIfInBounds_toArray, List.set_cons_zero, List.set_cons_succ])
      refine wpG_take 30 18 (v := ?_) rfl (by kernel_rfl) (fun _ _ _ h => h) (Or.inl ⟨by rfl, ?_⟩) (by assumption) ?_
      rotate_left
      · intro w hSw; (try dsimp only at hSw); go_simp; (try with_reducible rfl)
      (try simp only [Act.put, List.setIfInBounds_toArray, List.set_cons_zero, List.set_cons_succ])
      refine wpG_take 30 19 (v := ?_) rfl (by kernel_rfl) (fun _ _ _ h => h) (Or.inl ⟨by rfl, ?_⟩) (by assumption) ?_
      rotate_left
      · intro w hSw; (try dsimp only at hSw); go_simp; (try with_reducible rfl)
      (try simp only [Act.put, List.setIfInBounds_toArray, List.set_cons_zero, List.set_cons_succ])
      refine wpG_take 30 20 (v := ?_) rfl (by kernel_rfl) (fun _ _ _ h => h) (Or.inl ⟨by rfl, ?_⟩) (by assumption) ?_
      rotate_left
      · intro w hSw; (try dsimp only at hSw); go_simp; (try with_reducible rfl)
      (try simp only [Act.put, List.setIfInBounds_toArray, List.set_cons_zero, List.set_cons_succ])
      refine wpG_take 30 21 (v := ?_) rfl (by kernel_rfl) (fun _ _ _ h => h) (Or.inl ⟨by rfl, ?_⟩) (by assumption) ?_
      rotate_left
      · intro w hSw; (try dsimp only at hSw); go_simp; (try with_reducible rfl)
      (try simp only [Act.put, List.setIfInBounds_toArray, List.set_cons_zero, List.set_cons_succ])
      refine wpG_take 30 22 (v := ?_) rfl (by kernel_rfl) (fun _ _ _ h => h) (Or.inl ⟨by rfl, ?_⟩) (by assumption) ?_
      rotate_left
      · intro w hSw; (try dsimp only at hSw); go_simp; (try with_reducible rfl)
      (try simp only [Act.put, List.setIfInBounds_toArray, List.set_cons_zero, List.set_cons_succ])
      refine wpG_take 30 23 (v := ?_) rfl (by kernel_rfl) (fun _ _ _ h => h) (Or.inl ⟨by rfl, ?_⟩) (by assumption) ?_
      rotate_left
      · intro w hSw; (try dsimp only at hSw); go_simp; (try with_reducible rfl)
      (try simp only [Act.put, List.setIfInBounds_toArray, List.set_cons_zero, List.set_cons_succ])
      refine wpG_take 30 24 (v := ?_) rfl (by kernel_rfl) (fun _ _ _ h => h) (Or.inl ⟨by rfl, ?_⟩) (by assumption) ?_
      rotate_left
      · intro w hSw; (try dsimp only at hSw); go_simp; (try with_reducible rfl)
      (try simp only [Act.put, List.setIfInBounds_toArray, List.set_cons_zero, List.set_cons_succ])
      refine wpG_take 30 25 (v := ?_) rfl (by kernel_rfl) (fun _ _ _ h => h) (Or.inl ⟨by rfl, ?_⟩) (by assumption) ?_
      rotate_left
      · intro w hSw; (try dsimp only at hSw); go_simp; (try with_reducible rfl)
      (try simp only [Act.put, List.setIfInBounds_toArray, List.set_cons_zero, List.set_cons_succ])
      refine wpG_take 30 26 (v := ?_) rfl (by kernel_rfl) (fun _ _ _ h => h) (Or.inl ⟨by rfl, ?_⟩) (by assumption) ?_
      rotate_left
      · intro w hSw; (try dsimp only at hSw); go_simp; (try with_reducible rfl)
      (try simp only [Act.put, List.setIfInBounds_toArray, List.set_cons_zero, List.set_cons_succ])
      refine wpG_take 30 27 (v := ?_) rfl (by kernel_rfl) (fun _ _ _ h => h) (Or.inl ⟨by rfl, ?_⟩) (by assumption) ?_
      rotate_left
      · intro w hSw; (try dsimp only at hSw); go_simp; (try with_reducible rfl)
      (try simp only [Act.put, List.setIfInBounds_toArray, List.set_cons_zero, List.set_cons_succ])
      clear hS e1 e2
      refine wpG_gen (fun W => AcR w w.heap.size dg wr.heap.size va vb (Value.slice A1 n1 c1) (.int .i64 f.W) p va k xs vb k ys W) H0.out fun V0 hV0 => ?_
      have H := Lib.hid hV0
      clear hV0 H0 hsz
      have nva : Hid (∀ t, V0.heap.size ≤ t → some t ≠ va.ownBlock) := fun t ht he => by have := (H.out.R1.lt t he.symm).2; omega
      refine wpG_two (i := 14) (k := 28) (by kernel_rfl) ?_ ?_
      · refine wpOp_step rfl (fun K hK => ?_)
        go_simp
        refine hK _ _ ⟨(H.out.keep (grown_alloc _ _ _)).cells, ?_⟩
        clear hK K
        (try simp only [Act.put, List.setIfInBounds_toArray, List.set_cons_zero, List.set_cons_succ])
        obtain ⟨T1, hT1e⟩ : ∃ x, V0.heap.size = x := ⟨_, rfl⟩
        rw [hT1e]
        refine wpG_gen (fun W => AcR w w.heap.size dg wr.heap.size va vb (Value.slice A1 n1 c1) (.int .i64 f.W) p va k xs vb k ys W ∧ Blk W T1 88 #[.int .i64 p.x, .int .i64 (p.x + p.w)]) ⟨H.out.keep (grown_alloc _ _ _), by rw [← hT1e]; exact Blk.new _ _ _⟩ fun V1 hV => ?_
        obtain ⟨hV1, hT1⟩ := hV
        have hTT := hT1e ▸ nva.out
        clear H hT1e nva
        have nva := Lib.hid hTT
        have H := Lib.hid hV1
        have HT1 := Lib.hid hT1
        clear hV1 hT1 hTT
        have hlt1 := Lib.hid HT1.out.lt
        refine wpG_two (i := 15) (k := 28) (by kernel_rfl) ?_ ?_
        · refine wpOp_step rfl (fun K hK => ?_)
          refine step_append_lies _ rfl (.tmp 26) (.tmp 35) 84 rfl w.heap.size 88 i0 _ 2 16 Tryd.underlying84 hi0 hz0 hz1 hz2 rfl (by omega) va k xs rfl H.out.R1 ⟨T1, 0, none⟩ 1 1 [.int .i64 p.x, .int .i64 (p.x + p.w)] rfl rfl (World.news_of_block HT1.out) (by simp [Value.oneCell']) (by omega) (by simp only [maxLen]; omega) (by omega) H.out.hb _ rfl ?_
          intro g1 cap1 W1 hown hgrow hat _
          refine hK _ _ ⟨(H.out.app1 hgrow hat hown).cells, ?_⟩
          clear hK K
          (try simp only [Act.put, List.setIfInBounds_toArray, List.set_cons_zero, List.set_cons_succ])
          have H' := Lib.hid (H.out.app1 hgrow hat hown)
          clear hown hgrow hat H HT1 nva hlt1
          have H := Lib.hid H'.out
          clear H'
          refine wpG_one (i := 28) (by kernel_rfl) ?_
          refine wpOp_step rfl (fun K hK => ?_)
          go_simp
          refine hK _ _ ⟨(H.out.keep (grown_alloc _ _ _)).cells, ?_⟩
          clear hK K
          (try simp only [Act.put, List.setIfInBounds_toArray, List.set_cons_zero, List.set_cons_succ])
          obtain ⟨T2, hT2e⟩ : ∃ x, W1.heap.size = x := ⟨_, rfl⟩
          rw [hT2e]
          refine wpG_gen (fun W => AcR w w.heap.size dg wr.heap.size va vb (Value.slice A1 n1 c1) (.int .i64 f.W) p (.slice (some ⟨g1, 0, none⟩) (k + 1) cap1) (k + 1) (xs ++ [.int .i64 p.x, .int .i64 (p.x + p.w)]) vb k ys W ∧ Blk W T2 88 #[.int .i64 p.y, .int .i64 (p.y + p.h)]) ⟨H.out.keep (grown_alloc _ _ _), by rw [← hT2e]; exact Blk.new _ _ _⟩ fun V2 hV => ?_
          obtain ⟨hV1, hT2⟩ := hV
          clear H hT2e
          have H := Lib.hid hV1
          have HT2 := Lib.hid hT2
          clear hV1 hT2
          refine wpG_one (i := 29) (by kernel_rfl) ?_
          refine wpOp_step rfl (fun K hK => ?_)
          refine step_append_lies _ rfl (.tmp 40) (.tmp 49) 84 rfl w.heap.size 88 i0 _ 2 16 Tryd.underlying84 hi0 hz0 hz1 hz2 rfl (by omega) vb k ys rfl H.out.R2 ⟨T2, 0, none⟩ 1 1 [.int .i64 p.y, .int .i64 (p.y + p.h)] rfl rfl (World.news_of_block HT2.out) (by simp [Value.oneCell']) (by omega) (by simp only [maxLen]; omega) (by omega) H.out.hb _ rfl ?_
          intro g2 cap2 W2 hown hgrow hat _
          refine hK _ _ ⟨(H.out.app2 hgrow hat hown).cells, ?_⟩
          clear hK K
          (try simp only [Act.put, List.setIfInBounds_toArray, List.set_cons_zero, List.set_cons_succ])
          have H2 := Lib.hid (H.out.app2 hgrow hat hown)
          clear hown hgrow hat H HT2
          refine ⟨by kernel_rfl, ?_⟩
          have HS := Lib.hid ((H2.out.set0 (.slice (some ⟨g1, 0, none⟩) (k + 1) cap1)).set1 (.slice (some ⟨g2, 0, none⟩) (k + 1) cap2))
          have d0 := H2.out.D.cell 0
          have d1 := H2.out.D.cell 1
          have f0 := H2.out.D.frozen 0
          have f1 := H2.out.D.frozen 1
          simp only [List.drop_succ_cons, List.drop_zero]
          go_wp2_with fail
          go_roundg (n - (k + 1))
          case measure => omega
          case rel =>
            refine ⟨k + 1, _, _, by omega, by omega, by go_num, HS.out.D, ?_, ?_, HS.out.sp, HS.out.bw, HS.out.hb⟩
            · show World.ownsRow _ _ _ _ _ _ _
              rw [HXS.out]; exact HS.out.R1
            · show World.ownsRow _ _ _ _ _ _ _
              rw [HYS.out]; exact HS.out.R2
        · refine wpOp_step rfl (fun K hK => ?_)
          go_simp
          refine hK _ _ ⟨(H.out.keep (grown_alloc _ _ _)).cells, ?_⟩
          clear hK K
          (try simp only [Act.put, List.setIfInBounds_toArray, List.set_cons_zero, List.set_cons_succ])
          obtain ⟨T2, hT2e⟩ : ∃ x, V1.heap.size = x := ⟨_, rfl⟩
          rw [hT2e]
          refine wpG_gen (fun W => AcR w w.heap.size dg wr.heap.size va vb (Value.slice A1 n1 c1) (.int .i64 f.W) p va k xs vb k ys W ∧ Blk W T2 88 #[.int .i64 p.y, .int .i64 (p.y + p.h)] ∧ Blk W T1 88 #[.int .i64 p.x, .int .i64 (p.x + p.w)]) ⟨H.out.keep (grown_alloc _ _ _), by rw [← hT2e]; exact Blk.new _ _ _, HT1.out.grown (grown_alloc _ _ none) (by simp)⟩ fun V2 hV => ?_
          obtain ⟨hV1, hT2, hT1⟩ := hV
          have hn2 := nva.out T2 (by have := hlt1.out; omega)
          clear H hT2e HT1 nva hlt1
          have H := Lib.hid hV1
          have HT1 := Lib.hid hT1
          have HT2 := Lib.hid hT2
          have HN2 := Lib.hid hn2
          clear hV1 hT1 hT2 hn2
          refine wpG_one (i := 15) (by kernel_rfl) ?_
          refine wpOp_step rfl (fun K hK => ?_)
          refine step_append_lies _ rfl (.tmp 26) (.tmp 35) 84 rfl w.heap.size 88 i0 _ 2 16 Tryd.underlying84 hi0 hz0 hz1 hz2 rfl (by omega) va k xs rfl H.out.R1 ⟨T1, 0, none⟩ 1 1 [.int .i64 p.x, .int .i64 (p.x + p.w)] rfl rfl (World.news_of_block HT1.out) (by simp [Value.oneCell']) (by omega) (by simp only [maxLen]; omega) (by omega) H.out.hb _ rfl ?_
          intro g1 cap1 W1 hown hgrow hat _
          refine hK _ _ ⟨(H.out.app1 hgrow hat hown).cells, ?_⟩
          clear hK K
          (try simp only [Act.put, List.setIfInBounds_toArray, List.set_cons_zero, List.set_cons_succ])
          have H' := Lib.hid (H.out.app1 hgrow hat hown)
          have HT2' := Lib.hid (HT2.out.grown hgrow HN2.out)
          clear hown hgrow hat H HT1 HT2 HN2
          have H := Lib.hid H'.out
          have HT2 := Lib.hid HT2'.out
          clear H' HT2'
          refine wpG_one (i := 29) (by kernel_rfl) ?_
          refine wpOp_step rfl (fun K hK => ?_)
          refine step_append_lies _ rfl (.tmp 40) (.tmp 49) 84 rfl w.heap.size 88 i0 _ 2 16 Tryd.underlying84 hi0 hz0 hz1 hz2 rfl (by omega) vb k ys rfl H.out.R2 ⟨T2, 0, none⟩ 1 1 [.int .i64 p.y, .int .i64 (p.y + p.h)] rfl rfl (World.news_of_block HT2.out) (by simp [Value.oneCell']) (by omega) (by simp only [maxLen]; omega) (by omega) H.out.hb _ rfl ?_
          intro g2 cap2 W2 hown hgrow hat _
          refine hK _ _ ⟨(H.out.app2 hgrow hat hown).cells, ?_⟩
          clear hK K
          (try simp only [Act.put, List.setIfInBounds_toArray, List.set_cons_zero, List.set_cons_succ])
          have H2 := Lib.hid (H.out.app2 hgrow hat hown)
          clear hown hgrow hat H HT2
          refine ⟨by kernel_rfl, ?_⟩
          have HS := Lib.hid ((H2.out.set0 (.slice (some ⟨g1, 0, none⟩) (k + 1) cap1)).set1 (.slice (some ⟨g2, 0, none⟩) (k + 1) cap2))
          have d0 := H2.out.D.cell 0
          have d1 := H2.out.D.cell 1
          have f0 := H2.out.D.frozen 0
          have f1 := H2.out.D.frozen 1
          simp only [List.drop_succ_cons, List.drop_zero]
          go_wp2_with fail
          go_roundg (n - (k + 1))
          case measure => omega
          case rel =>
            refine ⟨k + 1, _, _, by omega, by omega, by go_num, HS.out.D, ?_, ?_, HS.out.sp, HS.out.bw, HS.out.hb⟩
            · show World.ownsRow _ _ _ _ _ _ _
              rw [HXS.out]; exact HS.out.R1
            · show World.ownsRow _ _ _ _ _ _ _
              rw [HYS.out]; exact HS.out.R2
      · refine wpOp_step rfl (fun K hK => ?_)
        go_simp
        refine hK _ _ ⟨(H.out.keep (grown_alloc _ _ _)).cells, ?_⟩
        clear hK K
        (try simp only [Act.put, List.setIfInBounds_toArray, List.set_cons_zero, List.set_cons_succ])
        obtain ⟨T2, hT2e⟩ : ∃ x, V0.heap.size = x := ⟨_, rfl⟩
        rw [hT2e]
        refine wpG_gen (fun W => AcR w w.heap.size dg wr.heap.size va vb (Value.slice A1 n1 c1) (.int .i64 f.W) p va k xs vb k ys W ∧ Blk W T2 88 #[.int .i64 p.y, .int .i64 (p.y + p.h)]) ⟨H.out.keep (grown_alloc _ _ _), by rw [← hT2e]; exact Blk.new _ _ _⟩ fun V1 hV => ?_
        obtain ⟨hV1, hT2⟩ := hV
        have hn2 := nva.out T2 (by omega)
        clear H hT2e nva
        have H := Lib.hid hV1
        have HT2 := Lib.hid hT2
        have HN2 := Lib.hid hn2
        clear hV1 hT2 hn2
        refine wpG_one (i := 14) (by kernel_rfl) ?_
        refine wpOp_step rfl (fun K hK => ?_)
        go_simp
        refine hK _ _ ⟨(H.out.keep (grown_alloc _ _ _)).cells, ?_⟩
        clear hK K
        (try simp only [Act.put, List.setIfInBounds_toArray, List.set_cons_zero, List.set_cons_succ])
        obtain ⟨T1, hT1e⟩ : ∃ x, V1.heap.size = x := ⟨_, rfl⟩
        rw [hT1e]
        refine wpG_gen (fun W => AcR w w.heap.size dg wr.heap.size va vb (Value.slice A1 n1 c1) (.int .i64 f.W) p va k xs vb k ys W ∧ Blk W T1 88 #[.int .i64 p.x, .int .i64 (p.x + p.w)] ∧ Blk W T2 88 #[.int .i64 p.y, .int .i64 (p.y + p.h)]) ⟨H.out.keep (grown_alloc _ _ _), by rw [← hT1e]; exact Blk.new _ _ _, HT2.out.grown (grown_alloc _ _ none) (by simp)⟩ fun V2 hV => ?_
        obtain ⟨hV1, hT1, hT2⟩ := hV
        clear H hT1e HT2
        have H := Lib.hid hV1
        have HT1 := Lib.hid hT1
        have HT2 := Lib.hid hT2
        clear hV1 hT1 hT2
        refine wpG_one (i := 15) (by kernel_rfl) ?_
        refine wpOp_step rfl (fun K hK => ?_)
        refine step_append_lies _ rfl (.tmp 26) (.tmp 35) 84 rfl w.heap.size 88 i0 _ 2 16 Tryd.underlying84 hi0 hz0 hz1 hz2 rfl (by omega) va k xs rfl H.out.R1 ⟨T1, 0, none⟩ 1 1 [.int .i64 p.x, .int .i64 (p.x + p.w)] rfl rfl (World.news_of_block HT1.out) (by simp [Value.oneCell']) (by omega) (by simp only [maxLen]; omega) (by omega) H.out.hb _ rfl ?_
        intro g1 cap1 W1 hown hgrow hat _
        refine hK _ _ ⟨(H.out.app1 hgrow hat hown).cells, ?_⟩
        clear hK K
        (try simp only [Act.put, List.setIfInBounds_toArray, List.set_cons_zero, List.set_cons_succ])
        have H' := Lib.hid (H.out.app1 hgrow hat hown)
        have HT2' := Lib.hid (HT2.out.grown hgrow HN2.out)
        clear hown hgrow hat H HT1 HT2 HN2
        have H := Lib.hid H'.out
        have HT2 := Lib.hid HT2'.out
        clear H' HT2'
        refine wpG_one (i := 29) (by kernel_rfl) ?_
        refine wpOp_step rfl (fun K hK => ?_)
        refine step_append_lies _ rfl (.tmp 40) (.tmp 49) 84 rfl w.heap.size 88 i0 _ 2 16 Tryd.underlying84 hi0 hz0 hz1 hz2 rfl (by omega) vb k ys rfl H.out.R2 ⟨T2, 0, none⟩ 1 1 [.int .i64 p.y, .int .i64 (p.y + p.h)] rfl rfl (World.news_of_block HT2.out) (by simp [Value.oneCell']) (by omega) (by simp only [maxLen]; omega) (by omega) H.out.hb _ rfl ?_
        intro g2 cap2 W2 hown hgrow hat _
        refine hK _ _ ⟨(H.out.app2 hgrow hat hown).cells, ?_⟩
        clear hK K
        (try simp only [Act.put, List.setIfInBounds_toArray, List.set_cons_zero, List.set_cons_succ])
        have H2 := Lib.hid (H.out.app2 hgrow hat hown)
        clear hown hgrow hat H HT2
        refine ⟨by kernel_rfl, ?_⟩
        have HS := Lib.hid ((H2.out.set0 (.slice (some ⟨g1, 0, none⟩) (k + 1) cap1)).set1 (.slice (some ⟨g2, 0, none⟩) (k + 1) cap2))
        have d0 := H2.out.D.cell 0
        have d1 := H2.out.D.cell 1
        have f0 := H2.out.D.frozen 0
        have f1 := H2.out.D.frozen 1
        simp only [List.drop_succ_cons, List.drop_zero]
        go_wp2_with fail
        go_roundg (n - (k + 1))
        case measure => omega
        case rel =>
          refine ⟨k + 1, _, _, by omega, by omega, by go_num, HS.out.D, ?_, ?_, HS.out.sp, HS.out.bw, HS.out.hb⟩
          · show World.ownsRow _ _ _ _ _ _ _
            rw [HXS.out]; exact HS.out.R1
          · show World.ownsRow _ _ _ _ _ _ _
            rw [HYS.out]; exact HS.out.R2
    · have hltz : ¬ (k : Int) < (n : Int) := by omega
      have he : k = n := by omega
      subst he
      clear hA hps hsm HTS
      have R1' := Lib.hid R1.out
      have R2' := Lib.hid R2.out
      clear R1 R2
      rw [HALL.out] at R1' R2'
      go_wp2_with fail
      go_ret
      exact ⟨dg, va, vb, rfl, by have := HDG.out; omega, D0.out, R1'.out, R2'.out, BW.out⟩

set_option maxRecDepth 100000 in
set_option maxHeartbeats 4000000 in
theorem down_any (f : Forme) (A A1 A2 A3 : Option Addr) (b off c n1 c1 n2 c2 n3 c3 : Nat) (w : World) (hA : Lies A f.ps.length w.heap.size b off) (hps : PsAt w b off f.ps) (hm : f.ps.length ≤ 1000)
    (hsm : ∀ i, i < f.ps.length → (gp f.ps i).inn f.W f.H) (hW : f.W ≤ 4000) (hH : f.H ≤ 4000) :
    Calls Tryd.prog 29 #[.agg #[.int .i64 f.W, .int .i64 f.H, .slice A f.ps.length c], .agg #[.slice A1 n1 c1, .slice A2 n2 c2, .slice A3 n3 c3]] w
      (AcPost w f.ps.length (f.ps.map fun p => (p.y, p.y + p.h)) (f.ps.map fun p => (p.x, p.x + p.w)) (Value.slice A2 n2 c2) (.int .i64 f.H)) := by
  obtain ⟨i0, hi0, hz0, hz1, hz2⟩ := info_parts Tryd.info88
  have hts : ∀ k, k < f.ps.length → f.ps.take (k + 1) = f.ps.take k ++ [gp f.ps k] := fun k hk => by rw [List.take_succ_eq_append_getElem hk, gp_get hk]
  have hall : f.ps.take f.ps.length = f.ps := List.take_length
  generalize hn : f.ps.length = n at *
  have HN := Lib.hid hn
  have HALL := Lib.hid hall
  have HTS := Lib.hid hts
  clear hn hall hts
  go_enter Tryd.func29, Tryd.ntmps29
  go_wp2_with fail
  have hB0 := (((below_new w (Obj.cells #[Value.int IntKind.i64 f.W, Value.int IntKind.i64 f.H, Value.slice A n c] 28)).alloc (by simp) (Obj.cells #[Value.slice A1 n1 c1, Value.slice A2 n2 c2, Value.slice A3 n3 c3] 43)).alloc (by simp; omega) (Obj.cells #[Value.slice none 0 0, Value.slice none 0 0, Value.slice A2 n2 c2, Value.int IntKind.i64 f.H] 86))
  have hD0 : Blk (((w.alloc (Obj.cells #[Value.int IntKind.i64 f.W, Value.int IntKind.i64 f.H, Value.slice A n c] 28)).alloc (Obj.cells #[Value.slice A1 n1 c1, Value.slice A2 n2 c2, Value.slice A3 n3 c3] 43)).alloc (Obj.cells #[Value.slice none 0 0, Value.slice none 0 0, Value.slice A2 n2 c2, Value.int IntKind.i64 f.H] 86)) (w.heap.size + 1 + 1) 86 #[Value.slice none 0 0, Value.slice none 0 0, Value.slice A2 n2 c2, Value.int IntKind.i64 f.H] := by
    simpa only [World.size_alloc] using Blk.new ((w.alloc (Obj.cells #[Value.int IntKind.i64 f.W, Value.int IntKind.i64 f.H, Value.slice A n c] 28)).alloc (Obj.cells #[Value.slice A1 n1 c1, Value.slice A2 n2 c2, Value.slice A3 n3 c3] 43)) 86 #[Value.slice none 0 0, Value.slice none 0 0, Value.slice A2 n2 c2, Value.int IntKind.i64 f.H]
  have hz0' : w.heap.size ≤ (((w.alloc (Obj.cells #[Value.int IntKind.i64 f.W, Value.int IntKind.i64 f.H, Value.slice A n c] 28)).alloc (Obj.cells #[Value.slice A1 n1 c1, Value.slice A2 n2 c2, Value.slice A3 n3 c3] 43)).alloc (Obj.cells #[Value.slice none 0 0, Value.slice none 0 0, Value.slice A2 n2 c2, Value.int IntKind.i64 f.H] 86)).heap.size := by simp; omega
  generalize ((w.alloc (Obj.cells #[Value.int IntKind.i64 f.W, Value.int IntKind.i64 f.H, Value.slice A n c] 28)).alloc (Obj.cells #[Value.slice A1 n1 c1, Value.slice A2 n2 c2, Value.slice A3 n3 c3] 43)).alloc (Obj.cells #[Value.slice none 0 0, Value.slice none 0 0, Value.slice A2 n2 c2, Value.int IntKind.i64 f.H] 86) = W0 at *
  generalize hdg : w.heap.size + 1 + 1 = dg at *
  have HDG := Lib.hid hdg
  clear hdg
  go_loopg [17] n (fun gg s17 wr => ∃ (k : Nat) (va vb : Value), k ≤ n ∧ n - k ≤ gg ∧ s17 = .int .i64 k ∧ Hid (Blk wr dg 86 #[va, vb, Value.slice A2 n2 c2, Value.int IntKind.i64 f.H]) ∧
      Hid (wr.ownsRow w.heap.size 88 2 va k (prs ((f.ps.take k).map fun p => (p.y, p.y + p.h)))) ∧ Hid (wr.ownsRow w.heap.size 88 2 vb k (prs ((f.ps.take k).map fun p => (p.x, p.x + p.w)))) ∧
      Hid (Apart2 va vb) ∧ Hid (Below w.heap.size w wr) ∧ Hid (w.heap.size ≤ wr.heap.size))
  case atStart => exact ⟨0, _, _, Nat.zero_le _, by omega, rfl, hD0, World.ownsRow_nil _ _ _ _, World.ownsRow_nil _ _ _ _, .inl rfl, hB0, hz0'⟩
  case round =>
    obtain ⟨k, va, vb, hk, hg, rfl, D0, R1, R2, SP, BW, ZW⟩ := hrel
    clear hB0 hD0 hz0'
    by_cases hlt : k < n
    · have hltz : (k : Int) < (n : Int) := by omega
      obtain ⟨rfl, hb⟩ := hA (by omega)
      obtain ⟨q0, q1, q2, q3, q4, q5⟩ := (hps k (by rw [HN.out]; omega)).below BW.out hb
      have hin := hsm k hlt
      have hts := HTS.out k hlt
      generalize gp f.ps k = p at *
      obtain ⟨i1, i2, i3, i4, i5, i6⟩ := hin
      have e1 : IntKind.i64.wrap (p.x + p.w) = p.x + p.w := IntWalk.i64_in _ (by omega)
      have e2 : IntKind.i64.wrap (p.y + p.h) = p.y + p.h := IntWalk.i64_in _ (by omega)
      have HXS : Hid (prs ((f.ps.take (k + 1)).map fun p => (p.y, p.y + p.h)) = prs ((f.ps.take k).map fun p => (p.y, p.y + p.h)) ++ [.int .i64 p.y, .int .i64 (p.y + p.h)]) := by
        show _ = _
        rw [hts]; simp [prs]
      have HYS : Hid (prs ((f.ps.take (k + 1)).map fun p => (p.x, p.x + p.w)) = prs ((f.ps.take k).map fun p => (p.x, p.x + p.w)) ++ [.int .i64 p.x, .int .i64 (p.x + p.w)]) := by
        show _ = _
        rw [hts]; simp [prs]
      clear hA hps hsm hts HTS
      generalize prs ((f.ps.take k).map fun p => (p.y, p.y + p.h)) = xs at *
      generalize prs ((f.ps.take k).map fun p => (p.x, p.x + p.w)) = ys at *
      go_wp2_with fail
      have H0 : Hid (AcR w w.heap.size dg wr.heap.size va vb (Value.slice A2 n2 c2) (.int .i64 f.H) p va k xs vb k ys (wr.alloc (Obj.cells (pcs p) 60)).drew) :=
        ⟨(Below.heap_alloc wr _ dg D0.out.lt).trans D0.out, Blk.new wr 60 (pcs p), R1.out.alloc _, R2.out.alloc _, SP.out, (BW.out.alloc ZW.out _).drew, by have := ZW.out; simp; omega, by have := HDG.out; omega⟩
      have hsz : Hid ((wr.alloc (Obj.cells (pcs p) 60)).drew.heap.size = wr.heap.size + 1) := by show _ = _; simp [World.drew]
      clear D0 R1 R2 SP BW ZW q0 q1 q2 q3 q4 q5
      have hS := H0.out.cells
      refine wp_region_split1 (fun w' => (w'.cell? ⟨dg, 0, none⟩ = some va ∧ w'.cell? ⟨dg, 1, none⟩ = some vb ∧ w'.cell? ⟨wr.heap.size, 2, none⟩ = some (.int .i64 p.x) ∧ w'.cell? ⟨wr.heap.size, 3, none⟩ = some (.int .i64 p.y) ∧ w'.cell? ⟨wr.heap.size, 4, none⟩ = some (.int .i64 p.w) ∧ w'.cell? ⟨wr.heap.size, 5, none⟩ = some (.int .i64 p.h))) 30 1 (ve := ?_) (by kernel_rfl) (by decide) (by decide) rfl (by kernel_rfl) (fun _ _ _ h => h) (Or.inl ⟨by rfl, ?_⟩) ?_
      rotate_left
      · intro w; go_simp; (try with_reducible rfl)
      (try simp only [Act.put, List.setIfInBounds_toArray, List.set_cons_zero, List.set_cons_succ, Nat.reduceSub])
      refine wpG_take 30 0 (v := ?_) rfl (by kernel_rfl) (fun _ _ _ h => h) (Or.inl ⟨by rfl, ?_⟩) (by assumption) ?_
      rotate_left
      · intro w hSw; (try dsimp only at hSw); go_simp; (try with_reducible rfl)
      (try simp only [Act.put, List.setIfInBounds_toArray, List.set_cons_zero, List.set_cons_succ])
      refine wpG_take 30 2 (v := ?_) rfl (by kernel_rfl) (fun _ _ _ h => h) (Or.inl ⟨by rfl, ?_⟩) (by assumption) ?_
      rotate_left
      · intro w hSw; (try dsimp only at hSw); go_simp; (try with_reducible rfl)
      (try simp only [Act.put, List.setIfInBounds_toArray, List.set_cons_zero, List.set_cons_succ])
      refine wpG_take 30 3 (v := ?_) rfl (by kernel_rfl) (fun _ _ _ h => h) (Or.inl ⟨by rfl, ?_⟩) (by assumption) ?_
      rotate_left
      · intro w hSw; (try dsimp only at hSw); go_simp; (try with_reducible rfl)
      (try simp only [Act.put, List.setIfInBounds_toArray, List.set_cons_zero, List.set_cons_succ])
      refine wpG_take 30 4 (v := ?_) rfl (by kernel_rfl) (fun _ _ _ h => h) (Or.inl ⟨by rfl, ?_⟩) (by assumption) ?_
      rotate_left
      · intro w hSw; (try dsimp only at hSw); go_simp; (try with_reducible rfl)
      (try simp only [Act.put, List.setIfInBounds_toArray, List.set_cons_zero, List.set_cons_succ])
      refine wpG_take 30 5 (v := ?_) rfl (by kernel_rfl) (fun _ _ _ h => h) (Or.inl ⟨by rfl, ?_⟩) (by assumption) ?_
      rotate_left
      · intro w hSw; (try dsimp only at hSw); go_simp; (try with_reducible rfl)
      (try simp only [Act.put, List.setIfInBounds_toArray, List.set_cons_zero, List.set_cons_succ])
      refine wpG_take 30 6 (v := ?_) rfl (by kernel_rfl) (fun _ _ _ h => h) (Or.inl ⟨by rfl, ?_⟩) (by assumption) ?_
      rotate_left
      · intro w hSw; (try dsimp only at hSw); go_simp; (try with_reducible rfl)
      (try simp only [Act.put, List.setIfInBounds_toArray, List.set_cons_zero, List.set_cons_succ])
      refine wpG_take 30 7 (v := ?_) rfl (by kernel_rfl) (fun _ _ _ h => h) (Or.inl ⟨by rfl, ?_⟩) (by assumption) ?_
      rotate_left
      · intro w hSw; (try dsimp only at hSw); go_simp; (try with_reducible rfl)
      (try simp only [Act.put, List.setIfInBounds_toArray, List.set_cons_zero, List.set_cons_succ])
      refine wpG_take 30 8 (v := ?_) rfl (by kernel_rfl) (fun _ _ _ h => h) (Or.inl ⟨by rfl, ?_⟩) (by assumption) ?_
      rotate_left
      · intro w hSw; (try dsimp only at hSw); go_simp; (try with_reducible rfl)
      (try simp only [Act.put, List.setIfInBounds_toArray, List.set_cons_zero, List.set_cons_succ])
      refine wpG_take 30 9 (v := ?_) rfl (by kernel_rfl) (fun _ _ _ h => h) (Or.inl ⟨by rfl, ?_⟩) (by assumption) ?_
      rotate_left
      · intro w hSw; (try dsimp only at hSw); go_simp; (try with_reducible rfl)
      (try simp only [Act.put, List.setIfInBounds_toArray, List.set_cons_zero, List.set_cons_succ])
      refine wpG_take 30 10 (v := ?_) rfl (by kernel_rfl) (fun _ _ _ h => h) (Or.inl ⟨by rfl, ?_⟩) (by assumption) ?_
      rotate_left
      · intro w hSw; (try dsimp only at hSw); go_simp; (try with_reducible rfl)
      (try simp only [Act.put, List.setIfInBounds_toArray, List.set_cons_zero, List.set_cons_succ])
      refine wpG_take 30 11 (v := ?_) rfl (by kernel_rfl) (fun _ _ _ h => h) (Or.inl ⟨by rfl, ?_⟩) (by assumption) ?_
      rotate_left
      · intro w hSw; (try dsimp only at hSw); go_simp; (try with_reducible rfl)
      (try simp only [Act.put, List.setIfInBounds_toArray, List.set_cons_zero, List.set_cons_succ])
      refine wpG_take 30 12 (v := ?_) rfl (by kernel_rfl) (fun _ _ _ h => h) (Or.inl ⟨by rfl, ?_⟩) (by assumption) ?_
      rotate_left
      · intro w hSw; (try dsimp only at hSw); go_simp; (try with_reducible rfl)
      (try simp only [Act.put, List.setIfInBounds_toArray, List.set_cons_zero, List.set_cons_succ])
      refine wpG_take 30 13 (v := ?_) rfl (by kernel_rfl) (fun _ _ _ h => h) (Or.inl ⟨by rfl, ?_⟩) (by assumption) ?_
      rotate_left
      · intro w hSw; (try dsimp only at hSw); go_simp; (try with_reducible rfl)
      (try simp only [Act.put, List.setIfInBounds_toArray, List.set_cons_zero, List.set_cons_succ])
      refine wpG_take 30 16 (v := ?_) rfl (by kernel_rfl) (fun _ _ _ h => h) (Or.inl ⟨by rfl, ?_⟩) (by assumption) ?_
      rotate_left
      · intro w hSw; (try dsimp only at hSw); go_simp; (try with_reducible rfl)
      (try simp only [Act.put, List.setIfInBounds_toArray, List.set_cons_zero, List.set_cons_succ])
      refine wpG_take 30 17 (v := ?_) rfl (by kernel_rfl) (fun _ _ _ h => h) (Or.inl ⟨by rfl, ?_⟩) (by assumption) ?_
      rotate_left
      · intro w hSw; (try dsimp only at hSw); go_simp; (try with_reducible rfl)
      (try simp only [Act.put, List.setIfInBounds_toArray, List.set_cons_zero, List.set_cons_succ])
      refine wpG_take 30 18 (v := ?_) rfl (by kernel_rfl) (fun _ _ _ h => h) (Or.inl ⟨by rfl, ?_⟩) (by assumption) ?_
      rotate_left
      · intro w hSw; (try dsimp only at hSw); go_simp; (try with_reducible rfl)
      (try simp only [Act.put, List.setIfInBounds_toArray, List.set_cons_zero, List.set_cons_succ])
      refine wpG_take 30 19 (v := ?_) rfl (by kernel_rfl) (fun _ _ _ h => h) (Or.inl ⟨by rfl, ?_⟩) (by assumption) ?_
      rotate_left
      · intro w hSw; (try dsimp only at hSw); go_simp; (try with_reducible rfl)
      (try simp only [Act.put, List.setIfInBounds_toArray, List.set_cons_zero, List.set_cons_succ])
      refine wpG_take 30 20 (v := ?_) rfl (by kernel_rfl) (fun _ _ _ h => h) (Or.inl ⟨by rfl, ?_⟩) (by assumption) ?_
      rotate_left
      · intro w hSw; (try dsimp only at hSw); go_simp; (try with_reducible rfl)
      (try simp only [Act.put, List.setIfInBounds_toArray, List.set_cons_zero, List.set_cons_succ])
      refine wpG_take 30 21 (v := ?_) rfl (by kernel_rfl) (fun _ _ _ h => h) (Or.inl ⟨by rfl, ?_⟩) (by assumption) ?_
      rotate_left
      · intro w hSw; (try dsimp only at hSw); go_simp; (try with_reducible rfl)
      (try simp only [Act.put, List.setIfInBounds_toArray, List.set_cons_zero, List.set_cons_succ])
      refine wpG_take 30 22 (v := ?_) rfl (by kernel_rfl) (fun _ _ _ h => h) (Or.inl ⟨by rfl, ?_⟩) (by assumption) ?_
      rotate_left
      · intro w hSw; (try dsimp only at hSw); go_simp; (try with_reducible rfl)
      (try simp only [Act.put, List.setIfInBounds_toArray, List.set_cons_zero, List.set_cons_succ])
      refine wpG_take 30 23 (v := ?_) rfl (by kernel_rfl) (fun _ _ _ h => h) (Or.inl ⟨by rfl, ?_⟩) (by assumption) ?_
      rotate_left
      · intro w hSw; (try dsimp only at hSw); go_simp; (try with_reducible rfl)
      (try simp only [Act.put, List.setIfInBounds_toArray, List.set_cons_zero, List.set_cons_succ])
      refine wpG_take 30 24 (v := ?_) rfl (by kernel_rfl) (fun _ _ _ h => h) (Or.inl ⟨by rfl, ?_⟩) (by assumption) ?_
      rotate_left
      · intro w hSw; (try dsimp only at hSw); go_simp; (try with_reducible rfl)
      (try simp only [Act.put, List.setIfInBounds_toArray, List.set_cons_zero, List.set_cons_succ])
      refine wpG_take 30 25 (v := ?_) rfl (by kernel_rfl) (fun _ _ _ h => h) (Or.inl ⟨by rfl, ?_⟩) (by assumption) ?_
      rotate_left
      · intro w hSw; (try dsimp only at hSw); go_simp; (try with_reducible rfl)
      (try simp only [Act.put, List.setIfInBounds_toArray, List.set_cons_zero, List.set_cons_succ])
      refine wpG_take 30 26 (v := ?_) rfl (by kernel_rfl) (fun _ _ _ h => h) (Or.inl ⟨by rfl, ?_⟩) (by assumption) ?_
      rotate_left
      · intro w hSw; (try dsimp only at hSw); go_simp; (try with_reducible rfl)
      (try simp only [Act.put, List.setIfInBounds_toArray, List.set_cons_zero, List.set_cons_succ])
      refine wpG_take 30 27 (v := ?_) rfl (by kernel_rfl) (fun _ _ _ h => h) (Or.inl ⟨by rfl, ?_⟩) (by assumption) ?_
      rotate_left
      · intro w hSw; (try dsimp only at hSw); go_simp; (try with_reducible rfl)
      (try simp only [Act.put, List.setIfInBounds_toArray, List.set_cons_zero, List.set_cons_succ])
      clear hS e1 e2
      refine wpG_gen (fun W => AcR w w.heap.size dg wr.heap.size va vb (Value.slice A2 n2 c2) (.int .i64 f.H) p va k xs vb k ys W) H0.out fun V0 hV0 => ?_
      have H := Lib.hid hV0
      clear hV0 H0 hsz
      have nva : Hid (∀ t, V0.heap.size ≤ t → some t ≠ va.ownBlock) := fun t ht he => by have := (H.out.R1.lt t he.symm).2; omega
      refine wpG_two (i := 14) (k := 28) (by kernel_rfl) ?_ ?_
      · refine wpOp_step rfl (fun K hK => ?_)
        go_simp
        refine hK _ _ ⟨(H.out.keep (grown_alloc _ _ _)).cells, ?_⟩
        clear hK K
        (try simp only [Act.put, List.setIfInBounds_toArray, List.set_cons_zero, List.set_cons_succ])
        obtain ⟨T1, hT1e⟩ : ∃ x, V0.heap.size = x := ⟨_, rfl⟩
        rw [hT1e]
        refine wpG_gen (fun W => AcR w w.heap.size dg wr.heap.size va vb (Value.slice A2 n2 c2) (.int .i64 f.H) p va k xs vb k ys W ∧ Blk W T1 88 #[.int .i64 p.y, .int .i64 (p.y + p.h)]) ⟨H.out.keep (grown_alloc _ _ _), by rw [← hT1e]; exact Blk.new _ _ _⟩ fun V1 hV => ?_
        obtain ⟨hV1, hT1⟩ := hV
        have hTT := hT1e ▸ nva.out
        clear H hT1e nva
        have nva := Lib.hid hTT
        have H := Lib.hid hV1
        have HT1 := Lib.hid hT1
        clear hV1 hT1 hTT
        have hlt1 := Lib.hid HT1.out.lt
        refine wpG_two (i := 15) (k := 28) (by kernel_rfl) ?_ ?_
        · refine wpOp_step rfl (fun K hK => ?_)
          refine step_append_lies _ rfl (.tmp 26) (.tmp 35) 84 rfl w.heap.size 88 i0 _ 2 16 Tryd.underlying84 hi0 hz0 hz1 hz2 rfl (by omega) va k xs rfl H.out.R1 ⟨T1, 0, none⟩ 1 1 [.int .i64 p.y, .int .i64 (p.y + p.h)] rfl rfl (World.news_of_block HT1.out) (by simp [Value.oneCell']) (by omega) (by simp only [maxLen]; omega) (by omega) H.out.hb _ rfl ?_
          intro g1 cap1 W1 hown hgrow hat _
          refine hK _ _ ⟨(H.out.app1 hgrow hat hown).cells, ?_⟩
          clear hK K
          (try simp only [Act.put, List.setIfInBounds_toArray, List.set_cons_zero, List.set_cons_succ])
          have H' := Lib.hid (H.out.app1 hgrow hat hown)
          clear hown hgrow hat H HT1 nva hlt1
          have H := Lib.hid H'.out
          clear H'
          refine wpG_one (i := 28) (by kernel_rfl) ?_
          refine wpOp_step rfl (fun K hK => ?_)
          go_simp
          refine hK _ _ ⟨(H.out.keep (grown_alloc _ _ _)).cells, ?_⟩
          clear hK K
          (try simp only [Act.put, List.setIfInBounds_toArray, List.set_cons_zero, List.set_cons_succ])
          obtain ⟨T2, hT2e⟩ : ∃ x, W1.heap.size = x := ⟨_, rfl⟩
          rw [hT2e]
          refine wpG_gen (fun W => AcR w w.heap.size dg wr.heap.size va vb (Value.slice A2 n2 c2) (.int .i64 f.H) p (.slice (some ⟨g1, 0, none⟩) (k + 1) cap1) (k + 1) (xs ++ [.int .i64 p.y, .int .i64 (p.y + p.h)]) vb k ys W ∧ Blk W T2 88 #[.int .i64 p.x, .int .i64 (p.x + p.w)]) ⟨H.out.keep (grown_alloc _ _ _), by rw [← hT2e]; exact Blk.new _ _ _⟩ fun V2 hV => ?_
          obtain ⟨hV1, hT2⟩ := hV
          clear H hT2e
          have H := Lib.hid hV1
          have HT2 := Lib.hid hT2
          clear hV1 hT2
          refine wpG_one (i := 29) (by kernel_rfl) ?_
          refine wpOp_step rfl (fun K hK => ?_)
          refine step_append_lies _ rfl (.tmp 40) (.tmp 49) 84 rfl w.heap.size 88 i0 _ 2 16 Tryd.underlying84 hi0 hz0 hz1 hz2 rfl (by omega) vb k ys rfl H.out.R2 ⟨T2, 0, none⟩ 1 1 [.int .i64 p.x, .int .i64 (p.x + p.w)] rfl rfl (World.news_of_block HT2.out) (by simp [Value.oneCell']) (by omega) (by simp only [maxLen]; omega) (by omega) H.out.hb _ rfl ?_
          intro g2 cap2 W2 hown hgrow hat _
          refine hK _ _ ⟨(H.out.app2 hgrow hat hown).cells, ?_⟩
          clear hK K
          (try simp only [Act.put, List.setIfInBounds_toArray, List.set_cons_zero, List.set_cons_succ])
          have H2 := Lib.hid (H.out.app2 hgrow hat hown)
          clear hown hgrow hat H HT2
          refine ⟨by kernel_rfl, ?_⟩
          have HS := Lib.hid ((H2.out.set0 (.slice (some ⟨g1, 0, none⟩) (k + 1) cap1)).set1 (.slice (some ⟨g2, 0, none⟩) (k + 1) cap2))
          have d0 := H2.out.D.cell 0
          have d1 := H2.out.D.cell 1
          have f0 := H2.out.D.frozen 0
          have f1 := H2.out.D.frozen 1
          simp only [List.drop_succ_cons, List.drop_zero]
          go_wp2_with fail
          go_roundg (n - (k + 1))
          case measure => omega
          case rel =>
            refine ⟨k + 1, _, _, by omega, by omega, by go_num, HS.out.D, ?_, ?_, HS.out.sp, HS.out.bw, HS.out.hb⟩
            · show World.ownsRow _ _ _ _ _ _ _
              rw [HXS.out]; exact HS.out.R1
            · show World.ownsRow _ _ _ _ _ _ _
              rw [HYS.out]; exact HS.out.R2
        · refine wpOp_step rfl (fun K hK => ?_)
          go_simp
          refine hK _ _ ⟨(H.out.keep (grown_alloc _ _ _)).cells, ?_⟩
          clear hK K
          (try simp only [Act.put, List.setIfInBounds_toArray, List.set_cons_zero, List.set_cons_succ])
          obtain ⟨T2, hT2e⟩ : ∃ x, V1.heap.size = x := ⟨_, rfl⟩
          rw [hT2e]
          refine wpG_gen (fun W => AcR w w.heap.size dg wr.heap.size va vb (Value.slice A2 n2 c2) (.int .i64 f.H) p va k xs vb k ys W ∧ Blk W T2 88 #[.int .i64 p.x, .int .i64 (p.x + p.w)] ∧ Blk W T1 88 #[.int .i64 p.y, .int .i64 (p.y + p.h)]) ⟨H.out.keep (grown_alloc _ _ _), by rw [← hT2e]; exact Blk.new _ _ _, HT1.out.grown (grown_alloc _ _ none) (by simp)⟩ fun V2 hV => ?_
          obtain ⟨hV1, hT2, hT1⟩ := hV
          have hn2 := nva.out T2 (by have := hlt1.out; omega)
          clear H hT2e HT1 nva hlt1
          have H := Lib.hid hV1
          have HT1 := Lib.hid hT1
          have HT2 := Lib.hid hT2
          have HN2 := Lib.hid hn2
          clear hV1 hT1 hT2 hn2
          refine wpG_one (i := 15) (by kernel_rfl) ?_
          refine wpOp_step rfl (fun K hK => ?_)
          refine step_append_lies _ rfl (.tmp 26) (.tmp 35) 84 rfl w.heap.size 88 i0 _ 2 16 Tryd.underlying84 hi0 hz0 hz1 hz2 rfl (by omega) va k xs rfl H.out.R1 ⟨T1, 0, none⟩ 1 1 [.int .i64 p.y, .int .i64 (p.y + p.h)] rfl rfl (World.news_of_block HT1.out) (by simp [Value.oneCell']) (by omega) (by simp only [maxLen]; omega) (by omega) H.out.hb _ rfl ?_
          intro g1 cap1 W1 hown hgrow hat _
          refine hK _ _ ⟨(H.out.app1 hgrow hat hown).cells, ?_⟩
          clear hK K
          (try simp only [Act.put, List.setIfInBounds_toArray, List.set_cons_zero, List.set_cons_succ])
          have H' := Lib.hid (H.out.app1 hgrow hat hown)
          have HT2' := Lib.hid (HT2.out.grown hgrow HN2.out)
          clear hown hgrow hat H HT1 HT2 HN2
          have H := Lib.hid H'.out
          have HT2 := Lib.hid HT2'.out
          clear H' HT2'
          refine wpG_one (i := 29) (by kernel_rfl) ?_
          refine wpOp_step rfl (fun K hK => ?_)
          refine step_append_lies _ rfl (.tmp 40) (.tmp 49) 84 rfl w.heap.size 88 i0 _ 2 16 Tryd.underlying84 hi0 hz0 hz1 hz2 rfl (by omega) vb k ys rfl H.out.R2 ⟨T2, 0, none⟩ 1 1 [.int .i64 p.x, .int .i64 (p.x + p.w)] rfl rfl (World.news_of_block HT2.out) (by simp [Value.oneCell']) (by omega) (by simp only [maxLen]; omega) (by omega) H.out.hb _ rfl ?_
          intro g2 cap2 W2 hown hgrow hat _
          refine hK _ _ ⟨(H.out.app2 hgrow hat hown).cells, ?_⟩
          clear hK K
          (try simp only [Act.put, List.setIfInBounds_toArray, List.set_cons_zero, List.set_cons_succ])
          have H2 := Lib.hid (H.out.app2 hgrow hat hown)
          clear hown hgrow hat H HT2
          refine ⟨by kernel_rfl, ?_⟩
          have HS := Lib.hid ((H2.out.set0 (.slice (some ⟨g1, 0, none⟩) (k + 1) cap1)).set1 (.slice (some ⟨g2, 0, none⟩) (k + 1) cap2))
          have d0 := H2.out.D.cell 0
          have d1 := H2.out.D.cell 1
          have f0 := H2.out.D.frozen 0
          have f1 := H2.out.D.frozen 1
          simp only [List.drop_succ_cons, List.drop_zero]
          go_wp2_with fail
          go_roundg (n - (k + 1))
          case measure => omega
          case rel =>
            refine ⟨k + 1, _, _, by omega, by omega, by go_num, HS.out.D, ?_, ?_, HS.out.sp, HS.out.bw, HS.out.hb⟩
            · show World.ownsRow _ _ _ _ _ _ _
              rw [HXS.out]; exact HS.out.R1
            · show World.ownsRow _ _ _ _ _ _ _
              rw [HYS.out]; exact HS.out.R2
      · refine wpOp_step rfl (fun K hK => ?_)
        go_simp
        refine hK _ _ ⟨(H.out.keep (grown_alloc _ _ _)).cells, ?_⟩
        clear hK K
        (try simp only [Act.put, List.setIfInBounds_toArray, List.set_cons_zero, List.set_cons_succ])
        obtain ⟨T2, hT2e⟩ : ∃ x, V0.heap.size = x := ⟨_, rfl⟩
        rw [hT2e]
        refine wpG_gen (fun W => AcR w w.heap.size dg wr.heap.size va vb (Value.slice A2 n2 c2) (.int .i64 f.H) p va k xs vb k ys W ∧ Blk W T2 88 #[.int .i64 p.x, .int .i64 (p.x + p.w)]) ⟨H.out.keep (grown_alloc _ _ _), by rw [← hT2e]; exact Blk.new _ _ _⟩ fun V1 hV => ?_
        obtain ⟨hV1, hT2⟩ := hV
        have hn2 := nva.out T2 (by omega)
        clear H hT2e nva
        have H := Lib.hid hV1
        have HT2 := Lib.hid hT2
        have HN2 := Lib.hid hn2
        clear hV1 hT2 hn2
        refine wpG_one (i := 14) (by kernel_rfl) ?_
        refine wpOp_step rfl (fun K hK => ?_)
        go_simp
        refine hK _ _ ⟨(H.out.keep (grown_alloc _ _ _)).cells, ?_⟩
        clear hK K
        (try simp only [Act.put, List.setIfInBounds_toArray, List.set_cons_zero, List.set_cons_succ])
        obtain ⟨T1, hT1e⟩ : ∃ x, V1.heap.size = x := ⟨_, rfl⟩
        rw [hT1e]
        refine wpG_gen (fun W => AcR w w.heap.size dg wr.heap.size va vb (Value.slice A2 n2 c2) (.int .i64 f.H) p va k xs vb k ys W ∧ Blk W T1 88 #[.int .i64 p.y, .int .i64 (p.y + p.h)] ∧ Blk W T2 88 #[.int .i64 p.x, .int .i64 (p.x + p.w)]) ⟨H.out.keep (grown_alloc _ _ _), by rw [← hT1e]; exact Blk.new _ _ _, HT2.out.grown (grown_alloc _ _ none) (by simp)⟩ fun V2 hV => ?_
        obtain ⟨hV1, hT1, hT2⟩ := hV
        clear H hT1e HT2
        have H := Lib.hid hV1
        have HT1 := Lib.hid hT1
        have HT2 := Lib.hid hT2
        clear hV1 hT1 hT2
        refine wpG_one (i := 15) (by kernel_rfl) ?_
        refine wpOp_step rfl (fun K hK => ?_)
        refine step_append_lies _ rfl (.tmp 26) (.tmp 35) 84 rfl w.heap.size 88 i0 _ 2 16 Tryd.underlying84 hi0 hz0 hz1 hz2 rfl (by omega) va k xs rfl H.out.R1 ⟨T1, 0, none⟩ 1 1 [.int .i64 p.y, .int .i64 (p.y + p.h)] rfl rfl (World.news_of_block HT1.out) (by simp [Value.oneCell']) (by omega) (by simp only [maxLen]; omega) (by omega) H.out.hb _ rfl ?_
        intro g1 cap1 W1 hown hgrow hat _
        refine hK _ _ ⟨(H.out.app1 hgrow hat hown).cells, ?_⟩
        clear hK K
        (try simp only [Act.put, List.setIfInBounds_toArray, List.set_cons_zero, List.set_cons_succ])
        have H' := Lib.hid (H.out.app1 hgrow hat hown)
        have HT2' := Lib.hid (HT2.out.grown hgrow HN2.out)
        clear hown hgrow hat H HT1 HT2 HN2
        have H := Lib.hid H'.out
        have HT2 := Lib.hid HT2'.out
        clear H' HT2'
        refine wpG_one (i := 29) (by kernel_rfl) ?_
        refine wpOp_step rfl (fun K hK => ?_)
        refine step_append_lies _ rfl (.tmp 40) (.tmp 49) 84 rfl w.heap.size 88 i0 _ 2 16 Tryd.underlying84 hi0 hz0 hz1 hz2 rfl (by omega) vb k ys rfl H.out.R2 ⟨T2, 0, none⟩ 1 1 [.int .i64 p.x, .int .i64 (p.x + p.w)] rfl rfl (World.news_of_block HT2.out) (by simp [Value.oneCell']) (by omega) (by simp only [maxLen]; omega) (by omega) H.out.hb _ rfl ?_
        intro g2 cap2 W2 hown hgrow hat _
        refine hK _ _ ⟨(H.out.app2 hgrow hat hown).cells, ?_⟩
        clear hK K
        (try simp only [Act.put, List.setIfInBounds_toArray, List.set_cons_zero, List.set_cons_succ])
        have H2 := Lib.hid (H.out.app2 hgrow hat hown)
        clear hown hgrow hat H HT2
        refine ⟨by kernel_rfl, ?_⟩
        have HS := Lib.hid ((H2.out.set0 (.slice (some ⟨g1, 0, none⟩) (k + 1) cap1)).set1 (.slice (some ⟨g2, 0, none⟩) (k + 1) cap2))
        have d0 := H2.out.D.cell 0
        have d1 := H2.out.D.cell 1
        have f0 := H2.out.D.frozen 0
        have f1 := H2.out.D.frozen 1
        simp only [List.drop_succ_cons, List.drop_zero]
        go_wp2_with fail
        go_roundg (n - (k + 1))
        case measure => omega
        case rel =>
          refine ⟨k + 1, _, _, by omega, by omega, by go_num, HS.out.D, ?_, ?_, HS.out.sp, HS.out.bw, HS.out.hb⟩
          · show World.ownsRow _ _ _ _ _ _ _
            rw [HXS.out]; exact HS.out.R1
          · show World.ownsRow _ _ _ _ _ _ _
            rw [HYS.out]; exact HS.out.R2
    · have hltz : ¬ (k : Int) < (n : Int) := by omega
      have he : k = n := by omega
      subst he
      clear hA hps hsm HTS
      have R1' := Lib.hid R1.out
      have R2' := Lib.hid R2.out
      clear R1 R2
      rw [HALL.out] at R1' R2'
      go_wp2_with fail
      go_ret
      exact ⟨dg, va, vb, rfl, by have := HDG.out; omega, D0.out, R1'.out, R2'.out, BW.out⟩
end Go.Proofs.YtlfeoofchebbkaaDoor
