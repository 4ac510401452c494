/- (*layout).fill and page: a piece is added. -/
import Derived.Test.YtlfeoofchebbkaaDoorGps
import Derived.Test.YtlfeoofchebbkaaDoorIto
namespace Go.Proofs.YtlfeoofchebbkaaDoor
set_option linter.unusedSimpArgs false
set_option linter.unusedVariables false
open Go.RowKit
def pcells (ps : List Piece) : List Value := ps.flatMap fun p => (pcs p).toList
theorem pcells_append (l m : List Piece) : pcells (l ++ m) = pcells l ++ pcells m := by unfold pcells; rw [List.flatMap_append]
theorem pcells_one (ps : List Piece) : ∀ u ∈ pcells ps, u.oneCell' = true := fun u hu => by
  unfold pcells at hu
  obtain ⟨p, _, hp⟩ := List.mem_flatMap.1 hu
  simp [pcs] at hp
  rcases hp with rfl | rfl | rfl | rfl | rfl | rfl <;> rfl
theorem pcells_length (ps : List Piece) : (pcells ps).length = ps.length * 6 := by
  unfold pcells
  induction ps with
  | nil => rfl
  | cons p t ih => rw [List.flatMap_cons, List.length_append, ih]; simp [pcs]; omega
theorem Tryd.info60 : (Tryd.prog.info? 60).map (fun i => (i.zero, i.size, i.bytes)) = some (some (.agg #[.string ⟨#[]⟩, .int .i64 0, .int .i64 0, .int .i64 0, .int .i64 0, .int .i64 0]), 6, 56) := by kernel_rfl
/-- A layout under way: its box and its row of pieces. -/
structure LS (W : World) (lb base : Nat) (gW gH : Int) (s : Lay) (v : Value) : Prop where
  blk : Blk W lb 56 #[.int .i64 gW, .int .i64 gH, v, .int .i64 s.np, .int .i64 s.nf]
  row : W.ownsRow base 60 6 v s.ps.length (pcells s.ps)
  lo : lb < base
  hi : base ≤ W.heap.size
/-- Nothing turns but the box, the row's old block, and what is new. -/
structure FrL (W W' : World) (lb : Nat) (v v' : Value) : Prop where
  os : W'.os = W.os
  tape : W'.tape = W.tape
  output : W'.output = W.output
  size : W.heap.size ≤ W'.heap.size
  bl : ∀ k, k < W.heap.size → k ≠ lb → v.ownBlock ≠ some k → W'.heap[k]? = W.heap[k]?
  nw : v'.ownBlock = v.ownBlock ∨ ∀ k, v'.ownBlock = some k → W.heap.size ≤ k
theorem FrL.refl (W : World) (lb : Nat) (v : Value) : FrL W W lb v v := ⟨rfl, rfl, rfl, Nat.le_refl _, fun _ _ _ _ => rfl, .inl rfl⟩
theorem FrL.trans {W W1 W2 : World} {lb : Nat} {v v1 v2 : Value} (h : FrL W W1 lb v v1) (k : FrL W1 W2 lb v1 v2) : FrL W W2 lb v v2 :=
  ⟨k.os.trans h.os, k.tape.trans h.tape, k.output.trans h.output, Nat.le_trans h.size k.size, fun j hj h1 h2 => by
    rw [k.bl j (Nat.lt_of_lt_of_le hj h.size) h1 (by
      rcases h.nw with e | e
      · rw [e]; exact h2
      · intro q; have := e j q; omega), h.bl j hj h1 h2], by
    rcases k.nw with e | e
    · rcases h.nw with e2 | e2
      · exact .inl (e.trans e2)
      · exact .inr fun j hj => e2 j (by rw [← e]; exact hj)
    · exact .inr fun j hj => Nat.le_trans h.size (e j hj)⟩
theorem FrL.blk {W W' : World} {lb : Nat} {v v' : Value} {g : Nat} {t : TypeId} {cs : Array Value} (h : FrL W W' lb v v') (hb : Blk W g t cs) (h1 : g ≠ lb) (h2 : v.ownBlock ≠ some g) : Blk W' g t cs := (h.bl g hb.lt h1 h2).trans hb
theorem FrL.below {W W' : World} {lb base B : Nat} {v v' : Value} (h : FrL W W' lb v v') (hB : B ≤ W.heap.size) (h1 : B ≤ lb) (h2 : ∀ k, v.ownBlock = some k → B ≤ k) : Below B W W' :=
  ⟨h.os, h.tape, h.output, h.size, fun k hk => h.bl k (by omega) (by omega) fun e => by have := h2 k e; omega⟩
theorem own_far {W : World} {base : Nat} {v : Value} {n : Nat} {xs : List Value} (h : W.ownsRow base 60 6 v n xs) {g i : Nat} (hg : g < base) (u : Value) : (W.setCell ⟨g, i, none⟩ u).ownsRow base 60 6 v n xs := by
  refine ⟨h.1, ?_⟩
  rcases h.2 with hn | ⟨g', cap, cur, rfl, h1, h2, rest⟩
  · exact .inl hn
  · exact .inr ⟨g', cap, cur, rfl, h1, (Below.heap_setCell _ _ _ _ (by show g' ≠ g; omega)).trans h2, rest⟩
theorem decL_length : ∀ (f n : Nat) (acc : List UInt8), (decL f n acc).length ≤ acc.length + f
  | 0, _, _ => Nat.le_refl _
  | f + 1, n, acc => by
    unfold decL
    split
    · omega
    · have := decL_length f (n / 10) (UInt8.ofNat (48 + n % 10) :: acc)
      rw [List.length_cons] at this
      omega
theorem decB_size (n : Nat) : (decB n).size ≤ n + 1 := by
  unfold decB
  split
  · simp [ByteArray.size]
  · have := decL_length (n + 1) n []
    simp [ByteArray.size]
    simpa using this
set_option maxRecDepth 100000 in
set_option maxHeartbeats 4000000 in
theorem fill_any (lb base : Nat) (gW gH : Int) (s : Lay) (v : Value) (x y ww hh : Int) (w : World) (h : LS w lb base gW gH s v) (hl : s.ps.length ≤ 1000) (hn : s.nf < 99) :
    Calls Tryd.prog 18 #[.pointer (some ⟨lb, 0, none⟩), .int .i64 x, .int .i64 y, .int .i64 ww, .int .i64 hh] w fun e w' => e = .returned (.tuple #[]) ∧ ∃ v', LS w' lb base gW gH (s.fill x y ww hh) v' ∧ FrL w w' lb v v' := by
  obtain ⟨i1', hi1, hi1z, hi1s, hi1b⟩ := info_parts Tryd.info60
  by_cases hw : 0 < ww ∧ 0 < hh
  · obtain ⟨hw1, hw2⟩ := hw
    have hwg : ww > 0 := hw1
    have hhg : hh > 0 := hw2
    have HS0 := Lib.hid h
    have hlt := h.blk.lt
    have hcc : Hid (s.fill x y ww hh = ⟨s.ps ++ [⟨fN (s.nf + 1), 2, x, y, ww, hh⟩], s.np, s.nf + 1⟩) := (show _ = _ by unfold Lay.fill; rw [if_pos ⟨hw1, hw2⟩])
    have x4 : w.cell? ⟨lb, 4, none⟩ = some (.int .i64 s.nf) := h.blk.cell 4
    have f4 := h.blk.frozen 4
    have ew : IntKind.i64.wrap ((s.nf : Int) + 1) = (s.nf : Int) + 1 := IntWalk.i64_in _ (by omega)
    have hB1 := h.blk.set_ 4 (.int .i64 ((s.nf : Int) + 1))
    have hR1 := own_far (i := 4) h.row h.lo (.int .i64 ((s.nf : Int) + 1))
    have hz1 : (w.setCell ⟨lb, 4, none⟩ (.int .i64 ((s.nf : Int) + 1))).heap.size = w.heap.size := by simp [World.setCell]
    have hF1 : Hid (∀ k, k < w.heap.size → k ≠ lb → (w.setCell ⟨lb, 4, none⟩ (.int .i64 ((s.nf : Int) + 1))).heap[k]? = w.heap[k]?) := (show ∀ k, _ from fun k _ hne => Below.heap_setCell _ _ _ _ (by exact hne))
    have HO1 : Hid ((w.setCell ⟨lb, 4, none⟩ (.int .i64 ((s.nf : Int) + 1))).os = w.os ∧ (w.setCell ⟨lb, 4, none⟩ (.int .i64 ((s.nf : Int) + 1))).tape = w.tape ∧ (w.setCell ⟨lb, 4, none⟩ (.int .i64 ((s.nf : Int) + 1))).output = w.output) := (show _ ∧ _ from ⟨rfl, rfl, rfl⟩)
    have HDC : Hid (∀ W, Calls Tryd.prog 46 #[.int .i64 ((s.nf : Int) + 1)] W fun e w' => e = .returned (.string (decB (s.nf + 1))) ∧ W = w') := (show ∀ W, _ from fun W => by
      have := itoa_any (s.nf + 1) W (by omega)
      rwa [show ((s.nf + 1 : Nat) : Int) = (s.nf : Int) + 1 by omega] at this)
    have hdz : (decB (s.nf + 1)).size ≤ 1000 := by have := decB_size (s.nf + 1); omega
    have HNM : Hid (fN (s.nf + 1) = ⟨#[102]⟩ ++ decB (s.nf + 1)) := rfl
    have HNN : Hid (((s.nf + 1 : Nat) : Int) = (s.nf : Int) + 1) := (show _ = _ by omega)
    obtain ⟨db, hdb⟩ : ∃ db, decB (s.nf + 1) = db := ⟨_, rfl⟩
    rw [hdb] at hdz HNM HDC
    clear hdb
    have hcz : ¬ 9223372036854775807 < 1 + db.size := by omega
    clear h
    go_enter Tryd.func18, Tryd.ntmps18
    go_wp2_with fail
    generalize hW1 : w.setCell ⟨lb, 4, none⟩ (.int .i64 ((s.nf : Int) + 1)) = W1 at *
    have HB1 := Lib.hid hB1
    have HR1 := Lib.hid hR1
    have HZ1 := Lib.hid hz1
    clear hW1 x4 f4 hB1 hR1 hz1
    have hS0 : (W1.drew.cell? ⟨lb, 2, none⟩ = some v ∧ W1.drew.cell? ⟨lb, 4, none⟩ = some (.int .i64 ((s.nf : Int) + 1))) := ⟨HB1.out.cell 2, HB1.out.cell 4⟩
    refine wp_region_split1 (fun W => (W.cell? ⟨lb, 2, none⟩ = some v ∧ W.cell? ⟨lb, 4, none⟩ = some (.int .i64 ((s.nf : Int) + 1)))) 18 0 (ve := ?_) (by kernel_rfl) (by decide) (by decide) rfl (by kernel_rfl) (fun _ _ _ h => h) (Or.inl ⟨by rfl, ?_⟩) ?_
    rotate_left
    · intro w; go_simp; (try with_reducible rfl)
    (try simp only [Act.put, List.getElem_toArray, List.getElem_cons_zero, List.getElem_cons_succ, List.setIfInBounds_toArray, List.set_cons_zero, List.set_cons_succ])
    refine wpG_take 18 1 (v := ?_) rfl (by kernel_rfl) (fun _ _ _ h => h) (Or.inl ⟨by rfl, ?_⟩) (by assumption) ?_
    rotate_left
    · intro w hSw; (try dsimp only at hSw); go_simp; (try with_reducible rfl)
    (try simp only [Act.put, List.getElem_toArray, List.getElem_cons_zero, List.getElem_cons_succ, List.setIfInBounds_toArray, List.set_cons_zero, List.set_cons_succ])
    refine wpG_take 18 2 (v := ?_) rfl (by kernel_rfl) (fun _ _ _ h => h) (Or.inl ⟨by rfl, ?_⟩) (by assumption) ?_
    rotate_left
    · intro w hSw; (try dsimp only at hSw); go_simp; (try with_reducible rfl)
    (try simp only [Act.put, List.getElem_toArray, List.getElem_cons_zero, List.getElem_cons_succ, List.setIfInBounds_toArray, List.set_cons_zero, List.set_cons_succ])
    refine wpG_take 18 3 (v := ?_) rfl (by kernel_rfl) (fun _ _ _ h => h) (Or.inl ⟨by rfl, ?_⟩) (by assumption) ?_
    rotate_left
    · intro w hSw; (try dsimp only at hSw); go_simp; (try with_reducible rfl)
    (try simp only [Act.put, List.getElem_toArray, List.getElem_cons_zero, List.getElem_cons_succ, List.setIfInBounds_toArray, List.set_cons_zero, List.set_cons_succ])
    refine wpG_take 18 4 (v := ?_) rfl (by kernel_rfl) (fun _ _ _ h => h) (Or.inl ⟨by rfl, ?_⟩) (by assumption) ?_
    rotate_left
    · intro w hSw; (try dsimp only at hSw); go_simp; (try with_reducible rfl)
    (try simp only [Act.put, List.getElem_toArray, List.getElem_cons_zero, List.getElem_cons_succ, List.setIfInBounds_toArray, List.set_cons_zero, List.set_cons_succ])
    refine wpG_take 18 5 (v := ?_) rfl (by kernel_rfl) (fun _ _ _ h => h) (Or.inl ⟨by rfl, ?_⟩) (by assumption) ?_
    rotate_left
    · intro w hSw; (try dsimp only at hSw); go_simp; (try with_reducible rfl)
    (try simp only [Act.put, List.getElem_toArray, List.getElem_cons_zero, List.getElem_cons_succ, List.setIfInBounds_toArray, List.set_cons_zero, List.set_cons_succ])
    refine wpG_take 18 6 (v := ?_) rfl (by kernel_rfl) (fun _ _ _ h => h) (Or.inl ⟨by rfl, ?_⟩) (by assumption) ?_
    rotate_left
    · intro w hSw; (try dsimp only at hSw); go_simp; (try with_reducible rfl)
    (try simp only [Act.put, List.getElem_toArray, List.getElem_cons_zero, List.getElem_cons_succ, List.setIfInBounds_toArray, List.set_cons_zero, List.set_cons_succ])
    refine wpG_take 18 7 (v := ?_) rfl (by kernel_rfl) (fun _ _ _ h => h) (Or.inl ⟨by rfl, ?_⟩) (by assumption) ?_
    rotate_left
    · intro w hSw; (try dsimp only at hSw); go_simp; (try with_reducible rfl)
    (try simp only [Act.put, List.getElem_toArray, List.getElem_cons_zero, List.getElem_cons_succ, List.setIfInBounds_toArray, List.set_cons_zero, List.set_cons_succ])
    refine wpG_take 18 8 (v := ?_) rfl (by kernel_rfl) (fun _ _ _ h => h) (Or.inl ⟨by rfl, ?_⟩) (by assumption) ?_
    rotate_left
    · intro w hSw; (try dsimp only at hSw); go_simp; (try with_reducible rfl)
    (try simp only [Act.put, List.getElem_toArray, List.getElem_cons_zero, List.getElem_cons_succ, List.setIfInBounds_toArray, List.set_cons_zero, List.set_cons_succ])
    refine wpG_take 18 9 (v := ?_) rfl (by kernel_rfl) (fun _ _ _ h => h) (Or.inl ⟨by rfl, ?_⟩) (by assumption) ?_
    rotate_left
    · intro w hSw; (try dsimp only at hSw); go_simp; (try with_reducible rfl)
    (try simp only [Act.put, List.getElem_toArray, List.getElem_cons_zero, List.getElem_cons_succ, List.setIfInBounds_toArray, List.set_cons_zero, List.set_cons_succ])
    refine wpG_take 18 12 (v := ?_) rfl (by kernel_rfl) (fun _ _ _ h => h) (Or.inl ⟨by rfl, ?_⟩) (by assumption) ?_
    rotate_left
    · intro w hSw; (try dsimp only at hSw); go_simp; (try with_reducible rfl)
    (try simp only [Act.put, List.getElem_toArray, List.getElem_cons_zero, List.getElem_cons_succ, List.setIfInBounds_toArray, List.set_cons_zero, List.set_cons_succ])
    refine wpG_take 18 13 (v := ?_) rfl (by kernel_rfl) (fun _ _ _ h => h) (Or.inl ⟨by rfl, ?_⟩) (by assumption) ?_
    rotate_left
    · intro w hSw; (try dsimp only at hSw); go_simp; (try with_reducible rfl)
    (try simp only [Act.put, List.getElem_toArray, List.getElem_cons_zero, List.getElem_cons_succ, List.setIfInBounds_toArray, List.set_cons_zero, List.set_cons_succ])
    refine wpG_take 18 14 (v := ?_) rfl (by kernel_rfl) (fun _ _ _ h => h) (Or.inl ⟨by rfl, ?_⟩) (by assumption) ?_
    rotate_left
    · intro w hSw; (try dsimp only at hSw); go_simp; (try with_reducible rfl)
    (try simp only [Act.put, List.getElem_toArray, List.getElem_cons_zero, List.getElem_cons_succ, List.setIfInBounds_toArray, List.set_cons_zero, List.set_cons_succ])
    refine wpG_take 18 15 (v := ?_) rfl (by kernel_rfl) (fun _ _ _ h => h) (Or.inl ⟨by rfl, ?_⟩) (by assumption) ?_
    rotate_left
    · intro w hSw; (try dsimp only at hSw); go_simp; (try with_reducible rfl)
    (try simp only [Act.put, List.getElem_toArray, List.getElem_cons_zero, List.getElem_cons_succ, List.setIfInBounds_toArray, List.set_cons_zero, List.set_cons_succ])
    refine wpG_one (i := 10) (by kernel_rfl) ?_
    refine wpOp_step rfl (fun K hK => ?_)
    go_simp
    go_at_call 46
    (with_reducible refine (HDC.out _).mono ?_)
    rintro e w14 ⟨rfl, rfl⟩
    (try dsimp only)
    refine hK _ _ ⟨hS0, ?_⟩
    clear hK K
    (try simp only [Act.put, List.getElem_toArray, List.getElem_cons_zero, List.getElem_cons_succ, List.setIfInBounds_toArray, List.set_cons_zero, List.set_cons_succ])
    refine wpG_take 18 11 (v := ?_) rfl (by kernel_rfl) (fun _ _ _ h => h) (Or.inl ⟨by rfl, ?_⟩) (by assumption) ?_
    rotate_left
    · intro w hSw; (try dsimp only at hSw); go_simp; (try with_reducible rfl)
    (try simp only [Act.put, List.getElem_toArray, List.getElem_cons_zero, List.getElem_cons_succ, List.setIfInBounds_toArray, List.set_cons_zero, List.set_cons_succ])
    refine wpG_take 18 16 (v := ?_) rfl (by kernel_rfl) (fun _ _ _ h => h) (Or.inl ⟨by rfl, ?_⟩) (by assumption) ?_
    rotate_left
    · intro w hSw; (try dsimp only at hSw); go_simp; (try with_reducible rfl)
    (try simp only [Act.put, List.getElem_toArray, List.getElem_cons_zero, List.getElem_cons_succ, List.setIfInBounds_toArray, List.set_cons_zero, List.set_cons_succ])
    have hbn := below_new W1 (Obj.cells #[Value.string (⟨#[102]⟩ ++ db), Value.int IntKind.i64 2, Value.int IntKind.i64 x, Value.int IntKind.i64 y, Value.int IntKind.i64 ww, Value.int IntKind.i64 hh] 60)
    have hb15 : Below W1.heap.size W1.drew ((W1.alloc (Obj.cells #[Value.string (⟨#[102]⟩ ++ db), Value.int IntKind.i64 2, Value.int IntKind.i64 x, Value.int IntKind.i64 y, Value.int IntKind.i64 ww, Value.int IntKind.i64 hh] 60)).drew) := ⟨hbn.os, hbn.tape, hbn.output, hbn.size, hbn.block⟩
    have hB15 : Blk ((W1.alloc (Obj.cells #[Value.string (⟨#[102]⟩ ++ db), Value.int IntKind.i64 2, Value.int IntKind.i64 x, Value.int IntKind.i64 y, Value.int IntKind.i64 ww, Value.int IntKind.i64 hh] 60)).drew) lb 56 _ := Blk.below (w := W1.drew) HB1.out hb15 (by have := HZ1.out; show lb < W1.heap.size; omega)
    have hR15 : ((W1.alloc (Obj.cells #[Value.string (⟨#[102]⟩ ++ db), Value.int IntKind.i64 2, Value.int IntKind.i64 x, Value.int IntKind.i64 y, Value.int IntKind.i64 ww, Value.int IntKind.i64 hh] 60)).drew).ownsRow base 60 6 v s.ps.length (pcells s.ps) := (HR1.out.alloc (Obj.cells #[Value.string (⟨#[102]⟩ ++ db), Value.int IntKind.i64 2, Value.int IntKind.i64 x, Value.int IntKind.i64 y, Value.int IntKind.i64 ww, Value.int IntKind.i64 hh] 60)).drew
    have n15 : (((W1.alloc (Obj.cells #[Value.string (⟨#[102]⟩ ++ db), Value.int IntKind.i64 2, Value.int IntKind.i64 x, Value.int IntKind.i64 y, Value.int IntKind.i64 ww, Value.int IntKind.i64 hh] 60)).drew).cell? ⟨lb, 2, none⟩ = some v ∧ ((W1.alloc (Obj.cells #[Value.string (⟨#[102]⟩ ++ db), Value.int IntKind.i64 2, Value.int IntKind.i64 x, Value.int IntKind.i64 y, Value.int IntKind.i64 ww, Value.int IntKind.i64 hh] 60)).drew).cell? ⟨lb, 4, none⟩ = some (.int .i64 ((s.nf : Int) + 1))) := ⟨hB15.cell 2, hB15.cell 4⟩
    refine wpG_one (i := 17) (by kernel_rfl) ?_
    refine wpOp_step rfl (fun K hK => ?_)
    go_simp
    refine hK _ _ ⟨n15, ?_⟩
    clear hK K
    (try simp only [Act.put, List.getElem_toArray, List.getElem_cons_zero, List.getElem_cons_succ, List.setIfInBounds_toArray, List.set_cons_zero, List.set_cons_succ])
    have hnews : ∀ j u, (pcs ⟨⟨#[102]⟩ ++ db, 2, x, y, ww, hh⟩).toList[j]? = some u → ((W1.alloc (Obj.cells #[Value.string (⟨#[102]⟩ ++ db), Value.int IntKind.i64 2, Value.int IntKind.i64 x, Value.int IntKind.i64 y, Value.int IntKind.i64 ww, Value.int IntKind.i64 hh] 60)).drew).cell? ((⟨W1.heap.size, 0, none⟩ : Addr).add j) = some u := World.news_of_block (w := (W1.alloc (Obj.cells #[Value.string (⟨#[102]⟩ ++ db), Value.int IntKind.i64 2, Value.int IntKind.i64 x, Value.int IntKind.i64 y, Value.int IntKind.i64 ww, Value.int IntKind.i64 hh] 60)).drew) (heap_alloc_new W1 _)
    have HB15 := Lib.hid hB15
    have HR15 := Lib.hid hR15
    have HNW := Lib.hid hnews
    have HBB : Hid (Below W1.heap.size W1.drew ((W1.alloc (Obj.cells #[Value.string (⟨#[102]⟩ ++ db), Value.int IntKind.i64 2, Value.int IntKind.i64 x, Value.int IntKind.i64 y, Value.int IntKind.i64 ww, Value.int IntKind.i64 hh] 60)).drew)) := hb15
    have hsz15 : ((W1.alloc (Obj.cells #[Value.string (⟨#[102]⟩ ++ db), Value.int IntKind.i64 2, Value.int IntKind.i64 x, Value.int IntKind.i64 y, Value.int IntKind.i64 ww, Value.int IntKind.i64 hh] 60)).drew).heap.size = W1.heap.size + 1 := by simp
    clear hbn hb15 hB15 hR15 n15 hnews hS0
    generalize (W1.alloc (Obj.cells #[Value.string (⟨#[102]⟩ ++ db), Value.int IntKind.i64 2, Value.int IntKind.i64 x, Value.int IntKind.i64 y, Value.int IntKind.i64 ww, Value.int IntKind.i64 hh] 60)).drew = W15 at *
    generalize hwz : W1.heap.size = tb at *
    refine ⟨by kernel_rfl, ?_⟩
    simp only [List.drop_succ_cons, List.drop_zero]
    have hbase : base ≤ W15.heap.size := by have := HS0.out.hi; have := HZ1.out; omega
    go_wp2_with ((at_builtin
                  go_loud (refine wpList_append_lies _ rfl (.tmp 28) (.tmp 40) 26 (by rfl) base 60 i1' _ 6 56 Tryd.underlying26 hi1 hi1z hi1s hi1b rfl (by omega) v s.ps.length _ (by rfl) HR15.out ⟨tb, 0, none⟩ 1 1 (pcs ⟨⟨#[102]⟩ ++ db, 2, x, y, ww, hh⟩).toList (by rfl) (by rfl) HNW.out (fun u hu => pcells_one [⟨⟨#[102]⟩ ++ db, 2, x, y, ww, hh⟩] u (by unfold pcells; simpa using hu)) (by omega) (by simp only [maxLen]; omega) (by omega) hbase _ rfl ?_)
                  intro g16 cap16 w16 hown16 hg16 hat16 hlt16
                  have hlo := HS0.out.lo
                  have hne : v.ownBlock ≠ some lb := fun e => by have := (HR15.out.lt lb e).1; omega
                  have hB16 := HB15.out.grown hg16 (fun e => hne e.symm)
                  have k2 := hB16.cell 2
                  have k2f := hB16.frozen 2
                  have HB16 := Lib.hid hB16
                  have HO16 := Lib.hid hown16
                  have HG16 := Lib.hid hg16
                  have HAT : Hid (v.ownBlock = some g16 ∨ g16 = W15.heap.size) := hat16
                  clear hown16 hg16 hB16 hat16 hne))
    go_end0
    have hz := HZ1.out
    refine ⟨rfl, .slice (some ⟨g16, 0, none⟩) (s.ps.length + 1) cap16, ?_, ?_⟩
    · rw [hcc.out]
      refine ⟨?_, ?_, hlo, ?_⟩
      · have := HB16.out.set_ 2 (.slice (some ⟨g16, 0, none⟩) (s.ps.length + 1) cap16)
        rw [HNN.out]
        exact this
      · have := own_far (i := 2) HO16.out hlo (.slice (some ⟨g16, 0, none⟩) (s.ps.length + 1) cap16)
        rw [HNM.out, List.length_append, pcells_append]
        exact this
      · have := HG16.out.size
        simp [World.setCell]
        omega
    · have hlow : ∀ k, v.ownBlock = some k → base ≤ k := fun k hk => (HS0.out.row.lt k hk).1
      refine ⟨HG16.out.os.trans (HBB.out.os.trans HO1.out.1), HG16.out.tape.trans (HBB.out.tape.trans HO1.out.2.1), HG16.out.output.trans (HBB.out.output.trans HO1.out.2.2), ?_, fun k hk h1 h2 => ?_, ?_⟩
      · have := HG16.out.size
        simp [World.setCell]
        omega
      · rw [Below.heap_setCell _ _ _ _ (by exact h1), HG16.out.block k (by omega) (fun e => h2 e.symm)]
        exact (HBB.out.block k (by omega)).trans (hF1.out k hk h1)
      · rcases HAT.out with e | e
        · exact .inl e.symm
        · exact .inr fun k hk => by
            have hk : g16 = k := by simpa [Value.ownBlock] using hk
            omega
  · have hcc : s.fill x y ww hh = s := by unfold Lay.fill; rw [if_neg hw]
    rw [hcc]
    have HS0 := Lib.hid h
    by_cases hw1 : 0 < ww
    · have hwg : ww > 0 := hw1
      have hhg : ¬ hh > 0 := fun e => hw ⟨hw1, e⟩
      clear hw h hcc
      go_enter Tryd.func18, Tryd.ntmps18
      go_wp2_with fail
      go_end0
      exact ⟨rfl, v, HS0.out, FrL.refl _ _ _⟩
    · have hwg : ¬ ww > 0 := hw1
      clear hw h hcc
      go_enter Tryd.func18, Tryd.ntmps18
      go_wp2_with fail
      go_end0
      exact ⟨rfl, v, HS0.out, FrL.refl _ _ _⟩
set_option maxRecDepth 100000 in
set_option maxHeartbeats 4000000 in
theorem page_any (lb base : Nat) (gW gH : Int) (s : Lay) (v : Value) (x y ww hh : Int) (w : World) (h : LS w lb base gW gH s v) (hl : s.ps.length ≤ 1000) (hn : s.np < 99) :
    Calls Tryd.prog 47 #[.pointer (some ⟨lb, 0, none⟩), .int .i64 x, .int .i64 y, .int .i64 ww, .int .i64 hh] w fun e w' => e = .returned (.tuple #[]) ∧ ∃ v', LS w' lb base gW gH (s.page x y ww hh) v' ∧ FrL w w' lb v v' := by
  obtain ⟨i1', hi1, hi1z, hi1s, hi1b⟩ := info_parts Tryd.info60
  have HS0 := Lib.hid h
  have hlt := h.blk.lt
  have hcc : Hid (s.page x y ww hh = ⟨s.ps ++ [⟨pN (s.np + 1), 1, x, y, ww, hh⟩], s.np + 1, s.nf⟩) := rfl
  have x4 : w.cell? ⟨lb, 3, none⟩ = some (.int .i64 s.np) := h.blk.cell 3
  have f4 := h.blk.frozen 3
  have ew : IntKind.i64.wrap ((s.np : Int) + 1) = (s.np : Int) + 1 := IntWalk.i64_in _ (by omega)
  have hB1 := h.blk.set_ 3 (.int .i64 ((s.np : Int) + 1))
  have hR1 := own_far (i := 3) h.row h.lo (.int .i64 ((s.np : Int) + 1))
  have hz1 : (w.setCell ⟨lb, 3, none⟩ (.int .i64 ((s.np : Int) + 1))).heap.size = w.heap.size := by simp [World.setCell]
  have hF1 : Hid (∀ k, k < w.heap.size → k ≠ lb → (w.setCell ⟨lb, 3, none⟩ (.int .i64 ((s.np : Int) + 1))).heap[k]? = w.heap[k]?) := (show ∀ k, _ from fun k _ hne => Below.heap_setCell _ _ _ _ (by exact hne))
  have HO1 : Hid ((w.setCell ⟨lb, 3, none⟩ (.int .i64 ((s.np : Int) + 1))).os = w.os ∧ (w.setCell ⟨lb, 3, none⟩ (.int .i64 ((s.np : Int) + 1))).tape = w.tape ∧ (w.setCell ⟨lb, 3, none⟩ (.int .i64 ((s.np : Int) + 1))).output = w.output) := (show _ ∧ _ from ⟨rfl, rfl, rfl⟩)
  have HDC : Hid (∀ W, Calls Tryd.prog 46 #[.int .i64 ((s.np : Int) + 1)] W fun e w' => e = .returned (.string (decB (s.np + 1))) ∧ W = w') := (show ∀ W, _ from fun W => by
    have := itoa_any (s.np + 1) W (by omega)
    rwa [show ((s.np + 1 : Nat) : Int) = (s.np : Int) + 1 by omega] at this)
  have hdz : (decB (s.np + 1)).size ≤ 1000 := by have := decB_size (s.np + 1); omega
  have HNM : Hid (pN (s.np + 1) = ⟨#[112]⟩ ++ decB (s.np + 1)) := rfl
  have HNN : Hid (((s.np + 1 : Nat) : Int) = (s.np : Int) + 1) := (show _ = _ by omega)
  obtain ⟨db, hdb⟩ : ∃ db, decB (s.np + 1) = db := ⟨_, rfl⟩
  rw [hdb] at hdz HNM HDC
  clear hdb
  have hcz : ¬ 9223372036854775807 < 1 + db.size := by omega
  clear h
  go_enter Tryd.func47, Tryd.ntmps47
  go_wp2_with fail
  generalize hW1 : w.setCell ⟨lb, 3, none⟩ (.int .i64 ((s.np : Int) + 1)) = W1 at *
  have HB1 := Lib.hid hB1
  have HR1 := Lib.hid hR1
  have HZ1 := Lib.hid hz1
  clear hW1 x4 f4 hB1 hR1 hz1
  have hS0 : (W1.drew.cell? ⟨lb, 2, none⟩ = some v ∧ W1.drew.cell? ⟨lb, 3, none⟩ = some (.int .i64 ((s.np : Int) + 1))) := ⟨HB1.out.cell 2, HB1.out.cell 3⟩
  refine wp_region_split1 (fun W => (W.cell? ⟨lb, 2, none⟩ = some v ∧ W.cell? ⟨lb, 3, none⟩ = some (.int .i64 ((s.np : Int) + 1)))) 18 0 (ve := ?_) (by kernel_rfl) (by decide) (by decide) rfl (by kernel_rfl) (fun _ _ _ h => h) (Or.inl ⟨by rfl, ?_⟩) ?_
  rotate_left
  · intro w; go_simp; (try with_reducible rfl)
  (try simp only [Act.put, List.getElem_toArray, List.getElem_cons_zero, List.getElem_cons_succ, List.setIfInBounds_toArray, List.set_cons_zero, List.set_cons_succ])
  refine wpG_take 18 1 (v := ?_) rfl (by kernel_rfl) (fun _ _ _ h => h) (Or.inl ⟨by rfl, ?_⟩) (by assumption) ?_
  rotate_left
  · intro w hSw; (try dsimp only at hSw); go_simp; (try with_reducible rfl)
  (try simp only [Act.put, List.getElem_toArray, List.getElem_cons_zero, List.getElem_cons_succ, List.setIfInBounds_toArray, List.set_cons_zero, List.set_cons_succ])
  refine wpG_take 18 2 (v := ?_) rfl (by kernel_rfl) (fun _ _ _ h => h) (Or.inl ⟨by rfl, ?_⟩) (by assumption) ?_
  rotate_left
  · intro w hSw; (try dsimp only at hSw); go_simp; (try with_reducible rfl)
  (try simp only [Act.put, List.getElem_toArray, List.getElem_cons_zero, List.getElem_cons_succ, List.setIfInBounds_toArray, List.set_cons_zero, List.set_cons_succ])
  refine wpG_take 18 3 (v := ?_) rfl (by kernel_rfl) (fun _ _ _ h => h) (Or.inl ⟨by rfl, ?_⟩) (by assumption) ?_
  rotate_left
  · intro w hSw; (try dsimp only at hSw); go_simp; (try with_reducible rfl)
  (try simp only [Act.put, List.getElem_toArray, List.getElem_cons_zero, List.getElem_cons_succ, List.setIfInBounds_toArray, List.set_cons_zero, List.set_cons_succ])
  refine wpG_take 18 4 (v := ?_) rfl (by kernel_rfl) (fun _ _ _ h => h) (Or.inl ⟨by rfl, ?_⟩) (by assumption) ?_
  rotate_left
  · intro w hSw; (try dsimp only at hSw); go_simp; (try with_reducible rfl)
  (try simp only [Act.put, List.getElem_toArray, List.getElem_cons_zero, List.getElem_cons_succ, List.setIfInBounds_toArray, List.set_cons_zero, List.set_cons_succ])
  refine wpG_take 18 5 (v := ?_) rfl (by kernel_rfl) (fun _ _ _ h => h) (Or.inl ⟨by rfl, ?_⟩) (by assumption) ?_
  rotate_left
  · intro w hSw; (try dsimp only at hSw); go_simp; (try with_reducible rfl)
  (try simp only [Act.put, List.getElem_toArray, List.getElem_cons_zero, List.getElem_cons_succ, List.setIfInBounds_toArray, List.set_cons_zero, List.set_cons_succ])
  refine wpG_take 18 6 (v := ?_) rfl (by kernel_rfl) (fun _ _ _ h => h) (Or.inl ⟨by rfl, ?_⟩) (by assumption) ?_
  rotate_left
  · intro w hSw; (try dsimp only at hSw); go_simp; (try with_reducible rfl)
  (try simp only [Act.put, List.getElem_toArray, List.getElem_cons_zero, List.getElem_cons_succ, List.setIfInBounds_toArray, List.set_cons_zero, List.set_cons_succ])
  refine wpG_take 18 7 (v := ?_) rfl (by kernel_rfl) (fun _ _ _ h => h) (Or.inl ⟨by rfl, ?_⟩) (by assumption) ?_
  rotate_left
  · intro w hSw; (try dsimp only at hSw); go_simp; (try with_reducible rfl)
  (try simp only [Act.put, List.getElem_toArray, List.getElem_cons_zero, List.getElem_cons_succ, List.setIfInBounds_toArray, List.set_cons_zero, List.set_cons_succ])
  refine wpG_take 18 8 (v := ?_) rfl (by kernel_rfl) (fun _ _ _ h => h) (Or.inl ⟨by rfl, ?_⟩) (by assumption) ?_
  rotate_left
  · intro w hSw; (try dsimp only at hSw); go_simp; (try with_reducible rfl)
  (try simp only [Act.put, List.getElem_toArray, List.getElem_cons_zero, List.getElem_cons_succ, List.setIfInBounds_toArray, List.set_cons_zero, List.set_cons_succ])
  refine wpG_take 18 9 (v := ?_) rfl (by kernel_rfl) (fun _ _ _ h => h) (Or.inl ⟨by rfl, ?_⟩) (by assumption) ?_
  rotate_left
  · intro w hSw; (try dsimp only at hSw); go_simp; (try with_reducible rfl)
  (try simp only [Act.put, List.getElem_toArray, List.getElem_cons_zero, List.getElem_cons_succ, List.setIfInBounds_toArray, List.set_cons_zero, List.set_cons_succ])
  refine wpG_take 18 12 (v := ?_) rfl (by kernel_rfl) (fun _ _ _ h => h) (Or.inl ⟨by rfl, ?_⟩) (by assumption) ?_
  rotate_left
  · intro w hSw; (try dsimp only at hSw); go_simp; (try with_reducible rfl)
  (try simp only [Act.put, List.getElem_toArray, List.getElem_cons_zero, List.getElem_cons_succ, List.setIfInBounds_toArray, List.set_cons_zero, List.set_cons_succ])
  refine wpG_take 18 13 (v := ?_) rfl (by kernel_rfl) (fun _ _ _ h => h) (Or.inl ⟨by rfl, ?_⟩) (by assumption) ?_
  rotate_left
  · intro w hSw; (try dsimp only at hSw); go_simp; (try with_reducible rfl)
  (try simp only [Act.put, List.getElem_toArray, List.getElem_cons_zero, List.getElem_cons_succ, List.setIfInBounds_toArray, List.set_cons_zero, List.set_cons_succ])
  refine wpG_take 18 14 (v := ?_) rfl (by kernel_rfl) (fun _ _ _ h => h) (Or.inl ⟨by rfl, ?_⟩) (by assumption) ?_
  rotate_left
  · intro w hSw; (try dsimp only at hSw); go_simp; (try with_reducible rfl)
  (try simp only [Act.put, List.getElem_toArray, List.getElem_cons_zero, List.getElem_cons_succ, List.setIfInBounds_toArray, List.set_cons_zero, List.set_cons_succ])
  refine wpG_take 18 15 (v := ?_) rfl (by kernel_rfl) (fun _ _ _ h => h) (Or.inl ⟨by rfl, ?_⟩) (by assumption) ?_
  rotate_left
  · intro w hSw; (try dsimp only at hSw); go_simp; (try with_reducible rfl)
  (try simp only [Act.put, List.getElem_toArray, List.getElem_cons_zero, List.getElem_cons_succ, List.setIfInBounds_toArray, List.set_cons_zero, List.set_cons_succ])
  refine wpG_one (i := 10) (by kernel_rfl) ?_
  refine wpOp_step rfl (fun K hK => ?_)
  go_simp
  go_at_call 46
  (with_reducible refine (HDC.out _).mono ?_)
  rintro e w14 ⟨rfl, rfl⟩
  (try dsimp only)
  refine hK _ _ ⟨hS0, ?_⟩
  clear hK K
  (try simp only [Act.put, List.getElem_toArray, List.getElem_cons_zero, List.getElem_cons_succ, List.setIfInBounds_toArray, List.set_cons_zero, List.set_cons_succ])
  refine wpG_take 18 11 (v := ?_) rfl (by kernel_rfl) (fun _ _ _ h => h) (Or.inl ⟨by rfl, ?_⟩) (by assumption) ?_
  rotate_left
  · intro w hSw; (try dsimp only at hSw); go_simp; (try with_reducible rfl)
  (try simp only [Act.put, List.getElem_toArray, List.getElem_cons_zero, List.getElem_cons_succ, List.setIfInBounds_toArray, List.set_cons_zero, List.set_cons_succ])
  refine wpG_take 18 16 (v := ?_) rfl (by kernel_rfl) (fun _ _ _ h => h) (Or.inl ⟨by rfl, ?_⟩) (by assumption) ?_
  rotate_left
  · intro w hSw; (try dsimp only at hSw); go_simp; (try with_reducible rfl)
  (try simp only [Act.put, List.getElem_toArray, List.getElem_cons_zero, List.getElem_cons_succ, List.setIfInBounds_toArray, List.set_cons_zero, List.set_cons_succ])
  have hbn := below_new W1 (Obj.cells #[Value.string (⟨#[112]⟩ ++ db), Value.int IntKind.i64 1, Value.int IntKind.i64 x, Value.int IntKind.i64 y, Value.int IntKind.i64 ww, Value.int IntKind.i64 hh] 60)
  have hb15 : Below W1.heap.size W1.drew ((W1.alloc (Obj.cells #[Value.string (⟨#[112]⟩ ++ db), Value.int IntKind.i64 1, Value.int IntKind.i64 x, Value.int IntKind.i64 y, Value.int IntKind.i64 ww, Value.int IntKind.i64 hh] 60)).drew) := ⟨hbn.os, hbn.tape, hbn.output, hbn.size, hbn.block⟩
  have hB15 : Blk ((W1.alloc (Obj.cells #[Value.string (⟨#[112]⟩ ++ db), Value.int IntKind.i64 1, Value.int IntKind.i64 x, Value.int IntKind.i64 y, Value.int IntKind.i64 ww, Value.int IntKind.i64 hh] 60)).drew) lb 56 _ := Blk.below (w := W1.drew) HB1.out hb15 (by have := HZ1.out; show lb < W1.heap.size; omega)
  have hR15 : ((W1.alloc (Obj.cells #[Value.string (⟨#[112]⟩ ++ db), Value.int IntKind.i64 1, Value.int IntKind.i64 x, Value.int IntKind.i64 y, Value.int IntKind.i64 ww, Value.int IntKind.i64 hh] 60)).drew).ownsRow base 60 6 v s.ps.length (pcells s.ps) := (HR1.out.alloc (Obj.cells #[Value.string (⟨#[112]⟩ ++ db), Value.int IntKind.i64 1, Value.int IntKind.i64 x, Value.int IntKind.i64 y, Value.int IntKind.i64 ww, Value.int IntKind.i64 hh] 60)).drew
  have n15 : (((W1.alloc (Obj.cells #[Value.string (⟨#[112]⟩ ++ db), Value.int IntKind.i64 1, Value.int IntKind.i64 x, Value.int IntKind.i64 y, Value.int IntKind.i64 ww, Value.int IntKind.i64 hh] 60)).drew).cell? ⟨lb, 2, none⟩ = some v ∧ ((W1.alloc (Obj.cells #[Value.string (⟨#[112]⟩ ++ db), Value.int IntKind.i64 1, Value.int IntKind.i64 x, Value.int IntKind.i64 y, Value.int IntKind.i64 ww, Value.int IntKind.i64 hh] 60)).drew).cell? ⟨lb, 3, none⟩ = some (.int .i64 ((s.np : Int) + 1))) := ⟨hB15.cell 2, hB15.cell 3⟩
  refine wpG_one (i := 17) (by kernel_rfl) ?_
  refine wpOp_step rfl (fun K hK => ?_)
  go_simp
  refine hK _ _ ⟨n15, ?_⟩
  clear hK K
  (try simp only [Act.put, List.getElem_toArray, List.getElem_cons_zero, List.getElem_cons_succ, List.setIfInBounds_toArray, List.set_cons_zero, List.set_cons_succ])
  have hnews : ∀ j u, (pcs ⟨⟨#[112]⟩ ++ db, 1, x, y, ww, hh⟩).toList[j]? = some u → ((W1.alloc (Obj.cells #[Value.string (⟨#[112]⟩ ++ db), Value.int IntKind.i64 1, Value.int IntKind.i64 x, Value.int IntKind.i64 y, Value.int IntKind.i64 ww, Value.int IntKind.i64 hh] 60)).drew).cell? ((⟨W1.heap.size, 0, none⟩ : Addr).add j) = some u := World.news_of_block (w := (W1.alloc (Obj.cells #[Value.string (⟨#[112]⟩ ++ db), Value.int IntKind.i64 1, Value.int IntKind.i64 x, Value.int IntKind.i64 y, Value.int IntKind.i64 ww, Value.int IntKind.i64 hh] 60)).drew) (heap_alloc_new W1 _)
  have HB15 := Lib.hid hB15
  have HR15 := Lib.hid hR15
  have HNW := Lib.hid hnews
  have HBB : Hid (Below W1.heap.size W1.drew ((W1.alloc (Obj.cells #[Value.string (⟨#[112]⟩ ++ db), Value.int IntKind.i64 1, Value.int IntKind.i64 x, Value.int IntKind.i64 y, Value.int IntKind.i64 ww, Value.int IntKind.i64 hh] 60)).drew)) := hb15
  have hsz15 : ((W1.alloc (Obj.cells #[Value.string (⟨#[112]⟩ ++ db), Value.int IntKind.i64 1, Value.int IntKind.i64 x, Value.int IntKind.i64 y, Value.int IntKind.i64 ww, Value.int IntKind.i64 hh] 60)).drew).heap.size = W1.heap.size + 1 := by simp
  clear hbn hb15 hB15 hR15 n15 hnews hS0
  generalize (W1.alloc (Obj.cells #[Value.string (⟨#[112]⟩ ++ db), Value.int IntKind.i64 1, Value.int IntKind.i64 x, Value.int IntKind.i64 y, Value.int IntKind.i64 ww, Value.int IntKind.i64 hh] 60)).drew = W15 at *
  generalize hwz : W1.heap.size = tb at *
  refine ⟨by kernel_rfl, ?_⟩
  simp only [List.drop_succ_cons, List.drop_zero]
  have hbase : base ≤ W15.heap.size := by have := HS0.out.hi; have := HZ1.out; omega
  go_wp2_with ((at_builtin
                go_loud (refine wpList_append_lies _ rfl (.tmp 22) (.tmp 34) 26 (by rfl) base 60 i1' _ 6 56 Tryd.underlying26 hi1 hi1z hi1s hi1b rfl (by omega) v s.ps.length _ (by rfl) HR15.out ⟨tb, 0, none⟩ 1 1 (pcs ⟨⟨#[112]⟩ ++ db, 1, x, y, ww, hh⟩).toList (by rfl) (by rfl) HNW.out (fun u hu => pcells_one [⟨⟨#[112]⟩ ++ db, 1, x, y, ww, hh⟩] u (by unfold pcells; simpa using hu)) (by omega) (by simp only [maxLen]; omega) (by omega) hbase _ rfl ?_)
                intro g16 cap16 w16 hown16 hg16 hat16 hlt16
                have hlo := HS0.out.lo
                have hne : v.ownBlock ≠ some lb := fun e => by have := (HR15.out.lt lb e).1; omega
                have hB16 := HB15.out.grown hg16 (fun e => hne e.symm)
                have k2 := hB16.cell 2
                have k2f := hB16.frozen 2
                have HB16 := Lib.hid hB16
                have HO16 := Lib.hid hown16
                have HG16 := Lib.hid hg16
                have HAT : Hid (v.ownBlock = some g16 ∨ g16 = W15.heap.size) := hat16
                clear hown16 hg16 hB16 hat16 hne))
  go_end0
  have hz := HZ1.out
  refine ⟨rfl, .slice (some ⟨g16, 0, none⟩) (s.ps.length + 1) cap16, ?_, ?_⟩
  · rw [hcc.out]
    refine ⟨?_, ?_, hlo, ?_⟩
    · have := HB16.out.set_ 2 (.slice (some ⟨g16, 0, none⟩) (s.ps.length + 1) cap16)
      rw [HNN.out]
      exact this
    · have := own_far (i := 2) HO16.out hlo (.slice (some ⟨g16, 0, none⟩) (s.ps.length + 1) cap16)
      rw [HNM.out, List.length_append, pcells_append]
      exact this
    · have := HG16.out.size
      simp [World.setCell]
      omega
  · have hlow : ∀ k, v.ownBlock = some k → base ≤ k := fun k hk => (HS0.out.row.lt k hk).1
    refine ⟨HG16.out.os.trans (HBB.out.os.trans HO1.out.1), HG16.out.tape.trans (HBB.out.tape.trans HO1.out.2.1), HG16.out.output.trans (HBB.out.output.trans HO1.out.2.2), ?_, fun k hk h1 h2 => ?_, ?_⟩
    · have := HG16.out.size
      simp [World.setCell]
      omega
    · rw [Below.heap_setCell _ _ _ _ (by exact h1), HG16.out.block k (by omega) (fun e => h2 e.symm)]
      exact (HBB.out.block k (by omega)).trans (hF1.out k hk h1)
    · rcases HAT.out with e | e
      · exact .inl e.symm
      · exact .inr fun k hk => by
          have hk : g16 = k := by simpa [Value.ownBlock] using hk
          omega
end Go.Proofs.YtlfeoofchebbkaaDoor
