/- grid: a grid in memory of its own. -/
import Derived.Test.YtlfeoofchebbkaaDoorLyt
namespace Go.Proofs.YtlfeoofchebbkaaDoor
set_option linter.unusedSimpArgs false
set_option linter.unusedVariables false
open Go.RowKit
set_option maxRecDepth 100000 in
theorem copyO_any (zs : List Int) (A : Option Addr) (b off c : Nat) (w : World) (hA : Lies A zs.length w.heap.size b off) (hz : ZsAt w b off zs) (hm : zs.length ≤ 1000000) :
    Calls Tryd.prog 20 #[.slice A zs.length c] w fun e w' => ∃ v, e = .returned v ∧ w'.ownsRow w.heap.size 3 1 v zs.length (zs.map (Value.int .i64)) ∧ Below w.heap.size w w' := by
  obtain ⟨i0, hi0, hz0, hz1, hz2⟩ := info_parts Tryd.info3'
  have hh : ∀ j, j < zs.length * 1 → w.cell? ⟨b, off + j, none⟩ = (zs.map (Value.int .i64))[j]? := fun j hj => by
    rw [hz j (by omega), List.getElem?_map, List.getElem?_eq_getElem (by omega)]
    simp [gz, List.getD_eq_getElem?_getD, List.getElem?_eq_getElem (show j < zs.length by omega)]
  have HH := Lib.hid hh
  clear hz hh
  go_enter Tryd.func20, Tryd.ntmps20
  go_wp2_with ((at_builtin
                refine wpList_copy rfl (.tmp 3) (.tmp 4) 22 rfl 3 i0 _ 1 8 Tryd.underlying22 hi0 hz0 hz1 hz2 rfl (by omega) rfl rfl A b off zs.length c _ rfl (by simp) hA HH.out (fun u hu => by obtain ⟨x, _, rfl⟩ := List.mem_map.1 hu; rfl) (by simp only [maxLen]; omega) (by omega) ?_
                intro v1 w1 hown1 hg1
                have HO := Lib.hid hown1
                have HG := Lib.hid hg1
                clear hown1 hg1))
  go_ret
  exact ⟨_, rfl, HO.out, HG.out⟩
theorem own_keepB {W W' : World} {base n : Nat} {v : Value} {xs : List Value} (h : W.ownsRow base 3 1 v n xs) (hb : Below W.heap.size W W') : W'.ownsRow base 3 1 v n xs :=
  h.kept (row := none) ⟨hb.os, hb.tape, hb.output, hb.size, fun q hq _ => hb.block q hq⟩ (Classical.em _)
theorem own_sl {W : World} {base n : Nat} {v : Value} {xs : List Value} (h : W.ownsRow base 3 1 v n xs) : ∃ A c, v = .slice A n c := by
  rcases h.2 with ⟨rfl, h0⟩ | ⟨g', cap, cur, rfl, _⟩
  · exact ⟨none, 0, by rw [h0]⟩
  · exact ⟨_, _, rfl⟩
theorem own_farI {W : World} {base n : Nat} {v : Value} {xs : List Value} (h : W.ownsRow base 3 1 v n xs) {g i : Nat} (hg : g < base) (u : Value) : (W.setCell ⟨g, i, none⟩ u).ownsRow base 3 1 v n xs := by
  refine ⟨h.1, ?_⟩
  rcases h.2 with hn | ⟨g', cap, cur, rfl, h1, h2, rest⟩
  · exact .inl hn
  · exact .inr ⟨g', cap, cur, rfl, h1, (Below.heap_setCell _ _ _ _ (by show g' ≠ g; omega)).trans h2, rest⟩
theorem blk_far {W : World} {g g' i : Nat} {t : TypeId} {cs : Array Value} (h : Blk W g t cs) (hg : g ≠ g') (u : Value) : Blk (W.setCell ⟨g', i, none⟩ u) g t cs := (Below.heap_setCell _ _ _ _ (by exact hg)).trans h
def GridPost (w : World) (g : Grid) (e : Ending) (w' : World) : Prop := ∃ A1 A2 A3 A4 b1 c1 b2 c2 b3 c3 b4 c4, e = .returned (.agg #[Value.int IntKind.i64 g.W, Value.int IntKind.i64 g.H, Value.slice A1 g.cols.length c1, Value.slice A2 g.rows.length c2, Value.slice A3 g.acr.length c3, Value.slice A4 g.dwn.length c4, Value.int IntKind.i64 g.q]) ∧ GA w' g A1 A2 A3 A4 b1 0 c1 b2 0 c2 b3 0 c3 b4 0 c4 ∧ Below w.heap.size w w'
theorem gridPost_of {w w' : World} {g : Grid} {B1 B2 B3 B4 : Nat} {v1 v2 v3 v4 : Value} (h1 : w'.ownsRow B1 3 1 v1 g.cols.length (g.cols.map (Value.int .i64))) (h2 : w'.ownsRow B2 3 1 v2 g.rows.length (g.rows.map (Value.int .i64)))
    (h3 : w'.ownsRow B3 3 1 v3 g.acr.length (g.acr.map (Value.int .i64))) (h4 : w'.ownsRow B4 3 1 v4 g.dwn.length (g.dwn.map (Value.int .i64))) (hb : Below w.heap.size w w') :
    GridPost w g (.returned (.agg #[.int .i64 g.W, .int .i64 g.H, v1, v2, v3, v4, .int .i64 g.q])) w' := by
  obtain ⟨A1, b1, c1, rfl, l1, z1⟩ := ints_of_own h1
  obtain ⟨A2, b2, c2, rfl, l2, z2⟩ := ints_of_own h2
  obtain ⟨A3, b3, c3, rfl, l3, z3⟩ := ints_of_own h3
  obtain ⟨A4, b4, c4, rfl, l4, z4⟩ := ints_of_own h4
  exact ⟨A1, A2, A3, A4, b1, c1, b2, c2, b3, c3, b4, c4, rfl, ⟨l1, z1, l2, z2, l3, z3, l4, z4⟩, hb⟩
set_option maxRecDepth 100000 in
set_option maxHeartbeats 8000000 in
theorem grid_any (g : Grid) (A1 A2 A3 A4 : Option Addr) (b1 o1 c1 b2 o2 c2 b3 o3 c3 b4 o4 c4 : Nat) (w : World) (h : GA w g A1 A2 A3 A4 b1 o1 c1 b2 o2 c2 b3 o3 c3 b4 o4 c4) (m1 : g.cols.length ≤ 1000) (m2 : g.rows.length ≤ 1000) (m3 : g.acr.length ≤ 1000) (m4 : g.dwn.length ≤ 1000) :
    Calls Tryd.prog 6 #[.agg #[Value.int IntKind.i64 g.W, Value.int IntKind.i64 g.H, Value.slice A1 g.cols.length c1, Value.slice A2 g.rows.length c2, Value.slice A3 g.acr.length c3, Value.slice A4 g.dwn.length c4, Value.int IntKind.i64 g.q]] w (GridPost w g) := by
  have hB2 : Below w.heap.size w ((w.alloc (Obj.cells #[Value.int IntKind.i64 g.W, Value.int IntKind.i64 g.H, Value.slice A1 g.cols.length c1, Value.slice A2 g.rows.length c2, Value.slice A3 g.acr.length c3, Value.slice A4 g.dwn.length c4, Value.int IntKind.i64 g.q] 24)).alloc (Obj.cells #[Value.int IntKind.i64 0, Value.int IntKind.i64 0, Value.slice none 0 0, Value.slice none 0 0, Value.slice none 0 0, Value.slice none 0 0, Value.int IntKind.i64 0] 24)) := (below_new _ _).trans ((below_new _ _).mono (by simp))
  have hG : Blk ((w.alloc (Obj.cells #[Value.int IntKind.i64 g.W, Value.int IntKind.i64 g.H, Value.slice A1 g.cols.length c1, Value.slice A2 g.rows.length c2, Value.slice A3 g.acr.length c3, Value.slice A4 g.dwn.length c4, Value.int IntKind.i64 g.q] 24)).alloc (Obj.cells #[Value.int IntKind.i64 0, Value.int IntKind.i64 0, Value.slice none 0 0, Value.slice none 0 0, Value.slice none 0 0, Value.slice none 0 0, Value.int IntKind.i64 0] 24)) w.heap.size 24 #[Value.int IntKind.i64 g.W, Value.int IntKind.i64 g.H, Value.slice A1 g.cols.length c1, Value.slice A2 g.rows.length c2, Value.slice A3 g.acr.length c3, Value.slice A4 g.dwn.length c4, Value.int IntKind.i64 g.q] := (Below.heap_alloc _ _ _ (by simp)).trans (Blk.new w 24 _)
  have hR : Blk ((w.alloc (Obj.cells #[Value.int IntKind.i64 g.W, Value.int IntKind.i64 g.H, Value.slice A1 g.cols.length c1, Value.slice A2 g.rows.length c2, Value.slice A3 g.acr.length c3, Value.slice A4 g.dwn.length c4, Value.int IntKind.i64 g.q] 24)).alloc (Obj.cells #[Value.int IntKind.i64 0, Value.int IntKind.i64 0, Value.slice none 0 0, Value.slice none 0 0, Value.slice none 0 0, Value.slice none 0 0, Value.int IntKind.i64 0] 24)) (w.heap.size + 1) 24 #[Value.int IntKind.i64 0, Value.int IntKind.i64 0, Value.slice none 0 0, Value.slice none 0 0, Value.slice none 0 0, Value.slice none 0 0, Value.int IntKind.i64 0] := by
    have := Blk.new (w.alloc (Obj.cells #[Value.int IntKind.i64 g.W, Value.int IntKind.i64 g.H, Value.slice A1 g.cols.length c1, Value.slice A2 g.rows.length c2, Value.slice A3 g.acr.length c3, Value.slice A4 g.dwn.length c4, Value.int IntKind.i64 g.q] 24)) 24 #[Value.int IntKind.i64 0, Value.int IntKind.i64 0, Value.slice none 0 0, Value.slice none 0 0, Value.slice none 0 0, Value.slice none 0 0, Value.int IntKind.i64 0]
    rwa [World.size_alloc] at this
  have hsz : (((w.alloc (Obj.cells #[Value.int IntKind.i64 g.W, Value.int IntKind.i64 g.H, Value.slice A1 g.cols.length c1, Value.slice A2 g.rows.length c2, Value.slice A3 g.acr.length c3, Value.slice A4 g.dwn.length c4, Value.int IntKind.i64 g.q] 24)).alloc (Obj.cells #[Value.int IntKind.i64 0, Value.int IntKind.i64 0, Value.slice none 0 0, Value.slice none 0 0, Value.slice none 0 0, Value.slice none 0 0, Value.int IntKind.i64 0] 24))).heap.size = w.heap.size + 1 + 1 := by simp
  have HGA : Hid (∀ W, Below w.heap.size w W → GA W g A1 A2 A3 A4 b1 o1 c1 b2 o2 c2 b3 o3 c3 b4 o4 c4) := (show ∀ W, _ from fun W hW => h.below hW)
  have HC1 : Hid (∀ W, Below w.heap.size w W → Calls Tryd.prog 20 #[.slice A1 g.cols.length c1] W fun e w' => ∃ v, e = .returned v ∧ w'.ownsRow W.heap.size 3 1 v g.cols.length (g.cols.map (Value.int .i64)) ∧ Below W.heap.size W w') := (show ∀ W, _ from fun W hW => copyO_any g.cols A1 b1 o1 c1 W (HGA.out W hW).l1 (HGA.out W hW).z1 (by omega))
  have HC2 : Hid (∀ W, Below w.heap.size w W → Calls Tryd.prog 20 #[.slice A2 g.rows.length c2] W fun e w' => ∃ v, e = .returned v ∧ w'.ownsRow W.heap.size 3 1 v g.rows.length (g.rows.map (Value.int .i64)) ∧ Below W.heap.size W w') := (show ∀ W, _ from fun W hW => copyO_any g.rows A2 b2 o2 c2 W (HGA.out W hW).l2 (HGA.out W hW).z2 (by omega))
  have HC3 : Hid (∀ W, Below w.heap.size w W → Calls Tryd.prog 20 #[.slice A3 g.acr.length c3] W fun e w' => ∃ v, e = .returned v ∧ w'.ownsRow W.heap.size 3 1 v g.acr.length (g.acr.map (Value.int .i64)) ∧ Below W.heap.size W w') := (show ∀ W, _ from fun W hW => copyO_any g.acr A3 b3 o3 c3 W (HGA.out W hW).l3 (HGA.out W hW).z3 (by omega))
  have HC4 : Hid (∀ W, Below w.heap.size w W → Calls Tryd.prog 20 #[.slice A4 g.dwn.length c4] W fun e w' => ∃ v, e = .returned v ∧ w'.ownsRow W.heap.size 3 1 v g.dwn.length (g.dwn.map (Value.int .i64)) ∧ Below W.heap.size W w') := (show ∀ W, _ from fun W hW => copyO_any g.dwn A4 b4 o4 c4 W (HGA.out W hW).l4 (HGA.out W hW).z4 (by omega))
  have HB2 := Lib.hid hB2
  have HG := Lib.hid hG
  have HR := Lib.hid hR
  clear h hB2 hG hR
  go_enter Tryd.func6, Tryd.ntmps6
  go_wp2_with fail
  generalize ((w.alloc (Obj.cells #[Value.int IntKind.i64 g.W, Value.int IntKind.i64 g.H, Value.slice A1 g.cols.length c1, Value.slice A2 g.rows.length c2, Value.slice A3 g.acr.length c3, Value.slice A4 g.dwn.length c4, Value.int IntKind.i64 g.q] 24)).alloc (Obj.cells #[Value.int IntKind.i64 0, Value.int IntKind.i64 0, Value.slice none 0 0, Value.slice none 0 0, Value.slice none 0 0, Value.slice none 0 0, Value.int IntKind.i64 0] 24)) = W1 at *
  have HK : Hid (∀ W, Below W1.heap.size W1 W → (W.cell? ⟨w.heap.size, 2, none⟩ = some (.slice A1 g.cols.length c1) ∧ W.cell? ⟨w.heap.size, 3, none⟩ = some (.slice A2 g.rows.length c2) ∧ W.cell? ⟨w.heap.size, 4, none⟩ = some (.slice A3 g.acr.length c3) ∧ W.cell? ⟨w.heap.size, 5, none⟩ = some (.slice A4 g.dwn.length c4))) := (show ∀ W, _ from fun W hW => by
    have hk := HG.out.below hW HG.out.lt
    exact ⟨hk.cell 2, hk.cell 3, hk.cell 4, hk.cell 5⟩)
  have hb0 : Below W1.heap.size W1 W1.drew := (Below.refl _ _).drew
  have hS0 := HK.out W1.drew hb0
  have H0 := Lib.hid hb0
  clear hb0
  refine wp_region_split (fun W => (W.cell? ⟨w.heap.size, 2, none⟩ = some (.slice A1 g.cols.length c1) ∧ W.cell? ⟨w.heap.size, 3, none⟩ = some (.slice A2 g.rows.length c2) ∧ W.cell? ⟨w.heap.size, 4, none⟩ = some (.slice A3 g.acr.length c3) ∧ W.cell? ⟨w.heap.size, 5, none⟩ = some (.slice A4 g.dwn.length c4))) 13 (by kernel_rfl) (by decide) ?_
  refine wpG_take 13 0 (v := ?_) rfl (by kernel_rfl) (fun _ _ _ h => h) (Or.inl ⟨by rfl, ?_⟩) (by assumption) ?_
  rotate_left
  · intro w hSw; (try dsimp only at hSw); go_simp; (try with_reducible rfl)
  (try simp only [Act.put, List.getElem_toArray, List.getElem_cons_zero, List.getElem_cons_succ, List.setIfInBounds_toArray, List.set_cons_zero, List.set_cons_succ])
  refine wpG_take 13 1 (v := ?_) rfl (by kernel_rfl) (fun _ _ _ h => h) (Or.inl ⟨by rfl, ?_⟩) (by assumption) ?_
  rotate_left
  · intro w hSw; (try dsimp only at hSw); go_simp; (try with_reducible rfl)
  (try simp only [Act.put, List.getElem_toArray, List.getElem_cons_zero, List.getElem_cons_succ, List.setIfInBounds_toArray, List.set_cons_zero, List.set_cons_succ])
  refine wpG_take 13 3 (v := ?_) rfl (by kernel_rfl) (fun _ _ _ h => h) (Or.inl ⟨by rfl, ?_⟩) (by assumption) ?_
  rotate_left
  · intro w hSw; (try dsimp only at hSw); go_simp; (try with_reducible rfl)
  (try simp only [Act.put, List.getElem_toArray, List.getElem_cons_zero, List.getElem_cons_succ, List.setIfInBounds_toArray, List.set_cons_zero, List.set_cons_succ])
  refine wpG_take 13 4 (v := ?_) rfl (by kernel_rfl) (fun _ _ _ h => h) (Or.inl ⟨by rfl, ?_⟩) (by assumption) ?_
  rotate_left
  · intro w hSw; (try dsimp only at hSw); go_simp; (try with_reducible rfl)
  (try simp only [Act.put, List.getElem_toArray, List.getElem_cons_zero, List.getElem_cons_succ, List.setIfInBounds_toArray, List.set_cons_zero, List.set_cons_succ])
  refine wpG_take 13 6 (v := ?_) rfl (by kernel_rfl) (fun _ _ _ h => h) (Or.inl ⟨by rfl, ?_⟩) (by assumption) ?_
  rotate_left
  · intro w hSw; (try dsimp only at hSw); go_simp; (try with_reducible rfl)
  (try simp only [Act.put, List.getElem_toArray, List.getElem_cons_zero, List.getElem_cons_succ, List.setIfInBounds_toArray, List.set_cons_zero, List.set_cons_succ])
  refine wpG_take 13 7 (v := ?_) rfl (by kernel_rfl) (fun _ _ _ h => h) (Or.inl ⟨by rfl, ?_⟩) (by assumption) ?_
  rotate_left
  · intro w hSw; (try dsimp only at hSw); go_simp; (try with_reducible rfl)
  (try simp only [Act.put, List.getElem_toArray, List.getElem_cons_zero, List.getElem_cons_succ, List.setIfInBounds_toArray, List.set_cons_zero, List.set_cons_succ])
  refine wpG_take 13 9 (v := ?_) rfl (by kernel_rfl) (fun _ _ _ h => h) (Or.inl ⟨by rfl, ?_⟩) (by assumption) ?_
  rotate_left
  · intro w hSw; (try dsimp only at hSw); go_simp; (try with_reducible rfl)
  (try simp only [Act.put, List.getElem_toArray, List.getElem_cons_zero, List.getElem_cons_succ, List.setIfInBounds_toArray, List.set_cons_zero, List.set_cons_succ])
  refine wpG_take 13 10 (v := ?_) rfl (by kernel_rfl) (fun _ _ _ h => h) (Or.inl ⟨by rfl, ?_⟩) (by assumption) ?_
  rotate_left
  · intro w hSw; (try dsimp only at hSw); go_simp; (try with_reducible rfl)
  (try simp only [Act.put, List.getElem_toArray, List.getElem_cons_zero, List.getElem_cons_succ, List.setIfInBounds_toArray, List.set_cons_zero, List.set_cons_succ])
  refine wpG_one (i := 2) (by kernel_rfl) ?_
  refine wpOp_step rfl (fun K hK => ?_)
  go_simp
  go_at_call 20
  (with_reducible refine (HC1.out _ (HB2.out.trans (H0.out.mono HB2.out.size))).mono ?_)
  rintro e w3 ⟨v1, rfl, ho1, hb1'⟩
  obtain ⟨X1, z1, rfl⟩ := own_sl ho1
  have hb1 : Below W1.heap.size W1 w3 := H0.out.trans (hb1'.mono H0.out.size)
  have n1 := HK.out w3 hb1
  (try dsimp only)
  refine hK _ _ ⟨n1, ?_⟩
  clear hK K hS0
  (try simp only [Act.put, List.getElem_toArray, List.getElem_cons_zero, List.getElem_cons_succ, List.setIfInBounds_toArray, List.set_cons_zero, List.set_cons_succ])
  refine wpG_take 13 12 (v := ?_) rfl (by kernel_rfl) (fun _ _ _ h => h) (Or.inl ⟨by rfl, ?_⟩) (by assumption) ?_
  rotate_left
  · intro w hSw; (try dsimp only at hSw); go_simp; (try with_reducible rfl)
  (try simp only [Act.put, List.getElem_toArray, List.getElem_cons_zero, List.getElem_cons_succ, List.setIfInBounds_toArray, List.set_cons_zero, List.set_cons_succ])
  refine wpG_one (i := 5) (by kernel_rfl) ?_
  refine wpOp_step rfl (fun K hK => ?_)
  go_simp
  go_at_call 20
  (with_reducible refine (HC2.out _ (HB2.out.trans (hb1.mono HB2.out.size))).mono ?_)
  rintro e w4 ⟨v2, rfl, ho2, hb2'⟩
  obtain ⟨X2, z2, rfl⟩ := own_sl ho2
  have hb2 : Below W1.heap.size W1 w4 := hb1.trans (hb2'.mono hb1.size)
  have n2 := HK.out w4 hb2
  (try dsimp only)
  refine hK _ _ ⟨n2, ?_⟩
  clear hK K n1
  (try simp only [Act.put, List.getElem_toArray, List.getElem_cons_zero, List.getElem_cons_succ, List.setIfInBounds_toArray, List.set_cons_zero, List.set_cons_succ])
  refine wpG_one (i := 8) (by kernel_rfl) ?_
  refine wpOp_step rfl (fun K hK => ?_)
  go_simp
  go_at_call 20
  (with_reducible refine (HC3.out _ (HB2.out.trans (hb2.mono HB2.out.size))).mono ?_)
  rintro e w5 ⟨v3, rfl, ho3, hb3'⟩
  obtain ⟨X3, z3, rfl⟩ := own_sl ho3
  have hb3 : Below W1.heap.size W1 w5 := hb2.trans (hb3'.mono hb2.size)
  have n3 := HK.out w5 hb3
  (try dsimp only)
  refine hK _ _ ⟨n3, ?_⟩
  clear hK K n2
  (try simp only [Act.put, List.getElem_toArray, List.getElem_cons_zero, List.getElem_cons_succ, List.setIfInBounds_toArray, List.set_cons_zero, List.set_cons_succ])
  refine wpG_one (i := 11) (by kernel_rfl) ?_
  refine wpOp_step rfl (fun K hK => ?_)
  go_simp
  go_at_call 20
  (with_reducible refine (HC4.out _ (HB2.out.trans (hb3.mono HB2.out.size))).mono ?_)
  rintro e w6 ⟨v4, rfl, ho4, hb4'⟩
  obtain ⟨X4, z4, rfl⟩ := own_sl ho4
  have hb4 : Below W1.heap.size W1 w6 := hb3.trans (hb4'.mono hb3.size)
  have n4 := HK.out w6 hb4
  (try dsimp only)
  refine hK _ _ ⟨n4, ?_⟩
  clear hK K n3
  (try simp only [Act.put, List.getElem_toArray, List.getElem_cons_zero, List.getElem_cons_succ, List.setIfInBounds_toArray, List.set_cons_zero, List.set_cons_succ])
  have HO1 := Lib.hid (own_keepB (own_keepB (own_keepB ho1 hb2') hb3') hb4')
  have HO2 := Lib.hid (own_keepB (own_keepB ho2 hb3') hb4')
  have HO3 := Lib.hid (own_keepB ho3 hb4')
  have HO4 := Lib.hid ho4
  have HB6 := Lib.hid (HB2.out.trans (hb4.mono HB2.out.size))
  have hG6 := HG.out.below hb4 HG.out.lt
  have hR6 := HR.out.below hb4 HR.out.lt
  have HR6 := Lib.hid hR6
  have HZ : Hid (w.heap.size + 1 < W1.drew.heap.size ∧ w.heap.size + 1 < w3.heap.size ∧ w.heap.size + 1 < w4.heap.size ∧ w.heap.size + 1 < w5.heap.size) := (show _ ∧ _ from by
    have e0 : W1.drew.heap.size = W1.heap.size := rfl
    have := hb1.size
    have := hb2.size
    have := hb3.size
    omega)
  have x0 := hG6.cell 0
  have x1 := hG6.cell 1
  have x2 := hG6.cell 2
  have x3 := hG6.cell 3
  have x4 := hG6.cell 4
  have x5 := hG6.cell 5
  have x6 := hG6.cell 6
  have f2 := hG6.frozen 2
  have f3 := hG6.frozen 3
  have f4 := hG6.frozen 4
  have f5 := hG6.frozen 5
  have y0 := hR6.cell 0
  have y1 := hR6.cell 1
  have y2 := hR6.cell 2
  have y3 := hR6.cell 3
  have y4 := hR6.cell 4
  have y5 := hR6.cell 5
  have y6 := hR6.cell 6
  have g0 := hR6.frozen 0
  have g1 := hR6.frozen 1
  have g2 := hR6.frozen 2
  have g3 := hR6.frozen 3
  have g4 := hR6.frozen 4
  have g5 := hR6.frozen 5
  have g6 := hR6.frozen 6
  have hlt1 := hG6.lt
  have hlt2 := hR6.lt
  clear n4 ho1 ho2 ho3 ho4 hb1 hb2 hb3 hb4 hb1' hb2' hb3' hb4' HK H0 HG HR HC1 HC2 HC3 HC4 hG6 hR6
  refine ⟨by kernel_rfl, ?_⟩
  simp only [List.drop_succ_cons, List.drop_zero]
  go_wp2_with fail
  obtain ⟨q1, q2, q3, q4⟩ := HZ.out
  have hBk : Blk (((((((((((w6.setCell ⟨w.heap.size, 2, none⟩ (.slice X1 g.cols.length z1)).setCell ⟨w.heap.size, 3, none⟩ (.slice X2 g.rows.length z2)).setCell ⟨w.heap.size, 4, none⟩ (.slice X3 g.acr.length z3)).setCell ⟨w.heap.size, 5, none⟩ (.slice X4 g.dwn.length z4)).setCell ⟨w.heap.size + 1, 0, none⟩ (.int .i64 g.W)).setCell ⟨w.heap.size + 1, 1, none⟩ (.int .i64 g.H)).setCell ⟨w.heap.size + 1, 2, none⟩ (.slice X1 g.cols.length z1)).setCell ⟨w.heap.size + 1, 3, none⟩ (.slice X2 g.rows.length z2)).setCell ⟨w.heap.size + 1, 4, none⟩ (.slice X3 g.acr.length z3)).setCell ⟨w.heap.size + 1, 5, none⟩ (.slice X4 g.dwn.length z4)).setCell ⟨w.heap.size + 1, 6, none⟩ (.int .i64 g.q)) (w.heap.size + 1) 24 #[.int .i64 g.W, .int .i64 g.H, .slice X1 g.cols.length z1, .slice X2 g.rows.length z2, .slice X3 g.acr.length z3, .slice X4 g.dwn.length z4, .int .i64 g.q] := ((((((((blk_far (blk_far (blk_far (blk_far HR6.out (i := 2) (g' := w.heap.size) (by omega) (.slice X1 g.cols.length z1)) (i := 3) (g' := w.heap.size) (by omega) (.slice X2 g.rows.length z2)) (i := 4) (g' := w.heap.size) (by omega) (.slice X3 g.acr.length z3)) (i := 5) (g' := w.heap.size) (by omega) (.slice X4 g.dwn.length z4)).set_ 0 (.int .i64 g.W)).set_ 1 (.int .i64 g.H)).set_ 2 (.slice X1 g.cols.length z1)).set_ 3 (.slice X2 g.rows.length z2)).set_ 4 (.slice X3 g.acr.length z3)).set_ 5 (.slice X4 g.dwn.length z4)).set_ 6 (.int .i64 g.q))
  have P1 := Lib.hid (own_farI (g := w.heap.size + 1) (i := 6) (own_farI (g := w.heap.size + 1) (i := 5) (own_farI (g := w.heap.size + 1) (i := 4) (own_farI (g := w.heap.size + 1) (i := 3) (own_farI (g := w.heap.size + 1) (i := 2) (own_farI (g := w.heap.size + 1) (i := 1) (own_farI (g := w.heap.size + 1) (i := 0) (own_farI (g := w.heap.size) (i := 5) (own_farI (g := w.heap.size) (i := 4) (own_farI (g := w.heap.size) (i := 3) (own_farI (g := w.heap.size) (i := 2) HO1.out (by omega) (.slice X1 g.cols.length z1)) (by omega) (.slice X2 g.rows.length z2)) (by omega) (.slice X3 g.acr.length z3)) (by omega) (.slice X4 g.dwn.length z4)) (by omega) (.int .i64 g.W)) (by omega) (.int .i64 g.H)) (by omega) (.slice X1 g.cols.length z1)) (by omega) (.slice X2 g.rows.length z2)) (by omega) (.slice X3 g.acr.length z3)) (by omega) (.slice X4 g.dwn.length z4)) (by omega) (.int .i64 g.q))
  have P2 := Lib.hid (own_farI (g := w.heap.size + 1) (i := 6) (own_farI (g := w.heap.size + 1) (i := 5) (own_farI (g := w.heap.size + 1) (i := 4) (own_farI (g := w.heap.size + 1) (i := 3) (own_farI (g := w.heap.size + 1) (i := 2) (own_farI (g := w.heap.size + 1) (i := 1) (own_farI (g := w.heap.size + 1) (i := 0) (own_farI (g := w.heap.size) (i := 5) (own_farI (g := w.heap.size) (i := 4) (own_farI (g := w.heap.size) (i := 3) (own_farI (g := w.heap.size) (i := 2) HO2.out (by omega) (.slice X1 g.cols.length z1)) (by omega) (.slice X2 g.rows.length z2)) (by omega) (.slice X3 g.acr.length z3)) (by omega) (.slice X4 g.dwn.length z4)) (by omega) (.int .i64 g.W)) (by omega) (.int .i64 g.H)) (by omega) (.slice X1 g.cols.length z1)) (by omega) (.slice X2 g.rows.length z2)) (by omega) (.slice X3 g.acr.length z3)) (by omega) (.slice X4 g.dwn.length z4)) (by omega) (.int .i64 g.q))
  have P3 := Lib.hid (own_farI (g := w.heap.size + 1) (i := 6) (own_farI (g := w.heap.size + 1) (i := 5) (own_farI (g := w.heap.size + 1) (i := 4) (own_farI (g := w.heap.size + 1) (i := 3) (own_farI (g := w.heap.size + 1) (i := 2) (own_farI (g := w.heap.size + 1) (i := 1) (own_farI (g := w.heap.size + 1) (i := 0) (own_farI (g := w.heap.size) (i := 5) (own_farI (g := w.heap.size) (i := 4) (own_farI (g := w.heap.size) (i := 3) (own_farI (g := w.heap.size) (i := 2) HO3.out (by omega) (.slice X1 g.cols.length z1)) (by omega) (.slice X2 g.rows.length z2)) (by omega) (.slice X3 g.acr.length z3)) (by omega) (.slice X4 g.dwn.length z4)) (by omega) (.int .i64 g.W)) (by omega) (.int .i64 g.H)) (by omega) (.slice X1 g.cols.length z1)) (by omega) (.slice X2 g.rows.length z2)) (by omega) (.slice X3 g.acr.length z3)) (by omega) (.slice X4 g.dwn.length z4)) (by omega) (.int .i64 g.q))
  have P4 := Lib.hid (own_farI (g := w.heap.size + 1) (i := 6) (own_farI (g := w.heap.size + 1) (i := 5) (own_farI (g := w.heap.size + 1) (i := 4) (own_farI (g := w.heap.size + 1) (i := 3) (own_farI (g := w.heap.size + 1) (i := 2) (own_farI (g := w.heap.size + 1) (i := 1) (own_farI (g := w.heap.size + 1) (i := 0) (own_farI (g := w.heap.size) (i := 5) (own_farI (g := w.heap.size) (i := 4) (own_farI (g := w.heap.size) (i := 3) (own_farI (g := w.heap.size) (i := 2) HO4.out (by omega) (.slice X1 g.cols.length z1)) (by omega) (.slice X2 g.rows.length z2)) (by omega) (.slice X3 g.acr.length z3)) (by omega) (.slice X4 g.dwn.length z4)) (by omega) (.int .i64 g.W)) (by omega) (.int .i64 g.H)) (by omega) (.slice X1 g.cols.length z1)) (by omega) (.slice X2 g.rows.length z2)) (by omega) (.slice X3 g.acr.length z3)) (by omega) (.slice X4 g.dwn.length z4)) (by omega) (.int .i64 g.q))
  have PB := Lib.hid (((((((((((HB6.out.setCell (p := ⟨w.heap.size, 2, none⟩) (by simp) (.slice X1 g.cols.length z1)).setCell (p := ⟨w.heap.size, 3, none⟩) (by simp) (.slice X2 g.rows.length z2)).setCell (p := ⟨w.heap.size, 4, none⟩) (by simp) (.slice X3 g.acr.length z3)).setCell (p := ⟨w.heap.size, 5, none⟩) (by simp) (.slice X4 g.dwn.length z4)).setCell (p := ⟨w.heap.size + 1, 0, none⟩) (by simp) (.int .i64 g.W)).setCell (p := ⟨w.heap.size + 1, 1, none⟩) (by simp) (.int .i64 g.H)).setCell (p := ⟨w.heap.size + 1, 2, none⟩) (by simp) (.slice X1 g.cols.length z1)).setCell (p := ⟨w.heap.size + 1, 3, none⟩) (by simp) (.slice X2 g.rows.length z2)).setCell (p := ⟨w.heap.size + 1, 4, none⟩) (by simp) (.slice X3 g.acr.length z3)).setCell (p := ⟨w.heap.size + 1, 5, none⟩) (by simp) (.slice X4 g.dwn.length z4)).setCell (p := ⟨w.heap.size + 1, 6, none⟩) (by simp) (.int .i64 g.q))
  clear x0 x1 x2 x3 x4 x5 x6 f2 f3 f4 f5 y0 y1 y2 y3 y4 y5 y6 g0 g1 g2 g3 g4 g5 g6 HO1 HO2 HO3 HO4 HB6 HR6
  generalize (((((((((((w6.setCell ⟨w.heap.size, 2, none⟩ (.slice X1 g.cols.length z1)).setCell ⟨w.heap.size, 3, none⟩ (.slice X2 g.rows.length z2)).setCell ⟨w.heap.size, 4, none⟩ (.slice X3 g.acr.length z3)).setCell ⟨w.heap.size, 5, none⟩ (.slice X4 g.dwn.length z4)).setCell ⟨w.heap.size + 1, 0, none⟩ (.int .i64 g.W)).setCell ⟨w.heap.size + 1, 1, none⟩ (.int .i64 g.H)).setCell ⟨w.heap.size + 1, 2, none⟩ (.slice X1 g.cols.length z1)).setCell ⟨w.heap.size + 1, 3, none⟩ (.slice X2 g.rows.length z2)).setCell ⟨w.heap.size + 1, 4, none⟩ (.slice X3 g.acr.length z3)).setCell ⟨w.heap.size + 1, 5, none⟩ (.slice X4 g.dwn.length z4)).setCell ⟨w.heap.size + 1, 6, none⟩ (.int .i64 g.q)) = WF at *
  have c0 := hBk.cell 0
  have c1' := hBk.cell 1
  have c2' := hBk.cell 2
  have c3' := hBk.cell 3
  have c4' := hBk.cell 4
  have c5' := hBk.cell 5
  have c6' := hBk.cell 6
  have hl := hBk.lt
  exact bodyPost_ret (v := .agg #[.int .i64 g.W, .int .i64 g.H, .slice X1 g.cols.length z1, .slice X2 g.rows.length z2, .slice X3 g.acr.length z3, .slice X4 g.dwn.length z4, .int .i64 g.q]) (by simp [results, Tryd.results6, go_sem, c0, c1', c2', c3', c4', c5', c6', hl]) rfl (gridPost_of (B1 := W1.drew.heap.size) (B2 := w3.heap.size) (B3 := w4.heap.size) (B4 := w5.heap.size) P1.out P2.out P3.out P4.out PB.out)
end Go.Proofs.YtlfeoofchebbkaaDoor
