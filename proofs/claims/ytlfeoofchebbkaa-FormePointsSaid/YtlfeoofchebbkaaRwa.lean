/- RowAt, ColumnAt and the reference's; Has. -/
import Derived.Test.YtlfeoofchebbkaaRra
import Derived.Test.YtlfeoofchebbkaaChs
namespace Go.Proofs.Ytlfeoofchebbkaa
set_option linter.unusedSimpArgs false
set_option linter.unusedVariables false
open Go.RowKit
theorem intsV_nil (w : World) : IntsV w (zl []) (.slice none 0 0) := ⟨none, 0, 0, rfl, fun h => absurd h (Nat.lt_irrefl _), fun j hj => absurd hj (Nat.not_lt_zero _), Nat.zero_le _, Nat.zero_le _⟩
/-- The pieces of a row, and of a column; the errors. -/
def rowL (f : Forme) (y : Int) : List Nat := aloS f.ps (isRow y) fun p => p.x
def colL (f : Forme) (x : Int) : List Nat := aloS f.ps (isCol x) fun p => p.y
def LinePost (l : List Nat) (s : Int) (w : World) (e : Ending) (w' : World) : Prop := ∃ v, e = .returned (.tuple #[v, .int .i64 s]) ∧ IntsV w' (zl l) v ∧ Below w.heap.size w w'

set_option maxHeartbeats 4000000 in
theorem rowAt_bad (f : Forme) (y : Int) (A : Option Addr) (b off c : Nat) (w : World) (hA : Lies A f.ps.length w.heap.size b off) (hps : PsAt w b off f.ps) (hnm : NameOk f.ps) (hc : f.ps.length ≤ c) (hm : f.ps.length ≤ 1000) (hs : (checkF f).2 ≠ 0) :
    Calls Try.prog 60 #[.agg #[.int .i64 f.W, .int .i64 f.H, .slice A f.ps.length c], .int .i64 y] w (LinePost [] (checkF f).2 w) := by
  have hcall := fun W (hb : Below w.heap.size w W) => check_any f A b off c W (hA.mono hb.size) (fun j hj => (hps j hj).below hb (hA (by omega)).2) hnm hc (by omega)
  have hB : Below w.heap.size w ((w.alloc (Obj.cells #[Value.int IntKind.i64 f.W, Value.int IntKind.i64 f.H, Value.slice A f.ps.length c] 37)).alloc (Obj.cells #[Value.int IntKind.i64 y] 3)) := (below_new _ _).alloc (by simp) _
  have hF : FAt ((w.alloc (Obj.cells #[Value.int IntKind.i64 f.W, Value.int IntKind.i64 f.H, Value.slice A f.ps.length c] 37)).alloc (Obj.cells #[Value.int IntKind.i64 y] 3)) w.heap.size f (Value.slice A f.ps.length c) := (FAt_new w 37 f (Value.slice A f.ps.length c)).below (below_new _ _) (by simp)
  have hsb := bne_t hs
  have HP : Hid (∀ W s, Below w.heap.size w W → LinePost [] s w (.returned (.tuple #[.slice none 0 0, .int .i64 s])) W) := (show ∀ W s, _ from fun W s h => ⟨_, rfl, intsV_nil W, h⟩)
  generalize (checkF f).2 = s at *
  generalize f.ps.length = n at *
  clear hs hA hps hnm
  go_enter Try.func60, Try.ntmps60
  go_wp2_with fail
  generalize ((w.alloc (Obj.cells #[Value.int IntKind.i64 f.W, Value.int IntKind.i64 f.H, Value.slice A n c] 37)).alloc (Obj.cells #[Value.int IntKind.i64 y] 3)) = W0 at *
  obtain ⟨a0, a1, a2⟩ := hF
  have HB := Lib.hid hB
  go_wp2_with fail
  refine (hcall _ hB).mono ?_
  rintro e w1 ⟨rfl, b1⟩
  have HB1 := Lib.hid (HB.out.trans (b1.mono HB.out.size))
  clear hcall b1 hB a0 a1 a2
  go_wp2_with fail
  go_ret2
  exact HP.out _ _ HB1.out
set_option maxHeartbeats 4000000 in
theorem rowAt_out (f : Forme) (y : Int) (A : Option Addr) (b off c : Nat) (w : World) (hA : Lies A f.ps.length w.heap.size b off) (hps : PsAt w b off f.ps) (hnm : NameOk f.ps) (hc : f.ps.length ≤ c) (hm : f.ps.length ≤ 1000) (hs : (checkF f).2 = 0) (hy : win y 0 (f.H - 1) = false) :
    Calls Try.prog 60 #[.agg #[.int .i64 f.W, .int .i64 f.H, .slice A f.ps.length c], .int .i64 y] w (LinePost [] 2 w) := by
  have hcall := fun W (hb : Below w.heap.size w W) => check_any f A b off c W (hA.mono hb.size) (fun j hj => (hps j hj).below hb (hA (by omega)).2) hnm hc (by omega)
  have hL := (checkF_zero hs).toLaid
  have z1 := hL.w1; have z2 := hL.w2; have z3 := hL.h1; have z4 := hL.h2
  have hB : Below w.heap.size w ((w.alloc (Obj.cells #[Value.int IntKind.i64 f.W, Value.int IntKind.i64 f.H, Value.slice A f.ps.length c] 37)).alloc (Obj.cells #[Value.int IntKind.i64 y] 3)) := (below_new _ _).alloc (by simp) _
  have hF : FAt ((w.alloc (Obj.cells #[Value.int IntKind.i64 f.W, Value.int IntKind.i64 f.H, Value.slice A f.ps.length c] 37)).alloc (Obj.cells #[Value.int IntKind.i64 y] 3)) w.heap.size f (Value.slice A f.ps.length c) := (FAt_new w 37 f (Value.slice A f.ps.length c)).below (below_new _ _) (by simp)
  have hY : ((w.alloc (Obj.cells #[Value.int IntKind.i64 f.W, Value.int IntKind.i64 f.H, Value.slice A f.ps.length c] 37)).alloc (Obj.cells #[Value.int IntKind.i64 y] 3)).cell? ⟨w.heap.size + 1, 0, none⟩ = some (.int .i64 y) := by simp [go_sem]
  have hz : w.heap.size + 1 < ((w.alloc (Obj.cells #[Value.int IntKind.i64 f.W, Value.int IntKind.i64 f.H, Value.slice A f.ps.length c] 37)).alloc (Obj.cells #[Value.int IntKind.i64 y] 3)).heap.size := by simp
  have HP : Hid (∀ W s, Below w.heap.size w W → LinePost [] s w (.returned (.tuple #[.slice none 0 0, .int .i64 s])) W) := (show ∀ W s, _ from fun W s h => ⟨_, rfl, intsV_nil W, h⟩)
  rw [hs] at hcall
  generalize f.ps.length = n at *
  have HY := Lib.hid hy
  have HWI := fun W => within_any y 0 (f.H - 1) W
  rw [hy] at HWI
  clear hs hA hps hnm hL hy
  go_enter Try.func60, Try.ntmps60
  go_wp2_with fail
  generalize ((w.alloc (Obj.cells #[Value.int IntKind.i64 f.W, Value.int IntKind.i64 f.H, Value.slice A n c] 37)).alloc (Obj.cells #[Value.int IntKind.i64 y] 3)) = W0 at *
  have HF := Lib.hid hF
  obtain ⟨a0, a1, a2⟩ := hF
  have HB := Lib.hid hB
  have HYC := Lib.hid hY
  clear hY
  go_wp2_with fail
  refine (hcall _ hB).mono ?_
  rintro e w1 ⟨rfl, b1⟩
  clear a0 a1 a2
  obtain ⟨a0, a1, a2⟩ := HF.out.below b1 (by omega)
  have y1 := (b1.cell (p := ⟨w.heap.size + 1, 0, none⟩) hz).trans HYC.out
  have HB1 := Lib.hid (HB.out.trans (b1.mono HB.out.size))
  clear hcall b1 hB
  go_wp2_with fail
  refine (HWI _).mono ?_
  rintro e w2 ⟨rfl, rfl⟩
  clear HWI
  go_wp2_with fail
  go_ret2
  exact HP.out _ _ HB1.out
set_option maxHeartbeats 4000000 in
theorem rowAt_ok (f : Forme) (y : Int) (A : Option Addr) (b off c : Nat) (w : World) (hA : Lies A f.ps.length w.heap.size b off) (hps : PsAt w b off f.ps) (hnm : NameOk f.ps) (hc : f.ps.length ≤ c) (hm : f.ps.length ≤ 1000) (hs : (checkF f).2 = 0) (hy : win y 0 (f.H - 1) = true) :
    Calls Try.prog 60 #[.agg #[.int .i64 f.W, .int .i64 f.H, .slice A f.ps.length c], .int .i64 y] w (LinePost (rowL f y) 0 w) := by
  have hcall := fun W (hb : Below w.heap.size w W) => check_any f A b off c W (hA.mono hb.size) (fun j hj => (hps j hj).below hb (hA (by omega)).2) hnm hc (by omega)
  have hL := (checkF_zero hs).toLaid
  have z1 := hL.w1; have z2 := hL.w2; have z3 := hL.h1; have z4 := hL.h2
  have hB : Below w.heap.size w ((w.alloc (Obj.cells #[Value.int IntKind.i64 f.W, Value.int IntKind.i64 f.H, Value.slice A f.ps.length c] 37)).alloc (Obj.cells #[Value.int IntKind.i64 y] 3)) := (below_new _ _).alloc (by simp) _
  have hF : FAt ((w.alloc (Obj.cells #[Value.int IntKind.i64 f.W, Value.int IntKind.i64 f.H, Value.slice A f.ps.length c] 37)).alloc (Obj.cells #[Value.int IntKind.i64 y] 3)) w.heap.size f (Value.slice A f.ps.length c) := (FAt_new w 37 f (Value.slice A f.ps.length c)).below (below_new _ _) (by simp)
  have hY : ((w.alloc (Obj.cells #[Value.int IntKind.i64 f.W, Value.int IntKind.i64 f.H, Value.slice A f.ps.length c] 37)).alloc (Obj.cells #[Value.int IntKind.i64 y] 3)).cell? ⟨w.heap.size + 1, 0, none⟩ = some (.int .i64 y) := by simp [go_sem]
  have hz : w.heap.size + 1 < ((w.alloc (Obj.cells #[Value.int IntKind.i64 f.W, Value.int IntKind.i64 f.H, Value.slice A f.ps.length c] 37)).alloc (Obj.cells #[Value.int IntKind.i64 y] 3)).heap.size := by simp
  have HP : Hid (∀ W v, Below w.heap.size w W → IntsV W (zl (rowL f y)) v → LinePost (rowL f y) 0 w (.returned (.tuple #[v, .int .i64 0])) W) := (show ∀ W v, _ from fun W v h h2 => ⟨_, rfl, h2, h⟩)
  have HAL : Hid (∀ W, Below w.heap.size w W → W.cell? ⟨w.heap.size + 1, 0, none⟩ = some (.int .i64 y) → Calls Try.prog 118 #[.agg #[.int .i64 f.W, .int .i64 f.H, .slice A f.ps.length c], .func (.func 119) #[] #[.pointer (some ⟨w.heap.size + 1, 0, none⟩)], .func (.func 121) #[] #[]] W (AlongPost (rowL f y) W)) :=
    (show ∀ W, _ from fun W hW hYW => along_any f (isRow y) (fun p => p.x) 119 121 _ A b off c W (hA.mono hW.size) (fun j hj => (hps j hj).below hW (hA (by omega)).2) hm enters119
      (fun W2 j hb2 hj => row_is (gp f.ps j) y (w.heap.size + 1) W2 ((hb2.cell (p := ⟨w.heap.size + 1, 0, none⟩) (block_lt_of_cell hYW)).trans hYW) (hL.sml hj)) (row_ask f.ps _ b off) (hL.row_inj y))
  rw [hs] at hcall
  generalize rowL f y = res at *
  generalize f.ps.length = n at *
  have HY := Lib.hid hy
  have HWI := fun W => within_any y 0 (f.H - 1) W
  rw [hy] at HWI
  clear hs hA hps hnm hL hy
  go_enter Try.func60, Try.ntmps60
  go_wp2_with fail
  generalize ((w.alloc (Obj.cells #[Value.int IntKind.i64 f.W, Value.int IntKind.i64 f.H, Value.slice A n c] 37)).alloc (Obj.cells #[Value.int IntKind.i64 y] 3)) = W0 at *
  have HF := Lib.hid hF
  obtain ⟨a0, a1, a2⟩ := hF
  have HB := Lib.hid hB
  have HYC := Lib.hid hY
  clear hY
  go_wp2_with fail
  refine (hcall _ hB).mono ?_
  rintro e w1 ⟨rfl, b1⟩
  clear a0 a1 a2
  obtain ⟨a0, a1, a2⟩ := HF.out.below b1 (by omega)
  have y1 := (b1.cell (p := ⟨w.heap.size + 1, 0, none⟩) hz).trans HYC.out
  have HB1 := Lib.hid (HB.out.trans (b1.mono HB.out.size))
  have HAL1 := Lib.hid (HAL.out w1 HB1.out y1)
  clear hcall b1 hB HAL
  go_wp2_with fail
  refine (HWI _).mono ?_
  rintro e w2 ⟨rfl, rfl⟩
  clear HWI
  go_wp2_with fail
  refine HAL1.out.mono ?_
  rintro e w2 ⟨v, rfl, hv, b2⟩
  have HV := Lib.hid hv
  have HB2 := Lib.hid (HB1.out.trans (b2.mono HB1.out.size))
  clear hv b2 HAL1 a0 a1 a2 y1
  go_wp2_with fail
  go_ret2
  exact HP.out _ _ HB2.out HV.out

set_option maxHeartbeats 4000000 in
theorem colAt_bad (f : Forme) (y : Int) (A : Option Addr) (b off c : Nat) (w : World) (hA : Lies A f.ps.length w.heap.size b off) (hps : PsAt w b off f.ps) (hnm : NameOk f.ps) (hc : f.ps.length ≤ c) (hm : f.ps.length ≤ 1000) (hs : (checkF f).2 ≠ 0) :
    Calls Try.prog 61 #[.agg #[.int .i64 f.W, .int .i64 f.H, .slice A f.ps.length c], .int .i64 y] w (LinePost [] (checkF f).2 w) := by
  have hcall := fun W (hb : Below w.heap.size w W) => check_any f A b off c W (hA.mono hb.size) (fun j hj => (hps j hj).below hb (hA (by omega)).2) hnm hc (by omega)
  have hB : Below w.heap.size w ((w.alloc (Obj.cells #[Value.int IntKind.i64 f.W, Value.int IntKind.i64 f.H, Value.slice A f.ps.length c] 37)).alloc (Obj.cells #[Value.int IntKind.i64 y] 3)) := (below_new _ _).alloc (by simp) _
  have hF : FAt ((w.alloc (Obj.cells #[Value.int IntKind.i64 f.W, Value.int IntKind.i64 f.H, Value.slice A f.ps.length c] 37)).alloc (Obj.cells #[Value.int IntKind.i64 y] 3)) w.heap.size f (Value.slice A f.ps.length c) := (FAt_new w 37 f (Value.slice A f.ps.length c)).below (below_new _ _) (by simp)
  have hsb := bne_t hs
  have HP : Hid (∀ W s, Below w.heap.size w W → LinePost [] s w (.returned (.tuple #[.slice none 0 0, .int .i64 s])) W) := (show ∀ W s, _ from fun W s h => ⟨_, rfl, intsV_nil W, h⟩)
  generalize (checkF f).2 = s at *
  generalize f.ps.length = n at *
  clear hs hA hps hnm
  go_enter Try.func61, Try.ntmps61
  go_wp2_with fail
  generalize ((w.alloc (Obj.cells #[Value.int IntKind.i64 f.W, Value.int IntKind.i64 f.H, Value.slice A n c] 37)).alloc (Obj.cells #[Value.int IntKind.i64 y] 3)) = W0 at *
  obtain ⟨a0, a1, a2⟩ := hF
  have HB := Lib.hid hB
  go_wp2_with fail
  refine (hcall _ hB).mono ?_
  rintro e w1 ⟨rfl, b1⟩
  have HB1 := Lib.hid (HB.out.trans (b1.mono HB.out.size))
  clear hcall b1 hB a0 a1 a2
  go_wp2_with fail
  go_ret2
  exact HP.out _ _ HB1.out
set_option maxHeartbeats 4000000 in
theorem colAt_out (f : Forme) (y : Int) (A : Option Addr) (b off c : Nat) (w : World) (hA : Lies A f.ps.length w.heap.size b off) (hps : PsAt w b off f.ps) (hnm : NameOk f.ps) (hc : f.ps.length ≤ c) (hm : f.ps.length ≤ 1000) (hs : (checkF f).2 = 0) (hy : win y 0 (f.W - 1) = false) :
    Calls Try.prog 61 #[.agg #[.int .i64 f.W, .int .i64 f.H, .slice A f.ps.length c], .int .i64 y] w (LinePost [] 2 w) := by
  have hcall := fun W (hb : Below w.heap.size w W) => check_any f A b off c W (hA.mono hb.size) (fun j hj => (hps j hj).below hb (hA (by omega)).2) hnm hc (by omega)
  have hL := (checkF_zero hs).toLaid
  have z1 := hL.w1; have z2 := hL.w2; have z3 := hL.h1; have z4 := hL.h2
  have hB : Below w.heap.size w ((w.alloc (Obj.cells #[Value.int IntKind.i64 f.W, Value.int IntKind.i64 f.H, Value.slice A f.ps.length c] 37)).alloc (Obj.cells #[Value.int IntKind.i64 y] 3)) := (below_new _ _).alloc (by simp) _
  have hF : FAt ((w.alloc (Obj.cells #[Value.int IntKind.i64 f.W, Value.int IntKind.i64 f.H, Value.slice A f.ps.length c] 37)).alloc (Obj.cells #[Value.int IntKind.i64 y] 3)) w.heap.size f (Value.slice A f.ps.length c) := (FAt_new w 37 f (Value.slice A f.ps.length c)).below (below_new _ _) (by simp)
  have hY : ((w.alloc (Obj.cells #[Value.int IntKind.i64 f.W, Value.int IntKind.i64 f.H, Value.slice A f.ps.length c] 37)).alloc (Obj.cells #[Value.int IntKind.i64 y] 3)).cell? ⟨w.heap.size + 1, 0, none⟩ = some (.int .i64 y) := by simp [go_sem]
  have hz : w.heap.size + 1 < ((w.alloc (Obj.cells #[Value.int IntKind.i64 f.W, Value.int IntKind.i64 f.H, Value.slice A f.ps.length c] 37)).alloc (Obj.cells #[Value.int IntKind.i64 y] 3)).heap.size := by simp
  have HP : Hid (∀ W s, Below w.heap.size w W → LinePost [] s w (.returned (.tuple #[.slice none 0 0, .int .i64 s])) W) := (show ∀ W s, _ from fun W s h => ⟨_, rfl, intsV_nil W, h⟩)
  rw [hs] at hcall
  generalize f.ps.length = n at *
  have HY := Lib.hid hy
  have HWI := fun W => within_any y 0 (f.W - 1) W
  rw [hy] at HWI
  clear hs hA hps hnm hL hy
  go_enter Try.func61, Try.ntmps61
  go_wp2_with fail
  generalize ((w.alloc (Obj.cells #[Value.int IntKind.i64 f.W, Value.int IntKind.i64 f.H, Value.slice A n c] 37)).alloc (Obj.cells #[Value.int IntKind.i64 y] 3)) = W0 at *
  have HF := Lib.hid hF
  obtain ⟨a0, a1, a2⟩ := hF
  have HB := Lib.hid hB
  have HYC := Lib.hid hY
  clear hY
  go_wp2_with fail
  refine (hcall _ hB).mono ?_
  rintro e w1 ⟨rfl, b1⟩
  clear a0 a1 a2
  obtain ⟨a0, a1, a2⟩ := HF.out.below b1 (by omega)
  have y1 := (b1.cell (p := ⟨w.heap.size + 1, 0, none⟩) hz).trans HYC.out
  have HB1 := Lib.hid (HB.out.trans (b1.mono HB.out.size))
  clear hcall b1 hB
  go_wp2_with fail
  refine (HWI _).mono ?_
  rintro e w2 ⟨rfl, rfl⟩
  clear HWI
  go_wp2_with fail
  go_ret2
  exact HP.out _ _ HB1.out
set_option maxHeartbeats 4000000 in
theorem colAt_ok (f : Forme) (y : Int) (A : Option Addr) (b off c : Nat) (w : World) (hA : Lies A f.ps.length w.heap.size b off) (hps : PsAt w b off f.ps) (hnm : NameOk f.ps) (hc : f.ps.length ≤ c) (hm : f.ps.length ≤ 1000) (hs : (checkF f).2 = 0) (hy : win y 0 (f.W - 1) = true) :
    Calls Try.prog 61 #[.agg #[.int .i64 f.W, .int .i64 f.H, .slice A f.ps.length c], .int .i64 y] w (LinePost (colL f y) 0 w) := by
  have hcall := fun W (hb : Below w.heap.size w W) => check_any f A b off c W (hA.mono hb.size) (fun j hj => (hps j hj).below hb (hA (by omega)).2) hnm hc (by omega)
  have hL := (checkF_zero hs).toLaid
  have z1 := hL.w1; have z2 := hL.w2; have z3 := hL.h1; have z4 := hL.h2
  have hB : Below w.heap.size w ((w.alloc (Obj.cells #[Value.int IntKind.i64 f.W, Value.int IntKind.i64 f.H, Value.slice A f.ps.length c] 37)).alloc (Obj.cells #[Value.int IntKind.i64 y] 3)) := (below_new _ _).alloc (by simp) _
  have hF : FAt ((w.alloc (Obj.cells #[Value.int IntKind.i64 f.W, Value.int IntKind.i64 f.H, Value.slice A f.ps.length c] 37)).alloc (Obj.cells #[Value.int IntKind.i64 y] 3)) w.heap.size f (Value.slice A f.ps.length c) := (FAt_new w 37 f (Value.slice A f.ps.length c)).below (below_new _ _) (by simp)
  have hY : ((w.alloc (Obj.cells #[Value.int IntKind.i64 f.W, Value.int IntKind.i64 f.H, Value.slice A f.ps.length c] 37)).alloc (Obj.cells #[Value.int IntKind.i64 y] 3)).cell? ⟨w.heap.size + 1, 0, none⟩ = some (.int .i64 y) := by simp [go_sem]
  have hz : w.heap.size + 1 < ((w.alloc (Obj.cells #[Value.int IntKind.i64 f.W, Value.int IntKind.i64 f.H, Value.slice A f.ps.length c] 37)).alloc (Obj.cells #[Value.int IntKind.i64 y] 3)).heap.size := by simp
  have HP : Hid (∀ W v, Below w.heap.size w W → IntsV W (zl (colL f y)) v → LinePost (colL f y) 0 w (.returned (.tuple #[v, .int .i64 0])) W) := (show ∀ W v, _ from fun W v h h2 => ⟨_, rfl, h2, h⟩)
  have HAL : Hid (∀ W, Below w.heap.size w W → W.cell? ⟨w.heap.size + 1, 0, none⟩ = some (.int .i64 y) → Calls Try.prog 118 #[.agg #[.int .i64 f.W, .int .i64 f.H, .slice A f.ps.length c], .func (.func 122) #[] #[.pointer (some ⟨w.heap.size + 1, 0, none⟩)], .func (.func 123) #[] #[]] W (AlongPost (colL f y) W)) :=
    (show ∀ W, _ from fun W hW hYW => along_any f (isCol y) (fun p => p.y) 122 123 _ A b off c W (hA.mono hW.size) (fun j hj => (hps j hj).below hW (hA (by omega)).2) hm enters122
      (fun W2 j hb2 hj => col_is (gp f.ps j) y (w.heap.size + 1) W2 ((hb2.cell (p := ⟨w.heap.size + 1, 0, none⟩) (block_lt_of_cell hYW)).trans hYW) (hL.sml hj)) (col_ask f.ps _ b off) (hL.col_inj y))
  rw [hs] at hcall
  generalize colL f y = res at *
  generalize f.ps.length = n at *
  have HY := Lib.hid hy
  have HWI := fun W => within_any y 0 (f.W - 1) W
  rw [hy] at HWI
  clear hs hA hps hnm hL hy
  go_enter Try.func61, Try.ntmps61
  go_wp2_with fail
  generalize ((w.alloc (Obj.cells #[Value.int IntKind.i64 f.W, Value.int IntKind.i64 f.H, Value.slice A n c] 37)).alloc (Obj.cells #[Value.int IntKind.i64 y] 3)) = W0 at *
  have HF := Lib.hid hF
  obtain ⟨a0, a1, a2⟩ := hF
  have HB := Lib.hid hB
  have HYC := Lib.hid hY
  clear hY
  go_wp2_with fail
  refine (hcall _ hB).mono ?_
  rintro e w1 ⟨rfl, b1⟩
  clear a0 a1 a2
  obtain ⟨a0, a1, a2⟩ := HF.out.below b1 (by omega)
  have y1 := (b1.cell (p := ⟨w.heap.size + 1, 0, none⟩) hz).trans HYC.out
  have HB1 := Lib.hid (HB.out.trans (b1.mono HB.out.size))
  have HAL1 := Lib.hid (HAL.out w1 HB1.out y1)
  clear hcall b1 hB HAL
  go_wp2_with fail
  refine (HWI _).mono ?_
  rintro e w2 ⟨rfl, rfl⟩
  clear HWI
  go_wp2_with fail
  refine HAL1.out.mono ?_
  rintro e w2 ⟨v, rfl, hv, b2⟩
  have HV := Lib.hid hv
  have HB2 := Lib.hid (HB1.out.trans (b2.mono HB1.out.size))
  clear hv b2 HAL1 a0 a1 a2 y1
  go_wp2_with fail
  go_ret2
  exact HP.out _ _ HB2.out HV.out
end Go.Proofs.Ytlfeoofchebbkaa
