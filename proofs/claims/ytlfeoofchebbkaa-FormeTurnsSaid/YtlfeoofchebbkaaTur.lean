/- Turned, Mirrored and Bill at formes in memory: contracts for the law. -/
import Derived.Test.YtlfeoofchebbkaaBlk
import Derived.Test.YtlfeoofchebbkaaTrn
import Derived.Test.YtlfeoofchebbkaaSam
import Derived.Test.YtlfeoofchebbkaaLw
namespace Go.Proofs.Ytlfeoofchebbkaa
set_option linter.unusedSimpArgs false
set_option linter.unusedVariables false
open Go.RowKit
/-- The box of a law of one forme, and its argument. -/
structure LG (w W : World) (f : Forme) (A : Option Addr) (b off c : Nat) : Prop where
  B : Below w.heap.size w W
  F : FAt W w.heap.size f (.slice A f.ps.length c)
  la : Lies A f.ps.length w.heap.size b off
  ps : PsAt W b off f.ps
  z : w.heap.size < W.heap.size
theorem LG.step {w W W' : World} {f : Forme} {A : Option Addr} {b off c : Nat} (h : LG w W f A b off c) (hb : Below W.heap.size W W') : LG w W' f A b off c :=
  ⟨h.B.trans (hb.mono h.B.size), h.F.below hb h.z, h.la, fun j hj => (h.ps j hj).below (hb.mono h.B.size) (h.la (by omega)).2, by have := h.z; have := hb.size; omega⟩
theorem LG.l {w W : World} {f : Forme} {A : Option Addr} {b off c : Nat} (h : LG w W f A b off c) : Lies A f.ps.length W.heap.size b off := h.la.mono h.B.size
/-- A forme's value, its pieces in memory from block B on. -/
def GAt (W : World) (B : Nat) (f : Forme) (v : Value) : Prop := ∃ A b off c, v = .agg #[.int .i64 f.W, .int .i64 f.H, .slice A f.ps.length c] ∧ Lies A f.ps.length W.heap.size b off ∧ PsAt W b off f.ps ∧ f.ps.length ≤ c ∧ (0 < f.ps.length → B ≤ b)
theorem GAt.below {W W' : World} {B : Nat} {f : Forme} {v : Value} (h : GAt W B f v) (hb : Below W.heap.size W W') : GAt W' B f v := by
  obtain ⟨A, b, off, c, rfl, h1, h2, h3, h4⟩ := h
  exact ⟨A, b, off, c, rfl, h1.mono hb.size, fun j hj => (h2 j hj).below hb (h1 (by omega)).2, h3, h4⟩
theorem GAt.weak {W : World} {B : Nat} {f : Forme} {v : Value} (h : GAt W B f v) : GAt W 0 f v := by
  obtain ⟨A, b, off, c, rfl, h1, h2, h3, h4⟩ := h
  exact ⟨A, b, off, c, rfl, h1, h2, h3, fun _ => Nat.zero_le _⟩
theorem piece_far {w : World} {b off : Nat} {p : Piece} (h : PAt w b off p) {a : Addr} (ha : a.block ≠ b) (v : Value) : PAt (w.setCell a v) b off p := by
  obtain ⟨h0, h1, h2, h3, h4, h5⟩ := h
  exact ⟨(World.cell?_setCell_far _ _ _ _ ha).trans h0, (World.cell?_setCell_far _ _ _ _ ha).trans h1, (World.cell?_setCell_far _ _ _ _ ha).trans h2, (World.cell?_setCell_far _ _ _ _ ha).trans h3, (World.cell?_setCell_far _ _ _ _ ha).trans h4, (World.cell?_setCell_far _ _ _ _ ha).trans h5⟩
theorem GAt.far {W : World} {B : Nat} {f : Forme} {v : Value} (h : GAt W B f v) {p : Addr} (hp : p.block < B) (u : Value) : GAt (W.setCell p u) B f v := by
  obtain ⟨A, b, off, c, rfl, h1, h2, h3, h4⟩ := h
  exact ⟨A, b, off, c, rfl, by simpa [World.setCell] using h1, fun j hj => piece_far (h2 j hj) (by have := h4 (by omega); omega) u, h3, h4⟩
theorem PsOwn.g {W : World} {B : Nat} {f : Forme} {v : Value} (h : PsOwn W B f.ps v) : GAt W B f (.agg #[.int .i64 f.W, .int .i64 f.H, v]) := by
  obtain ⟨A, b, c, rfl, h1, h2, h3, h4⟩ := h
  exact ⟨A, b, 0, c, rfl, h2, h3, h1, fun h => (h4 h).1⟩
theorem LG.g {w W : World} {f : Forme} {A : Option Addr} {b off c : Nat} (h : LG w W f A b off c) (hc : f.ps.length ≤ c) : GAt W 0 f (.agg #[.int .i64 f.W, .int .i64 f.H, .slice A f.ps.length c]) :=
  ⟨A, b, off, c, rfl, h.l, h.ps, hc, fun _ => Nat.zero_le _⟩
theorem LG.just {w W W' : World} {f : Forme} {A : Option Addr} {b off c : Nat} (h : LG w W f A b off c) (hb : Below (w.heap.size + 1) W W') : LG w W' f A b off c :=
  ⟨h.B.trans (hb.mono (by omega)), h.F.below hb (by omega), h.la, fun j hj => (h.ps j hj).below hb (by have := (h.la (by omega)).2; omega), by have := h.z; have := hb.size; omega⟩
def emptyF : Forme := ⟨0, 0, []⟩
theorem empty_at (W : World) : GAt W 0 emptyF (.agg #[.int .i64 0, .int .i64 0, .slice none 0 0]) := ⟨none, 0, 0, 0, rfl, fun h => by simp [emptyF] at h, fun j hj => by simp [emptyF] at hj, Nat.le_refl _, fun _ => Nat.le_refl _⟩
/-- A call at a forme in memory. -/
@[reducible] def AtG (n : Nat) (f : Forme) (P : World → Ending → World → Prop) : Prop := ∀ (W : World) (v : Value), GAt W 0 f v → Calls Try.prog n #[v] W (P W)
@[reducible] def PostG (g : Forme) (W : World) (e : Ending) (w' : World) : Prop := ∃ v, e = .returned v ∧ GAt w' W.heap.size g v ∧ Below W.heap.size W w'
@[reducible] def PostE (g : Forme) (W : World) (e : Ending) (w' : World) : Prop := ∃ v, e = .returned (.tuple #[v, .int .i64 0]) ∧ GAt w' W.heap.size g v ∧ Below W.heap.size W w'
theorem copyG (f : Forme) (hm : f.ps.length ≤ 1000000) : AtG 28 f (PostG f) := by
  rintro W v ⟨A, b, off, c, rfl, h1, h2, h3, -⟩
  refine (copyF_any f A b off c W h1 h2 hm).mono ?_
  rintro e w' ⟨v, rfl, ho, hb⟩
  exact ⟨_, rfl, ho.g, hb⟩
theorem turnG (f : Forme) (hr : f.Right) (hn : NameOk f.ps) : AtG 66 f (PostE (turnF f)) := by
  rintro W v ⟨A, b, off, c, rfl, h1, h2, h3, -⟩
  refine (turnP_ok f A b off c W h1 h2 hn h3 (by have := hr.few; omega) (right_check hr)).mono ?_
  rintro e w' ⟨v, rfl, ho, hb⟩
  exact ⟨_, rfl, ho.g, hb⟩
theorem mirG (f : Forme) (hr : f.Right) (hn : NameOk f.ps) : AtG 67 f (PostE f.mirror) := by
  rintro W v ⟨A, b, off, c, rfl, h1, h2, h3, -⟩
  refine (mirrorP_ok f A b off c W h1 h2 hn h3 (by have := hr.few; omega) (right_check hr)).mono ?_
  rintro e w' ⟨v, rfl, ho, hb⟩
  exact ⟨_, rfl, ho.g, hb⟩
theorem billG (f : Forme) (hr : f.Right) (hn : NameOk f.ps) : AtG 68 f fun W e w' => ∃ l v, e = .returned (.tuple #[v, .int .i64 0]) ∧ BillOf f.ps l ∧ l.length ≤ f.ps.length ∧ TsV w' l v ∧ Below W.heap.size W w' := by
  rintro W v ⟨A, b, off, c, rfl, h1, h2, h3, -⟩
  exact bill_ok f A b off c W h1 h2 hn h3 (by have := hr.few; omega) (right_check hr)
theorem billG_at (f : Forme) (hr : f.Right) (hn : NameOk f.ps) {ps : List Piece} {l : List Tri} (hl : BillOf ps l) (he : ∀ a b, cntF ps a b = cntF f.ps a b) : AtG 68 f fun W e w' => ∃ v, e = .returned (.tuple #[v, .int .i64 0]) ∧ TsV w' l v ∧ Below W.heap.size W w' := fun W v h => by
  refine (billG f hr hn W v h).mono ?_
  rintro e w' ⟨l2, v2, rfl, h1, h2, h3, h4⟩
  have := hl.unique h1 he
  subst this
  exact ⟨_, rfl, h3, h4⟩
theorem turnRG (f : Forme) (hr : f.Right) : AtG 70 f (PostG (turnF f)) := by
  rintro W v ⟨A, b, off, c, rfl, h1, h2, h3, -⟩
  refine (turnedR_any f A b off c W h1 h2 hr (by have := hr.few; omega)).mono ?_
  rintro e w' ⟨v, rfl, ho, hb⟩
  exact ⟨_, rfl, ho.g, hb⟩
theorem mirRG (f : Forme) (hr : f.Right) : AtG 71 f (PostG f.mirror) := by
  rintro W v ⟨A, b, off, c, rfl, h1, h2, h3, -⟩
  refine (mirrored_any f A b off c W h1 h2 hr.toLaid (by have := hr.few; omega)).mono ?_
  rintro e w' ⟨v, rfl, ho, hb⟩
  exact ⟨_, rfl, ho.g, hb⟩
theorem billRG (f : Forme) (hr : f.Right) {l : List Tri} (hl : BillOf f.ps l) : AtG 73 f fun W e w' => ∃ v, e = .returned v ∧ TsV w' l v ∧ Below W.heap.size W w' := by
  rintro W v ⟨A, b, off, c, rfl, h1, h2, h3, -⟩
  refine (refBill_any f A b off c W h1 h2 (by have := hr.few; omega)).mono ?_
  rintro e w' ⟨l2, v2, rfl, h1, h2, h3, h4⟩
  have := hl.unique h1 fun _ _ => rfl
  subst this
  exact ⟨_, rfl, h3, h4⟩
theorem sameG (g : Forme) (hm : g.ps.length ≤ 1000000) (W : World) (va vb : Value) (ha : GAt W 0 g va) (hb : GAt W 0 g vb) : Calls Try.prog 69 #[va, vb] W fun e w' => e = .returned (.bool true) ∧ Below W.heap.size W w' := by
  obtain ⟨A, b, off, c, rfl, h1, h2, h3, -⟩ := ha
  obtain ⟨A2, b2, off2, c2, rfl, k1, k2, k3, -⟩ := hb
  exact same_true g A A2 b off c b2 off2 c2 W h1 h2 k1 k2 hm
theorem TsV.below {W W' : World} {l : List Tri} {v : Value} (h : TsV W l v) (hb : Below W.heap.size W W') : TsV W' l v := by
  obtain ⟨A, b, c, rfl, h1, h2⟩ := h
  exact ⟨A, b, c, rfl, h1.mono hb.size, fun j hj => h2.below hb (h1 (by omega)).2 j hj⟩
theorem sameB (l : List Tri) (hm : l.length ≤ 1000000) (W : World) (va vb : Value) (ha : TsV W l va) (hb : TsV W l vb) : Calls Try.prog 72 #[va, vb] W fun e w' => e = .returned (.bool true) ∧ Below W.heap.size W w' := by
  obtain ⟨A, b, c, rfl, h1, h2⟩ := ha
  obtain ⟨A2, b2, c2, rfl, k1, k2⟩ := hb
  exact sameBills_true l A A2 b 0 c b2 0 c2 W h1 h2 k1 k2 hm
theorem refG (f : Forme) (hn : NameOk f.ps) (hm : f.ps.length ≤ 1000000) : AtG 43 f fun W e w' => e = .returned (.tuple #[.int .i64 (checkF f).1, .int .i64 (checkF f).2]) ∧ Below W.heap.size W w' := by
  rintro W v ⟨A, b, off, c, rfl, h1, h2, h3, -⟩
  exact refForme_any f A b off c W h1 h2 hn h3 (by omega)
theorem turnBG (f : Forme) (hn : NameOk f.ps) (hm : f.ps.length ≤ 1000000) (hs : (checkF f).2 ≠ 0) : AtG 66 f fun W => BadPost W (checkF f).2 := by
  rintro W v ⟨A, b, off, c, rfl, h1, h2, h3, -⟩
  exact turnP_bad f A b off c W h1 h2 hn h3 (by omega) hs
theorem mirBG (f : Forme) (hn : NameOk f.ps) (hm : f.ps.length ≤ 1000000) (hs : (checkF f).2 ≠ 0) : AtG 67 f fun W => BadPost W (checkF f).2 := by
  rintro W v ⟨A, b, off, c, rfl, h1, h2, h3, -⟩
  exact mirrorP_bad f A b off c W h1 h2 hn h3 (by omega) hs
theorem billBG (f : Forme) (hn : NameOk f.ps) (hm : f.ps.length ≤ 1000000) (hs : (checkF f).2 ≠ 0) : AtG 68 f fun W e w' => e = .returned (.tuple #[.slice none 0 0, .int .i64 (checkF f).2]) ∧ Below W.heap.size W w' := by
  rintro W v ⟨A, b, off, c, rfl, h1, h2, h3, -⟩
  exact bill_bad f A b off c W h1 h2 hn h3 (by omega) hs
/-- A box that holds a forme. -/
structure BXG (W : World) (g : Nat) (f : Forme) (A : Option Addr) (c : Nat) : Prop where
  blk : Blk W g 37 #[.int .i64 f.W, .int .i64 f.H, .slice A f.ps.length c]
  gat : GAt W 0 f (.agg #[.int .i64 f.W, .int .i64 f.H, .slice A f.ps.length c])
theorem BXG.step {W W' : World} {g : Nat} {f : Forme} {A : Option Addr} {c : Nat} (h : BXG W g f A c) (hb : Below W.heap.size W W') : BXG W' g f A c := ⟨h.blk.below hb h.blk.lt, h.gat.below hb⟩
theorem bxg_new {W : World} {f : Forme} {A : Option Addr} {c : Nat} (h : GAt W 0 f (.agg #[.int .i64 f.W, .int .i64 f.H, .slice A f.ps.length c])) : BXG (W.alloc (Obj.cells #[.int .i64 f.W, .int .i64 f.H, .slice A f.ps.length c] 37)) W.heap.size f A c :=
  ⟨Blk.new W 37 _, h.below (below_new W _)⟩
theorem BXG.cells {W : World} {g : Nat} {f : Forme} {A : Option Addr} {c : Nat} (h : BXG W g f A c) : W.cell? ⟨g, 0, none⟩ = some (.int .i64 f.W) ∧ W.cell? ⟨g, 1, none⟩ = some (.int .i64 f.H) ∧ W.cell? ⟨g, 2, none⟩ = some (.slice A f.ps.length c) :=
  ⟨h.blk.cell 0, h.blk.cell 1, h.blk.cell 2⟩
/-- Another forme is laid into the box. -/
theorem BXG.put {W : World} {g B : Nat} {f f2 : Forme} {A A2 : Option Addr} {c c2 : Nat} (h : BXG W g f A c) (h2 : GAt W B f2 (.agg #[.int .i64 f2.W, .int .i64 f2.H, .slice A2 f2.ps.length c2])) (hB : g < B) :
    BXG (((W.setCell ⟨g, 0, none⟩ (.int .i64 f2.W)).setCell ⟨g, 1, none⟩ (.int .i64 f2.H)).setCell ⟨g, 2, none⟩ (.slice A2 f2.ps.length c2)) g f2 A2 c2 :=
  ⟨((h.blk.set_ 0 _).set_ 1 _).set_ 2 _, (((h2.far (p := ⟨g, 0, none⟩) hB _).far (p := ⟨g, 1, none⟩) hB _).far (p := ⟨g, 2, none⟩) hB _).weak⟩
def turnK : Nat → Forme → Forme
  | 0, f => f
  | k + 1, f => turnF (turnK k f)
structure TurnAt (f : Forme) (k : Nat) (g : Forme) : Prop where
  eq : g = turnK (k + 1) f
  right : g.Right
  names : NameOk g.ps
  len : g.ps.length = f.ps.length
theorem TurnAt.step {f g : Forme} {k : Nat} (h : TurnAt f k g) : TurnAt f (k + 1) (turnF g) := ⟨by rw [h.eq]; rfl, turn_right h.right, turn_names h.names, (turnF_len g).trans h.len⟩
theorem turnAt_zero {f : Forme} (h : f.Right) (hn : NameOk f.ps) : TurnAt f 0 (turnF f) := ⟨rfl, turn_right h, turn_names hn, turnF_len f⟩
theorem TurnAt.last {f g : Forme} (h : TurnAt f 3 g) (hr : f.Right) : g = f := h.eq.trans (turn4 hr)
end Go.Proofs.Ytlfeoofchebbkaa
/- FormeTurns: Turned, Mirrored and Bill return what the document specifies, or the errors; four turns, two mirrors are none. -/
namespace Go.Proofs.Ytlfeoofchebbkaa
set_option linter.unusedSimpArgs false
set_option linter.unusedVariables false
open Go.RowKit
set_option maxRecDepth 100000 in
set_option maxHeartbeats 8000000 in
theorem turns_any (f : Forme) (A : Option Addr) (b off c : Nat) (w : World) (hA : Lies A f.ps.length w.heap.size b off) (hps : PsAt w b off f.ps) (hc : f.ps.length ≤ c) (hm : c ≤ maxLen) :
    Calls Try.prog 15 #[.agg #[.int .i64 f.W, .int .i64 f.H, .slice A f.ps.length c]] w fun e w' => e = .returned (.bool true) ∧ Below w.heap.size w w' := by
  have hHL : LG w (w.alloc (Obj.cells #[Value.int IntKind.i64 f.W, Value.int IntKind.i64 f.H, Value.slice A f.ps.length c] 37)) f A b off c := ⟨below_new _ _, FAt_new w 37 f _, hA, fun j hj => (hps j hj).below (below_new _ _) (hA (by omega)).2, by simp⟩
  unfold maxLen at hm
  go_enter Try.func15, Try.ntmps15
  go_wp2_with fail
  generalize w.alloc (Obj.cells #[Value.int IntKind.i64 f.W, Value.int IntKind.i64 f.H, Value.slice A f.ps.length c] 37) = W0 at *
  have HL0 := Lib.hid hHL
  clear hHL hA hps
  refine (awake_any _).mono ?_
  rintro e W1 ⟨rfl, e1⟩
  have HL := Lib.hid (HL0.out.step e1)
  clear HL0 e1
  obtain ⟨a0, a1, a2⟩ := HL.out.F
  go_wp2_with fail
  refine (light_any f A b off c W1 HL.out.l HL.out.ps (by omega)).mono ?_
  rintro e W2 ⟨rfl, e1⟩
  have HL2 := Lib.hid (HL.out.step e1)
  clear HL e1 a0 a1 a2
  have HLT := Lib.hid (fun h => lightB_t (f := f) h)
  generalize lightB f = lb at *
  cases lb with
  | false =>
    go_wp2_with fail
    go_ret
    exact ⟨rfl, HL2.out.B⟩
  | true =>
    obtain ⟨hnm, hlen⟩ := HLT.out rfl
    have HNM := Lib.hid hnm
    clear hnm HLT
    have HL := Lib.hid HL2.out
    clear HL2
    have HGF : Hid (∀ W, LG w W f A b off c → GAt W 0 f (.agg #[.int .i64 f.W, .int .i64 f.H, .slice A f.ps.length c])) := (show ∀ W, _ from fun W h => h.g hc)
    have H28 := Lib.hid (copyG f (by omega))
    have H43 := Lib.hid (refG f HNM.out (by omega))
    by_cases hs : (checkF f).2 = 0
    · have hR := checkF_zero hs
      have H66 := Lib.hid (turnG f hR HNM.out)
      have H67 := Lib.hid (mirG f hR HNM.out)
      have H68 := Lib.hid (billG f hR HNM.out)
      have H70 := Lib.hid (turnRG f hR)
      have H71 := Lib.hid (mirRG f hR)
      have H73 : Hid (∀ l, BillOf f.ps l → AtG 73 f fun W e w' => ∃ v, e = .returned v ∧ TsV w' l v ∧ Below W.heap.size W w') := (show ∀ l, _ from fun l hl => billRG f hR hl)
      have H69 : Hid (∀ (g : Forme), g.ps.length = f.ps.length → ∀ (W : World) (va vb : Value), GAt W 0 g va → GAt W 0 g vb → Calls Try.prog 69 #[va, vb] W fun e w' => e = .returned (.bool true) ∧ Below W.heap.size W w') := (show ∀ g, _ from fun g hg => sameG g (by omega))
      have HTR := Lib.hid (turn_right hR)
      have HTN := Lib.hid (turn_names HNM.out)
      have HTL := Lib.hid (turnF_len f)
      have HMR := Lib.hid (mirror_right hR)
      have HMN := Lib.hid (mirror_names HNM.out)
      have HML := Lib.hid (mirror_len f)
      have HMM := Lib.hid (mirror_mirror f)
      have HTA := Lib.hid (turnAt_zero hR HNM.out)
      have HTC := Lib.hid (turn_cnt f hR)
      have HRR := Lib.hid hR
      rw [hs] at H43
      clear hs hR
      generalize turnF f = ft at *
      generalize f.mirror = fm at *
      generalize (checkF f).1 = c43 at *
      have H28a := Lib.hid (copyG ft (by have := HTL.out; omega))
      have H28b := Lib.hid (copyG fm (by have := HML.out; omega))
      have H67b : Hid (AtG 67 fm (PostE f)) := by
        show AtG 67 fm (PostE f)
        have := mirG fm HMR.out HMN.out
        rwa [HMM.out] at this
      have H68a : Hid (∀ l, BillOf f.ps l → AtG 68 ft fun W e w' => ∃ v, e = .returned (.tuple #[v, .int .i64 0]) ∧ TsV w' l v ∧ Below W.heap.size W w') := (show ∀ l, _ from fun l hl => billG_at ft HTR.out HTN.out hl HTC.out)
      obtain ⟨a0, a1, a2⟩ := HL.out.F
      go_wp2_with fail
      refine (H28.out _ _ (HGF.out _ HL.out)).mono ?_
      rintro e v1 ⟨vf, rfl, hf4, hb4⟩
      have HLm := Lib.hid (HL.out.step hb4)
      have HF4 := Lib.hid hf4.weak
      clear HL hb4 hf4 a0 a1 a2
      go_wp2_with fail
      refine (H66.out _ vf HF4.out).mono ?_
      rintro e W3 ⟨va, rfl, hga, hb6⟩
      have HL := Lib.hid (HLm.out.step hb6)
      have hga0 := hga.weak
      obtain ⟨A1, b1, o1, c1, rfl, -⟩ := hga
      have hX := bxg_new hga0
      have hL := HL.out.step (below_new W3 (Obj.cells #[.int .i64 ft.W, .int .i64 ft.H, .slice A1 ft.ps.length c1] 37))
      have HAZ : Hid (w.heap.size < W3.heap.size) := HL.out.z
      have HLn := Lib.hid hL
      have HXA := Lib.hid hX
      obtain ⟨a0, a1, a2⟩ := hL.F
      clear HLm HF4 hb6 HL hga0 hX hL
      go_wp2_with fail
      generalize W3.alloc (Obj.cells #[.int .i64 ft.W, .int .i64 ft.H, .slice A1 ft.ps.length c1] 37) = W4 at *
      generalize W3.heap.size = ga at *
      refine (H28.out _ _ (HGF.out _ HLn.out)).mono ?_
      rintro e v1 ⟨vf, rfl, hf4, hb4⟩
      have HLm := Lib.hid (HLn.out.step hb4)
      have HXAm := Lib.hid (HXA.out.step hb4)
      have HF4 := Lib.hid hf4.weak
      clear HLn HXA hb4 hf4 a0 a1 a2
      go_wp2_with fail
      refine (H67.out _ vf HF4.out).mono ?_
      rintro e W5 ⟨va, rfl, hga, hb6⟩
      have HL := Lib.hid (HLm.out.step hb6)
      have HXA5 := Lib.hid (HXAm.out.step hb6)
      have hga0 := hga.weak
      obtain ⟨A2, b2, o2, c2, rfl, -⟩ := hga
      have hX := bxg_new hga0
      have hbn := below_new W5 (Obj.cells #[.int .i64 fm.W, .int .i64 fm.H, .slice A2 fm.ps.length c2] 37)
      have hL := HL.out.step hbn
      have HXA := Lib.hid (HXA5.out.step hbn)
      have HLn := Lib.hid hL
      have HXB := Lib.hid hX
      obtain ⟨a0, a1, a2⟩ := hL.F
      clear HLm HF4 hb6 HL hga0 hX hL hbn HXAm HXA5
      go_wp2_with fail
      generalize W5.alloc (Obj.cells #[.int .i64 fm.W, .int .i64 fm.H, .slice A2 fm.ps.length c2] 37) = W6 at *
      generalize W5.heap.size = gb at *
      refine (H28.out _ _ (HGF.out _ HLn.out)).mono ?_
      rintro e v1 ⟨vf, rfl, hf4, hb4⟩
      have HLm := Lib.hid (HLn.out.step hb4)
      have HXAm := Lib.hid (HXA.out.step hb4)
      have HXBm := Lib.hid (HXB.out.step hb4)
      have HF4 := Lib.hid hf4.weak
      clear HLn HXA HXB hb4 hf4 a0 a1 a2
      go_wp2_with fail
      refine (H68.out _ vf HF4.out).mono ?_
      rintro e W7 ⟨l, vl, rfl, hbo, hll, hts, hb6⟩
      have HL := Lib.hid (HLm.out.step hb6)
      have HXA := Lib.hid (HXAm.out.step hb6)
      have HXB := Lib.hid (HXBm.out.step hb6)
      have HTS := Lib.hid hts
      have HBO := Lib.hid hbo
      have HLL := Lib.hid hll
      clear HLm HXAm HXBm HF4 hb6 hts hbo hll
      obtain ⟨a0, a1, a2⟩ := HL.out.F
      go_wp2_with fail
      refine (H43.out _ _ (HGF.out _ HL.out)).mono ?_
      rintro e W9 ⟨rfl, hb4⟩
      have HLm := Lib.hid (HL.out.step hb4)
      have HXAm := Lib.hid (HXA.out.step hb4)
      have HXBm := Lib.hid (HXB.out.step hb4)
      have HTSm := Lib.hid (HTS.out.below hb4)
      clear HL HXA HXB HTS hb4 a0 a1 a2
      have H73l := Lib.hid (H73.out l HBO.out)
      have H68l := Lib.hid (H68a.out l HBO.out)
      have H72 := Lib.hid (sameB l (by have := HLL.out; omega))
      clear H73 H68a
      have H69a := Lib.hid (H69.out ft HTL.out)
      have H69b := Lib.hid (H69.out fm HML.out)
      have H69f := Lib.hid (H69.out f rfl)
      clear H69
      have HK : Hid (∀ W, Below W9.heap.size W9 W → (W.cell? ⟨w.heap.size, 0, none⟩ = some (.int .i64 f.W) ∧ W.cell? ⟨w.heap.size, 1, none⟩ = some (.int .i64 f.H) ∧ W.cell? ⟨w.heap.size, 2, none⟩ = some (.slice A f.ps.length c) ∧ W.cell? ⟨ga, 0, none⟩ = some (.int .i64 ft.W) ∧ W.cell? ⟨ga, 1, none⟩ = some (.int .i64 ft.H) ∧ W.cell? ⟨ga, 2, none⟩ = some (.slice A1 ft.ps.length c1) ∧ W.cell? ⟨gb, 0, none⟩ = some (.int .i64 fm.W) ∧ W.cell? ⟨gb, 1, none⟩ = some (.int .i64 fm.H) ∧ W.cell? ⟨gb, 2, none⟩ = some (.slice A2 fm.ps.length c2))) := (show ∀ W, _ from fun W hW => by
        obtain ⟨q0, q1, q2⟩ := (HLm.out.step hW).F
        obtain ⟨r0, r1, r2⟩ := (HXAm.out.step hW).cells
        obtain ⟨t0, t1, t2⟩ := (HXBm.out.step hW).cells
        exact ⟨q0, q1, q2, r0, r1, r2, t0, t1, t2⟩)
      have hb0 : Below W9.heap.size W9 W9.drew := (Below.refl _ _).drew
      have hS0 := HK.out W9.drew hb0
      have H0 := Lib.hid hb0
      have HG1 : Hid (∀ W, Below W9.heap.size W9 W → GAt W 0 f (.agg #[.int .i64 f.W, .int .i64 f.H, .slice A f.ps.length c])) := (show ∀ W, _ from fun W hW => HGF.out _ (HLm.out.step hW))
      have HG2 : Hid (∀ W, Below W9.heap.size W9 W → GAt W 0 ft (.agg #[.int .i64 ft.W, .int .i64 ft.H, .slice A1 ft.ps.length c1])) := (show ∀ W, _ from fun W hW => (HXAm.out.step hW).gat)
      have HG3 : Hid (∀ W, Below W9.heap.size W9 W → GAt W 0 fm (.agg #[.int .i64 fm.W, .int .i64 fm.H, .slice A2 fm.ps.length c2])) := (show ∀ W, _ from fun W hW => (HXBm.out.step hW).gat)
      have HG4 : Hid (∀ W, Below W9.heap.size W9 W → TsV W l vl) := (show ∀ W, _ from fun W hW => HTSm.out.below hW)
      clear hb0
      go_wp2_with fail
      go_region_held3 (fun W => (W.cell? ⟨w.heap.size, 0, none⟩ = some (.int .i64 f.W) ∧ W.cell? ⟨w.heap.size, 1, none⟩ = some (.int .i64 f.H) ∧ W.cell? ⟨w.heap.size, 2, none⟩ = some (.slice A f.ps.length c) ∧ W.cell? ⟨ga, 0, none⟩ = some (.int .i64 ft.W) ∧ W.cell? ⟨ga, 1, none⟩ = some (.int .i64 ft.H) ∧ W.cell? ⟨ga, 2, none⟩ = some (.slice A1 ft.ps.length c1) ∧ W.cell? ⟨gb, 0, none⟩ = some (.int .i64 fm.W) ∧ W.cell? ⟨gb, 1, none⟩ = some (.int .i64 fm.H) ∧ W.cell? ⟨gb, 2, none⟩ = some (.slice A2 fm.ps.length c2)))
        (first
          | exact hS0
          | exact HK.out _ hb6
          | exact HK.out _ hb5
          | exact HK.out _ hb4
          | exact HK.out _ hb3
          | exact HK.out _ hb2
          | exact HK.out _ hb1
          | go_keep)
        (first
          | (go_at_call 70; (with_reducible refine (H70.out _ _ (HG1.out _ H0.out)).mono ?_); rintro e w1 ⟨v1, rfl, hv1, hb1'⟩; have hb1 : Below W9.heap.size W9 w1 := H0.out.trans hb1')
          | (go_at_call 71; (with_reducible refine (H71.out _ _ (HG1.out _ hb2)).mono ?_); rintro e w3 ⟨v3, rfl, hv3, hb3'⟩; have hb3 : Below W9.heap.size W9 w3 := hb2.trans (hb3'.mono hb2.size))
          | (go_at_call 69; (with_reducible refine (H69b.out _ _ _ (HG3.out _ hb3) hv3.weak).mono ?_); rintro e w4 ⟨rfl, hb4'⟩; have hb4 : Below W9.heap.size W9 w4 := hb3.trans (hb4'.mono hb3.size))
          | (go_at_call 69; (with_reducible refine (H69a.out _ _ _ (HG2.out _ hb1) hv1.weak).mono ?_); rintro e w2 ⟨rfl, hb2'⟩; have hb2 : Below W9.heap.size W9 w2 := hb1.trans (hb2'.mono hb1.size))
          | (go_at_call 73; (with_reducible refine (H73l.out _ _ (HG1.out _ hb4)).mono ?_); rintro e w5 ⟨v5, rfl, hv5, hb5'⟩; have hb5 : Below W9.heap.size W9 w5 := hb4.trans (hb5'.mono hb4.size))
          | (go_at_call 72; (with_reducible refine (H72.out _ _ _ (HG4.out _ hb5) hv5).mono ?_); rintro e W10 ⟨rfl, hb6'⟩; have hb6 : Below W9.heap.size W9 W10 := hb5.trans (hb6'.mono hb5.size)))
      have HL := Lib.hid (HLm.out.step hb6)
      have HXA := Lib.hid (HXAm.out.step hb6)
      have HXB := Lib.hid (HXBm.out.step hb6)
      have HTS := Lib.hid (HTSm.out.below hb6)
      clear HLm HXAm HXBm HTSm HK hS0 H0 HG1 HG2 HG3 HG4 hb1 hb2 hb3 hb4 hb5 hb6 hb1' hb2' hb3' hb4' hb5' hb6' hv1 hv3 hv5 H66 H67 H68 H70 H71 H73l H43 H28 H69a H69b
      obtain ⟨a0, a1, a2⟩ := HXB.out.cells
      go_wp2_with fail
      refine (H28b.out _ _ HXB.out.gat).mono ?_
      rintro e v1 ⟨vf, rfl, hf4, hb4⟩
      have HLm := Lib.hid (HL.out.step hb4)
      have HXAm := Lib.hid (HXA.out.step hb4)
      have HTSm := Lib.hid (HTS.out.below hb4)
      have HF4 := Lib.hid hf4.weak
      clear HL HXA HXB HTS hb4 hf4 a0 a1 a2
      go_wp2_with fail
      refine (H67b.out _ vf HF4.out).mono ?_
      rintro e W11 ⟨va, rfl, hga, hb6⟩
      have HL := Lib.hid (HLm.out.step hb6)
      have HXA5 := Lib.hid (HXAm.out.step hb6)
      have HTS5 := Lib.hid (HTSm.out.below hb6)
      have hga0 := hga.weak
      obtain ⟨A3, b3, o3, c3, rfl, -⟩ := hga
      have hX := bxg_new hga0
      have hbn := below_new W11 (Obj.cells #[.int .i64 f.W, .int .i64 f.H, .slice A3 f.ps.length c3] 37)
      have HLn := Lib.hid (HL.out.step hbn)
      have HXA := Lib.hid (HXA5.out.step hbn)
      have HTSn := Lib.hid (HTS5.out.below hbn)
      have HXB := Lib.hid hX
      obtain ⟨a0, a1, a2⟩ := HXA.out.cells
      clear HLm HF4 hb6 HL hga0 hX hbn HXAm HXA5 HTSm HTS5
      go_wp2_with fail
      generalize W11.alloc (Obj.cells #[.int .i64 f.W, .int .i64 f.H, .slice A3 f.ps.length c3] 37) = W12 at *
      generalize W11.heap.size = gm at *
      refine (H28a.out _ _ HXA.out.gat).mono ?_
      rintro e v1 ⟨vf, rfl, hf4, hb4⟩
      have HLm := Lib.hid (HLn.out.step hb4)
      have HXAm := Lib.hid (HXA.out.step hb4)
      have HXBm := Lib.hid (HXB.out.step hb4)
      have HTSm := Lib.hid (HTSn.out.below hb4)
      have HF4 := Lib.hid hf4.weak
      clear HLn HXA HXB HTSn hb4 hf4 a0 a1 a2
      go_wp2_with fail
      refine (H68l.out _ vf HF4.out).mono ?_
      rintro e W13 ⟨vk, rfl, hts, hb6⟩
      have HL := Lib.hid (HLm.out.step hb6)
      have HXA := Lib.hid (HXAm.out.step hb6)
      have HXB := Lib.hid (HXBm.out.step hb6)
      have HTS := Lib.hid (HTSm.out.below hb6)
      have HTK := Lib.hid hts
      clear HLm HXAm HXBm HTSm HF4 hb6 hts

      obtain ⟨a0, a1, a2⟩ := HL.out.F
      obtain ⟨x0, x1, x2⟩ := HXB.out.cells
      go_wp2_with fail
      refine (H69f.out _ _ _ HXB.out.gat (HGF.out _ HL.out)).mono ?_
      rintro e W15 ⟨rfl, hb1⟩
      have HLm := Lib.hid (HL.out.step hb1)
      have HXAm := Lib.hid (HXA.out.step hb1)
      have HTSm := Lib.hid (HTS.out.below hb1)
      have HTKm := Lib.hid (HTK.out.below hb1)
      clear HL HXA HXB HTS HTK hb1 a0 a1 a2 x0 x1 x2
      go_wp2_with fail
      refine (H72.out _ _ _ HTKm.out HTSm.out).mono ?_
      rintro e W16 ⟨rfl, hb2⟩
      have HLn := Lib.hid (HLm.out.step hb2)
      have HXAn := Lib.hid (HXAm.out.step hb2)
      clear HLm HXAm HTSm HTKm hb2 H72 H67b H68l H28a H28b HMR HMN HML HMM

      go_wp2_with fail
      go_loopg [15] 3 (fun gg s15 wr => ∃ (k : Nat) (g : Forme) (A4 : Option Addr) (c4 : Nat), k ≤ 3 ∧ 3 - k ≤ gg ∧ s15 = .int .i64 k ∧ Hid (TurnAt f k g) ∧ Hid (BXG wr ga g A4 c4) ∧ Hid (LG w wr f A b off c))
      case atStart => exact ⟨0, ft, A1, c1, by omega, by omega, rfl, HTA.out, HXAn.out, HLn.out⟩
      case round =>
        obtain ⟨k, g, A4, c4, hk, hgk, rfl, TA, XA, LA⟩ := hrel
        by_cases hlt : k < 3
        · have hltz : (k : Int) < (3 : Int) := by omega
          have hk0 : (0 : Int) ≤ (k : Int) := by omega
          have HTg := Lib.hid (turnG g TA.out.right TA.out.names)
          have TA2 := Lib.hid TA.out.step
          generalize turnF g = g2 at *
          obtain ⟨a0, a1, a2⟩ := XA.out.cells
          go_wp2_with fail
          refine (HTg.out _ _ XA.out.gat).mono ?_
          rintro e W14 ⟨va, rfl, hga, hb6⟩
          have hlow : ga < wr.heap.size := XA.out.blk.lt
          have HL := Lib.hid (LA.out.step hb6)
          have HX := Lib.hid (XA.out.step hb6)
          obtain ⟨A5, b5, o5, c5, rfl, hq1, hq2, hq3, hq4⟩ := hga
          have hbn := below_new W14 (Obj.cells #[.int .i64 g2.W, .int .i64 g2.H, .slice A5 g2.ps.length c5] 37)
          have HLn := Lib.hid (HL.out.step hbn)
          have HXn := Lib.hid (HX.out.step hbn)
          have HG5 : Hid (GAt (W14.alloc (Obj.cells #[.int .i64 g2.W, .int .i64 g2.H, .slice A5 g2.ps.length c5] 37)) wr.heap.size g2 (.agg #[.int .i64 g2.W, .int .i64 g2.H, .slice A5 g2.ps.length c5])) := GAt.below ⟨A5, b5, o5, c5, rfl, hq1, hq2, hq3, hq4⟩ hbn
          obtain ⟨s0, s1, s2⟩ := HXn.out.cells
          have t0 := HXn.out.blk.frozen 0
          have t1 := HXn.out.blk.frozen 1
          have t2 := HXn.out.blk.frozen 2
          have HLO := Lib.hid hlow
          clear hb6 hbn hq1 hq2 hq3 hq4 HL HX XA LA TA a0 a1 a2 hlow HTg
          go_wp2_with fail
          go_roundg (3 - (k + 1))
          case measure => omega
          case rel =>
            refine ⟨k + 1, g2, A5, c5, by omega, by omega, by go_num, TA2.out, HXn.out.put HG5.out HLO.out, HLn.out.just ?_⟩
            have hz := HAZ.out
            exact (((Below.refl _ _).setCell (p := ⟨ga, 0, none⟩) hz _).setCell (p := ⟨ga, 1, none⟩) hz _).setCell (p := ⟨ga, 2, none⟩) hz _
        · have hltz : ¬ (k : Int) < (3 : Int) := by omega
          have he : k = 3 := by omega
          subst he
          have hgf := TA.out.last HRR.out
          subst hgf
          obtain ⟨a0, a1, a2⟩ := XA.out.cells
          obtain ⟨x0, x1, x2⟩ := LA.out.F
          go_wp2_with fail
          refine (H69f.out _ _ _ XA.out.gat (HGF.out _ LA.out)).mono ?_
          rintro e W15 ⟨rfl, hb6⟩
          have HB := Lib.hid (LA.out.step hb6).B
          go_wp2_with fail
          go_ret
          exact ⟨rfl, HB.out⟩
    · have H66 := Lib.hid (turnBG f HNM.out (by omega) hs)
      have H67 := Lib.hid (mirBG f HNM.out (by omega) hs)
      have H68 := Lib.hid (billBG f HNM.out (by omega) hs)
      have H69 : Hid (∀ (W : World), Calls Try.prog 69 #[.agg #[.int .i64 0, .int .i64 0, .slice none 0 0], .agg #[.int .i64 0, .int .i64 0, .slice none 0 0]] W fun e w' => e = .returned (.bool true) ∧ Below W.heap.size W w') := (show ∀ W, _ from fun W => sameG emptyF (by simp [emptyF]) W _ _ (empty_at W) (empty_at W))
      have hsb := bne_t hs
      clear hs
      generalize (checkF f).2 = s at *
      generalize (checkF f).1 = c43 at *
      obtain ⟨a0, a1, a2⟩ := HL.out.F
      go_wp2_with fail
      refine (H28.out _ _ (HGF.out _ HL.out)).mono ?_
      rintro e v1 ⟨vf, rfl, hf4, hb4⟩
      have HLm := Lib.hid (HL.out.step hb4)
      have HF4 := Lib.hid hf4.weak
      clear HL hb4 hf4 a0 a1 a2
      go_wp2_with fail
      refine (H66.out _ vf HF4.out).mono ?_
      rintro e W3 ⟨rfl, hb6⟩
      have HL := Lib.hid (HLm.out.step hb6)
      have hL := HL.out.step (below_new W3 (Obj.cells #[.int .i64 0, .int .i64 0, .slice none 0 0] 37))
      have HLn := Lib.hid hL
      have HXA := Lib.hid (Blk.new W3 37 #[.int .i64 0, .int .i64 0, .slice none 0 0])
      obtain ⟨a0, a1, a2⟩ := hL.F
      clear HLm HF4 hb6 HL hL
      go_wp2_with fail
      generalize W3.alloc (Obj.cells #[.int .i64 0, .int .i64 0, .slice none 0 0] 37) = W4 at *
      generalize W3.heap.size = ga at *
      refine (H28.out _ _ (HGF.out _ HLn.out)).mono ?_
      rintro e v1 ⟨vf, rfl, hf4, hb4⟩
      have HLm := Lib.hid (HLn.out.step hb4)
      have HXAm := Lib.hid (HXA.out.below hb4 HXA.out.lt)
      have HF4 := Lib.hid hf4.weak
      clear HLn HXA hb4 hf4 a0 a1 a2
      go_wp2_with fail
      refine (H67.out _ vf HF4.out).mono ?_
      rintro e W5 ⟨rfl, hb6⟩
      have HL := Lib.hid (HLm.out.step hb6)
      have HXA5 := Lib.hid (HXAm.out.below hb6 HXAm.out.lt)
      have hbn := below_new W5 (Obj.cells #[.int .i64 0, .int .i64 0, .slice none 0 0] 37)
      have hL := HL.out.step hbn
      have HXA := Lib.hid (HXA5.out.below hbn HXA5.out.lt)
      have HLn := Lib.hid hL
      have HXB := Lib.hid (Blk.new W5 37 #[.int .i64 0, .int .i64 0, .slice none 0 0])
      obtain ⟨a0, a1, a2⟩ := hL.F
      clear HLm HF4 hb6 HL hL hbn HXAm HXA5
      go_wp2_with fail
      generalize W5.alloc (Obj.cells #[.int .i64 0, .int .i64 0, .slice none 0 0] 37) = W6 at *
      generalize W5.heap.size = gb at *
      refine (H28.out _ _ (HGF.out _ HLn.out)).mono ?_
      rintro e v1 ⟨vf, rfl, hf4, hb4⟩
      have HLm := Lib.hid (HLn.out.step hb4)
      have HXAm := Lib.hid (HXA.out.below hb4 HXA.out.lt)
      have HXBm := Lib.hid (HXB.out.below hb4 HXB.out.lt)
      have HF4 := Lib.hid hf4.weak
      clear HLn HXA HXB hb4 hf4 a0 a1 a2
      go_wp2_with fail
      refine (H68.out _ vf HF4.out).mono ?_
      rintro e W7 ⟨rfl, hb6⟩
      have HL := Lib.hid (HLm.out.step hb6)
      have HXA := Lib.hid (HXAm.out.below hb6 HXAm.out.lt)
      have HXB := Lib.hid (HXBm.out.below hb6 HXBm.out.lt)
      clear HLm HXAm HXBm HF4 hb6
      obtain ⟨a0, a1, a2⟩ := HL.out.F
      go_wp2_with fail
      refine (H43.out _ _ (HGF.out _ HL.out)).mono ?_
      rintro e W9 ⟨rfl, hb4⟩
      have HLm := Lib.hid (HL.out.step hb4)
      have HXAm := Lib.hid (HXA.out.below hb4 HXA.out.lt)
      have HXBm := Lib.hid (HXB.out.below hb4 HXB.out.lt)
      clear HL HXA HXB hb4 a0 a1 a2
      have r0 : W9.cell? ⟨ga, 0, none⟩ = some (.int .i64 0) := HXAm.out.cell 0
      have r1 : W9.cell? ⟨ga, 1, none⟩ = some (.int .i64 0) := HXAm.out.cell 1
      have r2 : W9.cell? ⟨ga, 2, none⟩ = some (.slice none 0 0) := HXAm.out.cell 2
      go_wp2_with fail
      refine (H69.out _).mono ?_
      rintro e W10 ⟨rfl, hb4⟩
      have HL := Lib.hid (HLm.out.step hb4)
      have HXB := Lib.hid (HXBm.out.below hb4 HXBm.out.lt)
      clear HLm HXAm HXBm hb4 r0 r1 r2
      have r0 : W10.cell? ⟨gb, 0, none⟩ = some (.int .i64 0) := HXB.out.cell 0
      have r1 : W10.cell? ⟨gb, 1, none⟩ = some (.int .i64 0) := HXB.out.cell 1
      have r2 : W10.cell? ⟨gb, 2, none⟩ = some (.slice none 0 0) := HXB.out.cell 2
      go_wp2_with fail
      refine (H69.out _).mono ?_
      rintro e W11 ⟨rfl, hb4⟩
      have HB := Lib.hid (HL.out.step hb4).B
      clear HL HXB hb4 r0 r1 r2
      go_wp2_with fail
      go_ret
      exact ⟨rfl, HB.out⟩
end Go.Proofs.Ytlfeoofchebbkaa
