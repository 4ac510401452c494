/- at, PieceAt, FirstGap: where a forme has its first gap. -/
import Derived.Test.YtlfeoofchebbkaaLw
namespace Go.Proofs.Ytlfeoofchebbkaa
set_option linter.unusedSimpArgs false
set_option linter.unusedVariables false
open Go.RowKit
def covB (p : Piece) (x y : Int) : Bool := win x p.x (p.x + p.w - 1) && win y p.y (p.y + p.h - 1)
theorem covB_iff {p : Piece} {x y : Int} : covB p x y = true ↔ p.cov x y := by
  unfold covB Piece.cov
  rw [Bool.and_eq_true, win_t, win_t]
  omega
theorem covB_not {p : Piece} {x y : Int} : covB p x y = false ↔ ¬ p.cov x y := by
  rw [← covB_iff]; simp
theorem covers_any (p : Piece) (x y : Int) (w : World) (hp : Sml p) : Calls Try.prog 120 #[.agg (pcs p), .int .i64 x, .int .i64 y] w fun e w' => e = .returned (.bool (covB p x y)) ∧ Below w.heap.size w w' := by
  obtain ⟨a1, a2, a3, a4, a5, a6, a7, a8⟩ := hp
  have HC : Hid (covB p x y = (win x p.x (p.x + p.w - 1) && win y p.y (p.y + p.h - 1))) := rfl
  generalize covB p x y = cv at *
  have e1 : IntKind.i64.wrap (p.x + p.w - 1) = p.x + p.w - 1 := IntWalk.i64_in _ (by omega)
  have e2 : IntKind.i64.wrap (p.y + p.h - 1) = p.y + p.h - 1 := IntWalk.i64_in _ (by omega)
  go_enter Try.func120, Try.ntmps120
  go_wp2_with fail
  refine (within_any _ _ _ _).mono ?_
  rintro e w' ⟨rfl, rfl⟩
  cases hq : win x p.x (p.x + p.w - 1) with
  | false =>
    go_wp2_with fail
    go_ret
    exact ⟨ret_bool (by rw [HC.out, hq]; rfl), below_new _ _⟩
  | true =>
    go_wp2_with fail
    refine (within_any _ _ _ _).mono ?_
    rintro e w' ⟨rfl, rfl⟩
    go_wp2_with fail
    go_ret
    exact ⟨ret_bool (by rw [HC.out, hq]; rfl), below_new _ _⟩
theorem coversR_any (p : Piece) (x y : Int) (w : World) (hp : Sml p) : Calls Try.prog 124 #[.agg (pcs p), .int .i64 x, .int .i64 y] w fun e w' => e = .returned (.bool (covB p x y)) ∧ Below w.heap.size w w' := by
  obtain ⟨a1, a2, a3, a4, a5, a6, a7, a8⟩ := hp
  have HC : Hid (covB p x y = (win x p.x (p.x + p.w - 1) && win y p.y (p.y + p.h - 1))) := rfl
  generalize covB p x y = cv at *
  have e1 : IntKind.i64.wrap (p.x + p.w - 1) = p.x + p.w - 1 := IntWalk.i64_in _ (by omega)
  have e2 : IntKind.i64.wrap (p.y + p.h - 1) = p.y + p.h - 1 := IntWalk.i64_in _ (by omega)
  go_enter Try.func124, Try.ntmps124
  go_wp2_with fail
  refine (withinB_any _ _ _ _).mono ?_
  rintro e w' ⟨rfl, rfl⟩
  cases hq : win x p.x (p.x + p.w - 1) with
  | false =>
    go_wp2_with fail
    go_ret
    exact ⟨ret_bool (by rw [HC.out, hq]; rfl), below_new _ _⟩
  | true =>
    go_wp2_with fail
    refine (withinB_any _ _ _ _).mono ?_
    rintro e w' ⟨rfl, rfl⟩
    go_wp2_with fail
    go_ret
    exact ⟨ret_bool (by rw [HC.out, hq]; rfl), below_new _ _⟩
theorem enters135 : ∀ (args : Array Value) (w : World), (callFunc 135 args).run Try.prog w = .ok (.enter 135 args) w := enters_of' Try.func135 (by kernel_rfl) rfl
theorem at_fn (q : Piece) (x y : Int) (bx by' : Nat) (w : World) (hx : w.cell? ⟨bx, 0, none⟩ = some (.int .i64 x)) (hy : w.cell? ⟨by', 0, none⟩ = some (.int .i64 y)) (hq : Sml q) :
    Calls Try.prog 135 (#[.agg (pcs q)] ++ #[.pointer (some ⟨bx, 0, none⟩), .pointer (some ⟨by', 0, none⟩)]) w fun e w' => e = .returned (.bool (covB q x y)) ∧ Below w.heap.size w w' := by
  have h1 := block_lt_of_cell hx
  have h2 := block_lt_of_cell hy
  have HQ := Lib.hid hq
  clear hq
  go_enter Try.func135, Try.ntmps135
  go_wp2_with fail
  refine (covers_any q x y _ HQ.out).mono ?_
  rintro e w' ⟨rfl, hb'⟩
  go_wp2_with fail
  go_ret
  exact ⟨rfl, ((Below.refl _ _).alloc (Nat.le_refl _) _).trans (hb'.mono (by simp))⟩
theorem index0_any (A : Option Addr) (c : Nat) (g : Nat) (lb : Array Value) (w : World) : Calls Try.prog 134 #[.slice A 0 c, .func (.func g) #[] lb] w fun e w' => e = .returned (.int .i64 (-1)) ∧ w = w' := by
  go_enter Try.func134, Try.ntmps134
  go_wp2_with fail
  go_loopg [5, 8] 0 (fun gg _ s8 wr => s8 = .int .i64 0 ∧ w = wr)
  case atStart => exact ⟨rfl, rfl⟩
  case round =>
    obtain ⟨rfl, rfl⟩ := hrel
    go_wp2_with fail
    go_ret
    exact ⟨rfl, rfl⟩
/-- The number of the piece at a point, or -1. -/
def atF (f : Forme) (x y : Int) : Int := idx (fun j => covB (gp f.ps j) x y) f.ps.length
theorem at_any (f : Forme) (x y : Int) (A : Option Addr) (b off c : Nat) (w : World) (hA : Lies A f.ps.length w.heap.size b off) (hps : PsAt w b off f.ps) (hf : ∀ j, j < f.ps.length → Sml (gp f.ps j)) (hm : f.ps.length ≤ 1000000) :
    Calls Try.prog 103 #[.agg #[.int .i64 f.W, .int .i64 f.H, .slice A f.ps.length c], .int .i64 x, .int .i64 y] w fun e w' => e = .returned (.int .i64 (atF f x y)) ∧ Below w.heap.size w w' := by
  have hB : Below w.heap.size w (((w.alloc (Obj.cells #[Value.int IntKind.i64 f.W, Value.int IntKind.i64 f.H, Value.slice A f.ps.length c] 37)).alloc (Obj.cells #[Value.int IntKind.i64 x] 3)).alloc (Obj.cells #[Value.int IntKind.i64 y] 3)) := ((below_new _ _).alloc (by simp) _).alloc (by simp; omega) _
  have hX : (((w.alloc (Obj.cells #[Value.int IntKind.i64 f.W, Value.int IntKind.i64 f.H, Value.slice A f.ps.length c] 37)).alloc (Obj.cells #[Value.int IntKind.i64 x] 3)).alloc (Obj.cells #[Value.int IntKind.i64 y] 3)).cell? ⟨w.heap.size + 1, 0, none⟩ = some (.int .i64 x) := by simp [go_sem]
  have hY : (((w.alloc (Obj.cells #[Value.int IntKind.i64 f.W, Value.int IntKind.i64 f.H, Value.slice A f.ps.length c] 37)).alloc (Obj.cells #[Value.int IntKind.i64 x] 3)).alloc (Obj.cells #[Value.int IntKind.i64 y] 3)).cell? ⟨w.heap.size + 1 + 1, 0, none⟩ = some (.int .i64 y) := by simp [go_sem]
  have hz : (((w.alloc (Obj.cells #[Value.int IntKind.i64 f.W, Value.int IntKind.i64 f.H, Value.slice A f.ps.length c] 37)).alloc (Obj.cells #[Value.int IntKind.i64 x] 3)).alloc (Obj.cells #[Value.int IntKind.i64 y] 3)).heap.size = w.heap.size + 1 + 1 + 1 := by simp
  have HF := Lib.hid hf
  have HB := Lib.hid hB
  have HX := Lib.hid hX
  have HY := Lib.hid hY
  have HZ := Lib.hid hz
  have HAT : Hid (atF f x y = idx (fun j => covB (gp f.ps j) x y) f.ps.length) := rfl
  clear hf hB hX hY hz
  rcases Nat.eq_zero_or_pos f.ps.length with h0 | h0
  · have HI : Hid (atF f x y = -1) := by show _ = _; rw [HAT.out, h0]; rfl
    clear HAT
    generalize atF f x y = at' at *
    rw [h0]
    rw [h0] at HB
    clear hA hps HF HX HY HZ h0
    go_enter Try.func103, Try.ntmps103
    go_wp2_with fail
    refine (index0_any _ _ _ _ _).mono ?_
    rintro e w' ⟨rfl, rfl⟩
    go_wp2_with fail
    go_ret
    exact ⟨ret_int HI.out.symm, HB.out⟩
  · obtain ⟨rfl, hb⟩ := hA h0
    have HPS : Hid (PsAt _ b off f.ps) := fun j hj => (hps j hj).below HB.out hb
    clear hps hA
    generalize atF f x y = at' at *
    generalize hn : f.ps.length = n at *
    have HN := Lib.hid hn
    clear hn
    go_enter Try.func103, Try.ntmps103
    go_wp2_with fail
    generalize (((w.alloc (Obj.cells #[Value.int IntKind.i64 f.W, Value.int IntKind.i64 f.H, Value.slice (some ⟨b, off, none⟩) n c] 37)).alloc (Obj.cells #[Value.int IntKind.i64 x] 3)).alloc (Obj.cells #[Value.int IntKind.i64 y] 3)) = W1 at *
    refine (indexP_any 135 #[.pointer (some ⟨w.heap.size + 1, 0, none⟩), .pointer (some ⟨w.heap.size + 1 + 1, 0, none⟩)] b off n c f.ps (fun q => covB q x y) W1 (fun W j hbW hj => (at_fn (gp f.ps j) x y (w.heap.size + 1) (w.heap.size + 1 + 1) W ((hbW.cell (p := ⟨w.heap.size + 1, 0, none⟩) (by have := HZ.out; show w.heap.size + 1 < _; omega)).trans HX.out) ((hbW.cell (p := ⟨w.heap.size + 1 + 1, 0, none⟩) (by have := HZ.out; show w.heap.size + 1 + 1 < _; omega)).trans HY.out) (HF.out j hj)).mono fun _ _ ⟨h1, h2⟩ => ⟨h1, hbW.trans (h2.mono hbW.size)⟩) (by have := HN.out; omega) (by omega) (by have := HB.out.size; omega) enters135 HPS.out).mono ?_
    rintro e w2 ⟨rfl, b2⟩
    rw [← HAT.out]
    have HB2 := Lib.hid (HB.out.trans (b2.mono HB.out.size))
    clear b2
    go_wp2_with fail
    go_ret
    exact ⟨rfl, HB2.out⟩
set_option maxHeartbeats 1000000 in
theorem pieceAt_any (f : Forme) (x y : Int) (A : Option Addr) (b off c : Nat) (w : World) (hA : Lies A f.ps.length w.heap.size b off) (hps : PsAt w b off f.ps) (hf : ∀ j, j < f.ps.length → Sml (gp f.ps j)) (hm : f.ps.length ≤ 1000000) :
    Calls Try.prog 64 #[.agg #[.int .i64 f.W, .int .i64 f.H, .slice A f.ps.length c], .int .i64 x, .int .i64 y] w fun e w' => e = .returned (.int .i64 (atF f x y)) ∧ Below w.heap.size w w' := by
  have HAT : Hid (atF f x y = idx (fun j => covB (gp f.ps j) x y) f.ps.length) := rfl
  generalize atF f x y = at' at *
  generalize hn : f.ps.length = n at *
  have HN := Lib.hid hn
  have HS := Lib.hid hf
  clear hn hf
  go_enter Try.func64, Try.ntmps64
  go_wp2_with fail
  have hB := Lib.hid (below_new w (Obj.cells #[Value.int IntKind.i64 f.W, Value.int IntKind.i64 f.H, Value.slice A n c] 37))
  have hF := Lib.hid (FAt_new w 37 f (Value.slice A n c))
  have hz : w.heap.size < (w.alloc (Obj.cells #[Value.int IntKind.i64 f.W, Value.int IntKind.i64 f.H, Value.slice A n c] 37)).heap.size := by simp
  generalize w.alloc (Obj.cells #[Value.int IntKind.i64 f.W, Value.int IntKind.i64 f.H, Value.slice A n c] 37) = W0 at *
  go_loopg [7] n (fun gg s7 wr => ∃ k : Nat, k ≤ n ∧ n - k ≤ gg ∧ s7 = .int .i64 k ∧ Hid (Below W0.heap.size W0 wr) ∧ Hid (∀ j, j < k → covB (gp f.ps j) x y = false))
  case atStart => exact ⟨0, Nat.zero_le _, by omega, rfl, Below.refl _ _, fun j hj => absurd hj (Nat.not_lt_zero _)⟩
  case round =>
    obtain ⟨k, hk, hg, rfl, BW, E⟩ := hrel
    obtain ⟨a0, a1, a2⟩ := hF.out.below BW.out hz
    have HBB := Lib.hid (hB.out.trans (BW.out.mono hB.out.size))
    by_cases hlt : k < n
    · have hltz : (k : Int) < (n : Int) := by omega
      have hk0 : (0 : Int) ≤ (k : Int) := by omega
      obtain ⟨rfl, hb⟩ := hA (by omega)
      obtain ⟨c0, c1, c2, c3, c4, c5⟩ := (hps k (by have := HN.out; omega)).below HBB.out hb
      have HSK := Lib.hid (HS.out k hlt)
      have HY : Hid (∀ j, j = k → covB (gp f.ps j) x y = covB (gp f.ps k) x y) := fun j e => by rw [e]
      clear hps hA
      generalize gp f.ps k = p at *
      have HC := Lib.hid (coversR_any p x y)
      go_wp2_with fail
      refine (HC.out _ HSK.out).mono ?_
      rintro e w2 ⟨rfl, b2⟩
      have HB2 := Lib.hid (BW.out.trans (b2.mono BW.out.size))
      clear b2
      cases hq : covB p x y with
      | true =>
        go_wp2_with fail
        go_ret
        exact ⟨ret_int (by rw [HAT.out, idx_hit (k := k) (pr := fun j => covB (gp f.ps j) x y) ((HY.out k rfl).trans hq) E.out hlt]), hB.out.trans (HB2.out.mono hB.out.size)⟩
      | false =>
        go_wp2_with fail
        go_roundg (n - (k + 1))
        case measure => omega
        case rel =>
          refine ⟨k + 1, by omega, by omega, by go_num, HB2.out, (show ∀ j, _ from fun j hj => ?_)⟩
          by_cases e : j = k
          · exact (HY.out j e).trans hq
          · exact E.out j (by omega)
    · have hltz : ¬ (k : Int) < (n : Int) := by omega
      have he : k = n := by omega
      subst he
      go_wp2_with fail
      go_ret
      exact ⟨ret_int (by rw [HAT.out, idx_none (pr := fun j => covB (gp f.ps j) x y) E.out]), HBB.out⟩
theorem atF_neg {f : Forme} {x y : Int} (h : atF f x y < 0) : ∀ p ∈ f.ps, ¬ p.cov x y := by
  intro p hp
  obtain ⟨i, hi, rfl⟩ := List.mem_iff_getElem.1 hp
  have := idx_neg (pr := fun j => covB (gp f.ps j) x y) (n := f.ps.length) (by unfold atF at h; omega) i hi
  rw [← covB_not, ← gp_get hi]
  exact this
theorem atF_nonneg {f : Forme} {x y : Int} (h : ¬ atF f x y < 0) : ∃ k : Nat, atF f x y = k ∧ k < f.ps.length ∧ (gp f.ps k).cov x y := by
  unfold atF at h
  have hx := idx_le (pr := fun j => covB (gp f.ps j) x y) (n := f.ps.length) (by omega)
  obtain ⟨k, hk⟩ := Int.eq_ofNat_of_zero_le (show 0 ≤ idx (fun j => covB (gp f.ps j) x y) f.ps.length by omega)
  refine ⟨k, hk, by omega, covB_iff.1 ?_⟩
  cases hq : covB (gp f.ps k) x y with
  | true => rfl
  | false =>
    exfalso
    have hpr : ∀ n, idx (fun j => covB (gp f.ps j) x y) n = (k : Int) → False := by
      intro n
      induction n with
      | zero => intro h; simp [idx] at h
      | succ n ih =>
        intro h
        simp only [idx] at h
        by_cases h1 : idx (fun j => covB (gp f.ps j) x y) n = -1
        · rw [if_pos h1] at h
          by_cases h2 : covB (gp f.ps n) x y = true
          · rw [if_pos h2] at h
            have : n = k := by omega
            subst this
            rw [hq] at h2; cases h2
          · rw [if_neg h2] at h; omega
        · rw [if_neg h1] at h; exact ih h
    exact hpr _ hk
/-- The first gap and 0, or nothing and 12. -/
noncomputable def gapF (f : Forme) : Int × Int × Int := @dite _ (∃ p : Int × Int, f.gap1 p.1 p.2) (Classical.propDecidable _) (fun h => (h.choose.1, h.choose.2, 0)) (fun _ => (0, 0, 12))
theorem gapF_hit {f : Forme} {x y : Int} (h : f.gap1 x y) : gapF f = (x, y, 0) := by
  have he : ∃ p : Int × Int, f.gap1 p.1 p.2 := ⟨(x, y), h⟩
  unfold gapF
  rw [dif_pos he]
  obtain ⟨h1, h2⟩ := he.choose_spec.uniq h
  rw [h1, h2]
theorem gapF_none {f : Forme} (h : ∀ x y, ¬ f.gap x y) : gapF f = (0, 0, 12) := by
  unfold gapF
  rw [dif_neg]
  rintro ⟨p, hp, _⟩
  exact h _ _ hp
set_option maxRecDepth 100000 in
set_option maxHeartbeats 4000000 in
theorem firstGap_bad (f : Forme) (A : Option Addr) (b off c : Nat) (w : World) (hA : Lies A f.ps.length w.heap.size b off) (hps : PsAt w b off f.ps) (hnm : NameOk f.ps) (hc : f.ps.length ≤ c) (hm : f.ps.length ≤ 1000000) (hs : (checkF f).2 ≠ 0) :
    Calls Try.prog 41 #[.agg #[.int .i64 f.W, .int .i64 f.H, .slice A f.ps.length c]] w fun e w' => e = .returned (.tuple #[.agg #[.int .i64 0, .int .i64 0], .int .i64 (checkF f).2]) ∧ Below w.heap.size w w' := by
  have hcall := fun W (hb : Below w.heap.size w W) => check_any f A b off c W (hA.mono hb.size) (fun j hj => (hps j hj).below hb (hA (by omega)).2) hnm hc (by omega)
  have hsb := bne_t hs
  generalize (checkF f).2 = s at *
  have HS := Lib.hid hs
  generalize f.ps.length = n at *
  clear hs hA hps hnm
  have hB : Below w.heap.size w ((w.alloc (Obj.cells #[Value.int IntKind.i64 f.W, Value.int IntKind.i64 f.H, Value.slice A n c] 37)).alloc (Obj.cells #[Value.int IntKind.i64 0, Value.int IntKind.i64 0] 57)) := (below_new _ _).trans ((below_new _ _).mono (by simp))
  have hR : Blk ((w.alloc (Obj.cells #[Value.int IntKind.i64 f.W, Value.int IntKind.i64 f.H, Value.slice A n c] 37)).alloc (Obj.cells #[Value.int IntKind.i64 0, Value.int IntKind.i64 0] 57)) (w.heap.size + 1) 57 #[Value.int IntKind.i64 0, Value.int IntKind.i64 0] := by
    have := Blk.new (w.alloc (Obj.cells #[Value.int IntKind.i64 f.W, Value.int IntKind.i64 f.H, Value.slice A n c] 37)) 57 #[Value.int IntKind.i64 0, Value.int IntKind.i64 0]
    rwa [World.size_alloc] at this
  go_enter Try.func41, Try.ntmps41
  go_wp2_with fail
  generalize ((w.alloc (Obj.cells #[Value.int IntKind.i64 f.W, Value.int IntKind.i64 f.H, Value.slice A n c] 37)).alloc (Obj.cells #[Value.int IntKind.i64 0, Value.int IntKind.i64 0] 57)) = W0 at *
  refine (hcall _ hB).mono ?_
  rintro e w1 ⟨rfl, b1⟩
  have hR1 := hR.below b1 hR.lt
  have s0 : w1.cell? ⟨w.heap.size + 1, 0, none⟩ = some (.int .i64 0) := hR1.cell 0
  have s1 : w1.cell? ⟨w.heap.size + 1, 1, none⟩ = some (.int .i64 0) := hR1.cell 1
  have t0 := hR1.frozen 0
  have t1 := hR1.frozen 1
  have hz := hR1.lt
  have HB := Lib.hid (hB.trans (b1.mono hB.size))
  clear hcall hR hR1 b1 hB
  go_wp2_with fail
  exact bodyPost_ret (v := .tuple #[.agg #[.int .i64 0, .int .i64 0], .int .i64 s]) (by simp [results, Try.results41, go_sem, s0, s1, hz]) rfl ⟨rfl, ((HB.out.setCell (by simp) _).setCell (by simp) _)⟩
set_option maxRecDepth 100000 in
set_option maxHeartbeats 4000000 in
theorem firstGap_right (f : Forme) (A : Option Addr) (b off c : Nat) (w : World) (hA : Lies A f.ps.length w.heap.size b off) (hps : PsAt w b off f.ps) (hnm : NameOk f.ps) (hc : f.ps.length ≤ c) (hm : f.ps.length ≤ 1000000) (hs : (checkF f).2 = 0) :
    Calls Try.prog 41 #[.agg #[.int .i64 f.W, .int .i64 f.H, .slice A f.ps.length c]] w fun e w' => e = .returned (.tuple #[.agg #[.int .i64 (gapF f).1, .int .i64 (gapF f).2.1], .int .i64 (gapF f).2.2]) ∧ Below w.heap.size w w' := by
  have hcall := fun W (hb : Below w.heap.size w W) => check_any f A b off c W (hA.mono hb.size) (fun j hj => (hps j hj).below hb (hA (by omega)).2) hnm hc (by omega)
  have hf := checkF_zero hs
  have HAT : Hid (∀ x y W, Below w.heap.size w W → Calls Try.prog 103 #[.agg #[.int .i64 f.W, .int .i64 f.H, .slice A f.ps.length c], .int .i64 x, .int .i64 y] W fun e w' => e = .returned (.int .i64 (atF f x y)) ∧ Below W.heap.size W w') := (show ∀ x y W, _ from fun x y W hb =>
    at_any f x y A b off c W (hA.mono hb.size) (fun j hj => (hps j hj).below hb (hA (by omega)).2) (fun j hj => hf.toLaid.sml hj) hm)
  have HP : Hid (∀ W, Below w.heap.size w W → ∀ k, k < f.ps.length → A = some ⟨b, off, none⟩ ∧ PAt W b (off + k * 6) (gp f.ps k)) := (show ∀ W, _ from fun W hW k hk => by
    obtain ⟨rfl, hb⟩ := hA (by omega)
    exact ⟨rfl, (hps k hk).below hW hb⟩)
  have HS := Lib.hid (fun j (hj : j < f.ps.length) => hf.toLaid.sml hj)
  have HIN : Hid (∀ k, k < f.ps.length → 1 ≤ (gp f.ps k).w ∧ (gp f.ps k).x + (gp f.ps k).w ≤ f.W) := (show ∀ k, _ from fun k hk => by
    have h1 := hf.toLaid.inn _ (List.getElem_mem hk)
    rw [← gp_get hk] at h1
    exact ⟨h1.1, h1.2.2.2.2.1⟩)
  have HCOV : Hid (∀ (k : Nat) (x y : Int), k < f.ps.length → (gp f.ps k).cov x y → ∀ x', x ≤ x' → x' < (gp f.ps k).x + (gp f.ps k).w → ¬ f.gap x' y) := (show ∀ (k : Nat) (x y : Int), _ from fun k x y hk hc x' h1 h2 hg => by
    refine hg.2.2.2.2 (gp f.ps k) (by rw [gp_get hk]; exact List.getElem_mem hk) ?_
    obtain ⟨a, b, c, d⟩ := hc
    exact ⟨by omega, h2, c, d⟩)
  have w1' := hf.w1
  have w2' := hf.w2
  have w3' := hf.h1
  have w4' := hf.h2
  have HGN : Hid ((∀ x y, ¬ f.gap x y) → gapF f = (0, 0, 12)) := fun h => gapF_none h
  have HGH : Hid (∀ x y, f.gap1 x y → gapF f = (x, y, 0)) := fun x y h => gapF_hit h
  have HGA : Hid (∀ x y : Int, 0 ≤ x → x < f.W → 0 ≤ y → y < f.H → atF f x y < 0 → f.gap x y) := fun x y a b c d h => ⟨a, b, c, d, atF_neg h⟩
  have HGB : Hid (∀ x y : Int, ¬ atF f x y < 0 → ∃ k : Nat, atF f x y = k ∧ k < f.ps.length ∧ (gp f.ps k).cov x y) := fun x y h => atF_nonneg h
  have HGX : Hid (∀ x y, f.gap x y → 0 ≤ x ∧ x < f.W ∧ 0 ≤ y ∧ y < f.H) := fun x y h => ⟨h.1, h.2.1, h.2.2.1, h.2.2.2.1⟩
  rw [hs] at hcall
  generalize gapF f = gq at *
  generalize f.ps.length = n at *
  clear hs hA hps hnm hf
  have hB : Below w.heap.size w ((w.alloc (Obj.cells #[Value.int IntKind.i64 f.W, Value.int IntKind.i64 f.H, Value.slice A n c] 37)).alloc (Obj.cells #[Value.int IntKind.i64 0, Value.int IntKind.i64 0] 57)) := (below_new _ _).trans ((below_new _ _).mono (by simp))
  have hF : Blk ((w.alloc (Obj.cells #[Value.int IntKind.i64 f.W, Value.int IntKind.i64 f.H, Value.slice A n c] 37)).alloc (Obj.cells #[Value.int IntKind.i64 0, Value.int IntKind.i64 0] 57)) w.heap.size 37 #[Value.int IntKind.i64 f.W, Value.int IntKind.i64 f.H, Value.slice A n c] :=
    (Below.heap_alloc _ _ _ (by simp)).trans (Blk.new w 37 _)
  have hR : Blk ((w.alloc (Obj.cells #[Value.int IntKind.i64 f.W, Value.int IntKind.i64 f.H, Value.slice A n c] 37)).alloc (Obj.cells #[Value.int IntKind.i64 0, Value.int IntKind.i64 0] 57)) (w.heap.size + 1) 57 #[Value.int IntKind.i64 0, Value.int IntKind.i64 0] := by
    have := Blk.new (w.alloc (Obj.cells #[Value.int IntKind.i64 f.W, Value.int IntKind.i64 f.H, Value.slice A n c] 37)) 57 #[Value.int IntKind.i64 0, Value.int IntKind.i64 0]
    rwa [World.size_alloc] at this
  go_enter Try.func41, Try.ntmps41
  go_wp2_with fail
  generalize ((w.alloc (Obj.cells #[Value.int IntKind.i64 f.W, Value.int IntKind.i64 f.H, Value.slice A n c] 37)).alloc (Obj.cells #[Value.int IntKind.i64 0, Value.int IntKind.i64 0] 57)) = W0 at *
  refine (hcall _ hB).mono ?_
  rintro e w1 ⟨rfl, b1⟩
  have HB := Lib.hid (hB.trans (b1.mono hB.size))
  have hF1 := hF.below b1 hF.lt
  have hR1 := hR.below b1 hR.lt
  have hz1 := hR1.lt
  have HC : Hid (∀ W, Below w1.heap.size w1 W → (W.cell? ⟨w.heap.size, 0, none⟩ = some (.int .i64 f.W) ∧ W.cell? ⟨w.heap.size, 1, none⟩ = some (.int .i64 f.H) ∧ W.cell? ⟨w.heap.size, 2, none⟩ = some (.slice A n c)) ∧ Blk W (w.heap.size + 1) 57 #[Value.int IntKind.i64 0, Value.int IntKind.i64 0] ∧ Below w.heap.size w W) := (show ∀ W, _ from fun W hW => by
    have hx := hF1.below hW hF1.lt
    exact ⟨⟨hx.cell 0, hx.cell 1, hx.cell 2⟩, hR1.below hW hz1, HB.out.trans (hW.mono HB.out.size)⟩)
  obtain ⟨⟨a0, a1, a2⟩, -, -⟩ := HC.out w1 (Below.refl _ _)
  clear hcall hF hR hF1 hR1 b1 hB
  go_wp2_with fail
  clear a0 a1 a2
  go_loopg [5, 6, 7, 16] f.H.toNat (fun gg _ _ _ s16 wr => ∃ y : Nat, (y : Int) ≤ f.H ∧ f.H.toNat - y ≤ gg ∧ s16 = .int .i64 y ∧ Hid (Below w1.heap.size w1 wr) ∧ Hid (∀ x' y', f.gap x' y' → (y : Int) ≤ y'))
  case atStart => exact ⟨0, by omega, by omega, rfl, Below.refl _ _, fun x' y' h => by have := HGX.out x' y' h; omega⟩
  case round =>
    obtain ⟨y, hy, hgy, rfl, BW, G⟩ := hrel
    by_cases hlt : (y : Int) < f.H
    · go_wp2_with fail
      obtain ⟨gko, rfl⟩ : ∃ z : Nat, z = gk := ⟨_, rfl⟩
      obtain ⟨wo, rfl⟩ : ∃ wo : World, wo = wr := ⟨_, rfl⟩
      go_loopg [6, 7] f.W.toNat (fun gg s6 _ wi => ∃ x : Int, 0 ≤ x ∧ x ≤ f.W ∧ (f.W - x).toNat ≤ gg ∧ s6 = .int .i64 x ∧ Hid (Below w1.heap.size w1 wi) ∧ Hid (∀ x', f.gap x' y → x ≤ x'))
      case atStart => exact ⟨0, by omega, by omega, by omega, rfl, BW.out, fun x' h => by have := HGX.out x' _ h; omega⟩
      case round =>
        obtain ⟨x, hx0, hx1, hgx, rfl, BW, GX⟩ := hrel
        obtain ⟨⟨a0, a1, a2⟩, hR, hB⟩ := HC.out wr BW.out
        by_cases hxw : x < f.W
        · have hcat := HAT.out x y wr hB
          have HGA1 := Lib.hid (HGA.out x y hx0 hxw (by omega) hlt)
          have HGB1 := Lib.hid (HGB.out x y)
          have HR := Lib.hid hR
          generalize atF f x y = q at *
          clear hR hB
          go_wp2_with fail
          refine hcat.mono ?_
          rintro e w2 ⟨rfl, b2⟩
          have HB2 := Lib.hid (BW.out.trans (b2.mono BW.out.size))
          have HR2 := Lib.hid (HR.out.below b2 HR.out.lt)
          obtain ⟨⟨a0, a1, a2⟩, -, hB⟩ := HC.out w2 HB2.out
          have HBB := Lib.hid hB
          clear hcat b2 hB
          by_cases hq : q < 0
          · have hg1 : f.gap1 x y := ⟨HGA1.out hq, fun x' y' h => by
              have h1 := G.out x' y' h
              by_cases e : (y : Int) = y'
              · right
                exact ⟨e, GX.out x' (by rw [e]; exact h)⟩
              · left; omega⟩
            have HGE := Lib.hid (HGH.out x y hg1)
            have s0 : w2.cell? ⟨w.heap.size + 1, 0, none⟩ = some (.int .i64 0) := HR2.out.cell 0
            have s1 : w2.cell? ⟨w.heap.size + 1, 1, none⟩ = some (.int .i64 0) := HR2.out.cell 1
            have t0 := HR2.out.frozen 0
            have t1 := HR2.out.frozen 1
            have hz2 := HR2.out.lt
            clear hg1
            go_wp2_with fail
            exact bodyPost_ret (v := .tuple #[.agg #[.int .i64 x, .int .i64 y], .int .i64 0]) (by simp [results, Try.results41, go_sem, s0, s1, hz2]) rfl ⟨by rw [HGE.out], ((HBB.out.setCell (by simp) _).setCell (by simp) _)⟩
          · obtain ⟨k, rfl, hkn, hcv⟩ := HGB1.out (by omega)
            have hknz : (k : Int) < (n : Int) := by omega
            have hk0 : (0 : Int) ≤ (k : Int) := by omega
            obtain ⟨rfl, c0, c1, c2, c3, c4, c5⟩ := HP.out w2 HBB.out k hkn
            obtain ⟨s1, s2, s3, s4, s5, s6, s7, s8⟩ := HS.out k hkn
            obtain ⟨i1, i2⟩ := HIN.out k hkn
            have HCV := Lib.hid (HCOV.out k x y hkn hcv)
            have hxk : x < (gp f.ps k).x + (gp f.ps k).w := hcv.2.1
            clear hcv
            generalize gp f.ps k = p at *
            have e1 : IntKind.i64.wrap (p.x + p.w) = p.x + p.w := IntWalk.i64_in _ (by omega)
            go_wp2_with fail
            go_quiet (fail)
            go_wp2_with fail
            clear e1
            go_roundg (f.W - (p.x + p.w)).toNat
            case measure => omega
            case rel =>
              refine ⟨p.x + p.w, by omega, by omega, by omega, rfl, below_drewN HB2.out _, (show ∀ x', _ from fun x' h => ?_)⟩
              rcases Int.lt_or_le x' (p.x + p.w) with h1 | h1
              · exact absurd h (HCV.out x' (GX.out x' h) h1)
              · exact h1
        · go_wp2_with fail
          go_roundg (f.H.toNat - (y + 1))
          case measure => omega
          case rel =>
            refine ⟨y + 1, by omega, by omega, by go_num, BW.out, (show ∀ x' y', _ from fun x' y' h => ?_)⟩
            have h1 := G.out x' y' h
            by_cases e : (y : Int) = y'
            · have h2 := GX.out x' (by rw [e]; exact h)
              have h3 := HGX.out x' y' h
              omega
            · omega
    · have HGE := Lib.hid (HGN.out fun x' y' h => by have h1 := G.out x' y' h; have h2 := HGX.out x' y' h; omega)
      obtain ⟨⟨a0, a1, a2⟩, hR, hB⟩ := HC.out wr BW.out
      have s0 : wr.cell? ⟨w.heap.size + 1, 0, none⟩ = some (.int .i64 0) := hR.cell 0
      have s1 : wr.cell? ⟨w.heap.size + 1, 1, none⟩ = some (.int .i64 0) := hR.cell 1
      have t0 := hR.frozen 0
      have t1 := hR.frozen 1
      have hz2 := hR.lt
      have HBB := Lib.hid hB
      clear hR hB
      go_wp2_with fail
      exact bodyPost_ret (v := .tuple #[.agg #[.int .i64 0, .int .i64 0], .int .i64 12]) (by simp [results, Try.results41, go_sem, s0, s1, hz2]) rfl ⟨by rw [HGE.out], ((HBB.out.setCell (by simp) _).setCell (by simp) _)⟩
end Go.Proofs.Ytlfeoofchebbkaa
