/- bound: the most that a number of a row may be behind the row before. -/
import Derived.Test.YtlfeoofchebbkaaRng
import Derived.Test.YtlfeoofchebbkaaCps
namespace Go.Proofs.Ytlfeoofchebbkaa
set_option linter.unusedSimpArgs false
set_option linter.unusedVariables false
open Go.RowKit Go.Shelf
attribute [local go_sem] Oper.semAt_some
def bnd (bs : List Int) (s r : Nat) : Nat → Int
  | 0 => 1000000
  | j + 1 => min (bnd bs s r j) (gz bs (r - j * s) + j)
def bndL (bs : List Int) (s r : Nat) {M : Nat} (pre : List (Fin (M + 1))) : Int := pre.foldl (fun a k => min a (gz bs (r - k.val * s) + k.val)) 1000000
theorem bndL_snoc (bs : List Int) (s r : Nat) {M : Nat} (pre : List (Fin (M + 1))) (k : Fin (M + 1)) : bndL bs s r (pre ++ [k]) = min (bndL bs s r pre) (gz bs (r - k.val * s) + k.val) := by simp [bndL]
theorem bndL_fins (bs : List Int) (s r : Nat) {M : Nat} : ∀ {j : Nat} (h : j ≤ M + 1), bndL bs s r (fins M j h) = bnd bs s r j := by
  intro j
  induction j with
  | zero => intro h; rfl
  | succ j ih => intro h; show bndL bs s r (fins M j _ ++ [_]) = _; rw [bndL_snoc, ih]; rfl
theorem bnd_boxes (w : World) (v : Value) (s c r : Nat) :
    Below w.heap.size w (((((w.alloc (Obj.cells #[v] 23)).alloc (Obj.cells #[Value.int IntKind.i64 ↑s, Value.int IntKind.i64 ↑c] 85)).alloc (Obj.cells #[Value.int IntKind.i64 1000000] 3)).alloc (Obj.cells #[Value.int IntKind.i64 ↑s, Value.int IntKind.i64 ↑c] 85)).alloc (Obj.cells #[Value.int IntKind.i64 ↑r] 3)) ∧ (((((w.alloc (Obj.cells #[v] 23)).alloc (Obj.cells #[Value.int IntKind.i64 ↑s, Value.int IntKind.i64 ↑c] 85)).alloc (Obj.cells #[Value.int IntKind.i64 1000000] 3)).alloc (Obj.cells #[Value.int IntKind.i64 ↑s, Value.int IntKind.i64 ↑c] 85)).alloc (Obj.cells #[Value.int IntKind.i64 ↑r] 3)).heap.size = w.heap.size + 5 ∧
    (((((w.alloc (Obj.cells #[v] 23)).alloc (Obj.cells #[Value.int IntKind.i64 ↑s, Value.int IntKind.i64 ↑c] 85)).alloc (Obj.cells #[Value.int IntKind.i64 1000000] 3)).alloc (Obj.cells #[Value.int IntKind.i64 ↑s, Value.int IntKind.i64 ↑c] 85)).alloc (Obj.cells #[Value.int IntKind.i64 ↑r] 3)).cell? ⟨w.heap.size, 0, none⟩ = some v ∧
    (((((w.alloc (Obj.cells #[v] 23)).alloc (Obj.cells #[Value.int IntKind.i64 ↑s, Value.int IntKind.i64 ↑c] 85)).alloc (Obj.cells #[Value.int IntKind.i64 1000000] 3)).alloc (Obj.cells #[Value.int IntKind.i64 ↑s, Value.int IntKind.i64 ↑c] 85)).alloc (Obj.cells #[Value.int IntKind.i64 ↑r] 3)).cell? ⟨w.heap.size + 1 + 1, 0, none⟩ = some (.int .i64 1000000) ∧
    (((((w.alloc (Obj.cells #[v] 23)).alloc (Obj.cells #[Value.int IntKind.i64 ↑s, Value.int IntKind.i64 ↑c] 85)).alloc (Obj.cells #[Value.int IntKind.i64 1000000] 3)).alloc (Obj.cells #[Value.int IntKind.i64 ↑s, Value.int IntKind.i64 ↑c] 85)).alloc (Obj.cells #[Value.int IntKind.i64 ↑r] 3)).frozen? ⟨w.heap.size + 1 + 1, 0, none⟩ = false ∧
    (((((w.alloc (Obj.cells #[v] 23)).alloc (Obj.cells #[Value.int IntKind.i64 ↑s, Value.int IntKind.i64 ↑c] 85)).alloc (Obj.cells #[Value.int IntKind.i64 1000000] 3)).alloc (Obj.cells #[Value.int IntKind.i64 ↑s, Value.int IntKind.i64 ↑c] 85)).alloc (Obj.cells #[Value.int IntKind.i64 ↑r] 3)).cell? ⟨w.heap.size + 1 + 1 + 1, 0, none⟩ = some (.int .i64 (s : Int)) ∧
    (((((w.alloc (Obj.cells #[v] 23)).alloc (Obj.cells #[Value.int IntKind.i64 ↑s, Value.int IntKind.i64 ↑c] 85)).alloc (Obj.cells #[Value.int IntKind.i64 1000000] 3)).alloc (Obj.cells #[Value.int IntKind.i64 ↑s, Value.int IntKind.i64 ↑c] 85)).alloc (Obj.cells #[Value.int IntKind.i64 ↑r] 3)).cell? ⟨w.heap.size + 1 + 1 + 1, 1, none⟩ = some (.int .i64 (c : Int)) ∧
    (((((w.alloc (Obj.cells #[v] 23)).alloc (Obj.cells #[Value.int IntKind.i64 ↑s, Value.int IntKind.i64 ↑c] 85)).alloc (Obj.cells #[Value.int IntKind.i64 1000000] 3)).alloc (Obj.cells #[Value.int IntKind.i64 ↑s, Value.int IntKind.i64 ↑c] 85)).alloc (Obj.cells #[Value.int IntKind.i64 ↑r] 3)).cell? ⟨w.heap.size + 1 + 1 + 1 + 1, 0, none⟩ = some (.int .i64 (r : Int)) := by
  refine ⟨((((below_new _ _).alloc (by simp) _).alloc (by simp; omega) _).alloc (by simp; omega) _).alloc (by simp; omega) _, by simp, ?_, ?_, ?_, ?_, ?_, ?_⟩ <;> simp [go_sem]
theorem bnd_at {bs : List Int} {s c r M b off n : Nat} {A : Option Addr} (hM : ∀ k : Nat, k ≤ M ↔ (k ≤ c ∧ k * s ≤ r)) (hA : Lies A bs.length n b off) (hrl : r < bs.length) (hv : ∀ j, j < bs.length → 0 ≤ gz bs j ∧ gz bs j ≤ 1000000) (hs : s ≤ 1000000) (hc : c ≤ 1000000) (hr : r ≤ 1000000) (k : Fin (M + 1)) :
    0 ≤ (r : Int) - (k.val : Int) * (s : Int) ∧ (r : Int) - (k.val : Int) * (s : Int) < (bs.length : Int) ∧ r - k.val * s < bs.length ∧ ((r : Int) - (k.val : Int) * (s : Int)).toNat = r - k.val * s ∧ wrap64 (gz bs (r - k.val * s) + (k.val : Int)) = gz bs (r - k.val * s) + (k.val : Int) ∧ (A = some ⟨b, off, none⟩ ∧ b < n) := by
  obtain ⟨h1, h2⟩ := (hM k.val).1 (Nat.le_of_lt_succ k.isLt)
  rw [← Int.natCast_mul]
  generalize k.val * s = x at *
  have := hv (r - x) (by omega)
  exact ⟨by omega, by omega, by omega, by omega, IntWalk.wrap64_in _ (by omega), hA (by omega)⟩
theorem bnd_fin {W w : World} {bs : List Int} {s r M : Nat} {pre : List (Fin (M + 1))} {k : Fin (M + 1)} {v : Value} {mv m : Int} {a : Act} (d2 : W.cell? ⟨w.heap.size + 1 + 1, 0, none⟩ = some (.int .i64 mv)) (g2 : W.frozen? ⟨w.heap.size + 1 + 1, 0, none⟩ = false)
    (hB : Below w.heap.size w W) (d0 : W.cell? ⟨w.heap.size, 0, none⟩ = some v) (hW5 : w.heap.size + 5 ≤ W.heap.size) (HS : bndL bs s r (pre ++ [k]) = m) :
    ownPostK (KpC (w.heap.size + 1 + 1 + 1) (w.heap.size + 1 + 1 + 1 + 1))
      (fun pre W => (W.cell? ⟨w.heap.size + 1 + 1, 0, none⟩ = some (.int .i64 (bndL bs s r (M := M) pre)) ∧ W.frozen? ⟨w.heap.size + 1 + 1, 0, none⟩ = false) ∧ Below w.heap.size w W ∧ W.cell? ⟨w.heap.size, 0, none⟩ = some v ∧ w.heap.size + 5 ≤ W.heap.size)
      (fun _ _ _ => False) (pre ++ [k]) W .normal a ((W.setCell ⟨w.heap.size + 1 + 1, 0, none⟩ (.int .i64 m)).drew) := by
  refine ⟨(KeepsOthers.setCell _ _ _).trans (KeepsOthers.drew _), ⟨heap_setCell_other _ _ _ _ (by show w.heap.size + 1 + 1 + 1 ≠ w.heap.size + 1 + 1; omega), heap_setCell_other _ _ _ _ (by show w.heap.size + 1 + 1 + 1 + 1 ≠ w.heap.size + 1 + 1; omega)⟩, ⟨?_, ?_⟩, (hB.setCell (p := ⟨w.heap.size + 1 + 1, 0, none⟩) (by show w.heap.size ≤ w.heap.size + 1 + 1; omega) _).drew, ?_, ?_⟩
  · rw [HS]; exact World.cell?_setCell_same' _ _ _ (by rw [d2]; rfl)
  · rw [frozen_drew_own, World.frozen?_setCell]; exact g2
  · exact (World.cell?_setCell_far _ _ _ _ (by show w.heap.size + 1 + 1 ≠ w.heap.size; omega)).trans d0
  · show _ ≤ (W.setCell _ _).heap.size
    rw [show (W.setCell ⟨w.heap.size + 1 + 1, 0, none⟩ (.int .i64 m)).heap.size = W.heap.size by simp [World.setCell]]
    exact hW5
set_option maxRecDepth 100000 in
set_option maxHeartbeats 4000000 in
theorem bound_any (bs : List Int) (s c r M : Nat) (A : Option Addr) (b off cap : Nat) (w : World) (hA : Lies A bs.length w.heap.size b off) (hz : ZsAt w b off bs) (hrl : r < bs.length) (hbl : bs.length ≤ 1000000)
    (hM : ∀ k : Nat, k ≤ M ↔ (k ≤ c ∧ k * s ≤ r)) (hs : s ≤ 1000000) (hc : c ≤ 1000000) (hr : r ≤ 1000000) (hv : ∀ j, j < bs.length → 0 ≤ gz bs j ∧ gz bs j ≤ 1000000) :
    Calls Try.prog 115 #[.slice A bs.length cap, .agg #[.int .i64 (s : Int), .int .i64 (c : Int)], .int .i64 (r : Int)] w fun e w' => e = .returned (.int .i64 (bnd bs s r (M + 1))) ∧ Below w.heap.size w w' := by
  obtain ⟨hB0, hsz, c0, c2, f2, c3, c3', c4⟩ := bnd_boxes w (.slice A bs.length cap) s c r
  refine (callsIn_wide (n := 10)).1 ?_
  have h1 : 1 ≤ 10 := by omega
  refine callsIn_of_wp_marks Try.func115 rfl trivial ?_ rfl
  simp only [Try.ntmps115, List.size_toArray, List.length_cons, List.length_nil, Nat.reduceAdd, Nat.reduceSub, Array.replicate_succ, Array.replicate_zero, List.push_toArray, List.append_toArray, List.nil_append, List.cons_append]
  gi_wp2_with (refine ⟨trivial, ?_⟩; gi_at_call 117; refine (callsIn_wide.2 (choices_any _ _ _ _)).mono ?_; rintro e w' ⟨rfl, rfl⟩)
  generalize ((((w.alloc (Obj.cells #[Value.slice A bs.length cap] 23)).alloc (Obj.cells #[Value.int IntKind.i64 ↑s, Value.int IntKind.i64 ↑c] 85)).alloc (Obj.cells #[Value.int IntKind.i64 1000000] 3)).alloc (Obj.cells #[Value.int IntKind.i64 ↑s, Value.int IntKind.i64 ↑c] 85)).alloc (Obj.cells #[Value.int IntKind.i64 ↑r] 3) = W0 at *
  refine wpIn_rangeFunc_ownF rfl h1 (gf := 140) (lb := #[.pointer (some ⟨w.heap.size + 1 + 1 + 1, 0, none⟩), .pointer (some ⟨w.heap.size + 1 + 1 + 1 + 1, 0, none⟩)]) rfl trivial (enters_of Try.func140 (by kernel_rfl) rfl)
    (choices_stops s c r M _ _ W0 hM hs hc hr c3 c3' c4 (by omega) (by omega) 9 (by omega)) kpC_t
    (fun W l o o' hl ho _ _ => ⟨World.putObj_heap_other (by omega), World.putObj_heap_other (by omega)⟩) (Below.refl _ _) (fun _ => rfl)
    (fun pre W => (W.cell? ⟨w.heap.size + 1 + 1, 0, none⟩ = some (.int .i64 (bndL bs s r pre)) ∧ W.frozen? ⟨w.heap.size + 1 + 1, 0, none⟩ = false) ∧ Below w.heap.size w W ∧ W.cell? ⟨w.heap.size, 0, none⟩ = some (.slice A bs.length cap) ∧ w.heap.size + 5 ≤ W.heap.size)
    (fun _ _ _ => False)
    (OwnFrom.and (Own.from (fun s A B row hs hg hr => ⟨cell_kept hs.1 hg hr, (frozen_kept hs.1 hg hr).trans hs.2⟩) _) (OwnFrom.and (ownFrom_below (Nat.le_refl _) (by omega)) (Own.from (fun s A B row hs hg hr => ⟨cell_kept hs.1 hg hr, Nat.le_trans hs.2 hg.size⟩) _)))
    (fun _ _ _ _ _ hs _ _ => hs)
    ⟨⟨c2, f2⟩, hB0, c0, by omega⟩
    (fun k => { tmps := #[Value.slice A bs.length cap, Value.agg #[Value.int IntKind.i64 ↑s, Value.int IntKind.i64 ↑c], Value.int IntKind.i64 ↑r, Value.pointer (some ⟨w.heap.size, 0, none⟩), Value.pointer (some ⟨w.heap.size + 1, 0, none⟩), undef, Value.int IntKind.i64 0, Value.pointer (some ⟨w.heap.size + 1 + 1, 0, none⟩), Value.int .i64 (k.val : Int), Value.int .i64 ((r : Int) - (k.val : Int) * (s : Int)), Value.agg #[Value.int IntKind.i64 ↑s, Value.int IntKind.i64 ↑c], Value.int IntKind.i64 ↑r, Value.func (Fn.func 140) #[] #[Value.pointer (some ⟨w.heap.size + 1 + 1 + 1, 0, none⟩), Value.pointer (some ⟨w.heap.size + 1 + 1 + 1 + 1, 0, none⟩)], Value.int .i64 (k.val : Int), Value.int .i64 ((r : Int) - (k.val : Int) * (s : Int)), undef, undef, undef, undef, undef, undef, undef, undef, undef], defers := [] }) ?assign ?body ?done ?stop
  case assign =>
    intro l x W K hK
    gi_wp2
    exact hK
  case body =>
    rintro l pre k W ⟨⟨d2, g2⟩, hB, d0, hW5⟩ _
    obtain ⟨k0, k1, k2, k3, k4, hAA⟩ := bnd_at hM hA hrl hv hs hc hr k
    obtain ⟨rfl, hbw⟩ := hAA
    have hcell := (hB.cell (p := ⟨b, off + (r - k.val * s), none⟩) hbw).trans (hz (r - k.val * s) k2)
    have hsnoc := bndL_snoc bs s r pre k
    have HS := Lib.hid hsnoc
    have k5 : IntKind.i64.wrap (gz bs (r - k.val * s) + (k.val : Int)) = gz bs (r - k.val * s) + (k.val : Int) := by rw [IntWalk.i64_left]; exact k4
    clear hsnoc hM hv hz hA hsz c0 c2 c3 c3' c4
    generalize (r : Int) - (k.val : Int) * (s : Int) = li at *
    generalize r - k.val * s = ln at *
    generalize gz bs ln = zv at *
    generalize bndL bs s r pre = mv at *
    have hmx : Try.prog.follows .mixedOrders = true := by kernel_rfl
    gi_wp2
    gi_region_with_o (fail)
    all_goals gi_wp2
    all_goals (try go_bits)
    all_goals refine bnd_fin d2 g2 hB d0 hW5 (HS.out.trans ?_)
    all_goals rename_i h
    all_goals first | rw [k4] | skip
    all_goals (clear HS; omega)
  case done =>
    rintro D ys W hD rfl ⟨⟨d2, _⟩, hB, _, _⟩ hK
    gi_wp2
    refine ⟨by simp, .inl ⟨_, _, rfl, run_takeDeferred hK, ?_⟩⟩
    exact ⟨_, results_tmp rfl _ _ _, by rw [bndL_fins]; rfl, hB.trans (belowK_b (w := w) (Nat.le_refl _) W D _ _ (by omega) hK rfl rfl)⟩
  case stop =>
    rintro D c pre W _ _ h _
    exact h.elim
end Go.Proofs.Ytlfeoofchebbkaa
