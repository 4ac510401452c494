/- Small things of numbers, names and errors, and how lists of numbers lie in memory. -/
import Derived.Test.YtefjhhgfkdkfaaaProg
import Derived.WalkKit
import Derived.WalkSpells
import Derived.WalkLawsBesides
import Derived.Deep.LoopGhost
import Derived.Deep.AppendLies
import Derived.Lib.QuietBelow
import Derived.Deep.OwnRows
import Derived.Lib.Hide
import Derived.Lib.ConvBytes
namespace Go.Proofs.Ytefjhhgfkdkfaaa
set_option linter.unusedSimpArgs false
set_option linter.unusedVariables false
open Go.RowKit
theorem ret_bool {a b : Bool} (h : a = b) : Ending.returned (.bool a) = .returned (.bool b) := by rw [h]
theorem ret_int {a b : Int} (h : a = b) : Ending.returned (.int .i64 a) = .returned (.int .i64 b) := by rw [h]
/-- What lay below stays: cells and marks. -/
theorem bcell {W w1 : World} (hb : Below W.heap.size W w1) : (∀ b o, b < W.heap.size → w1.cell? ⟨b, o, none⟩ = W.cell? ⟨b, o, none⟩) ∧ (∀ b o, b < W.heap.size → w1.frozen? ⟨b, o, none⟩ = W.frozen? ⟨b, o, none⟩) :=
  ⟨fun b o h => hb.cell (p := ⟨b, o, none⟩) h, fun b o h => hb.frozen (p := ⟨b, o, none⟩) h⟩
def gz (zs : List Int) (j : Nat) : Int := zs.getD j 0
/-- The cells from b, off on are the numbers. -/
def ZsAt (w : World) (b off : Nat) (zs : List Int) : Prop := ∀ j, j < zs.length → w.cell? ⟨b, off + j, none⟩ = some (.int .i64 (gz zs j))
theorem ZsAt.below {B : Nat} {w w' : World} {b off : Nat} {zs : List Int} (h : ZsAt w b off zs) (hb : Below B w w') (hB : b < B) : ZsAt w' b off zs :=
  fun j hj => (hb.cell (p := ⟨b, off + j, none⟩) hB).trans (h j hj)
/-- A slice of n elements at A: it lies below block B, wherever it has an element. -/
def Lies (A : Option Addr) (n : Nat) (B b off : Nat) : Prop := 0 < n → A = some ⟨b, off, none⟩ ∧ b < B
theorem Lies.mono {A : Option Addr} {n B B' b off : Nat} (h : Lies A n B b off) (hB : B ≤ B') : Lies A n B' b off := fun hn => ⟨(h hn).1, Nat.lt_of_lt_of_le (h hn).2 hB⟩
def win (n lo hi : Int) : Bool := decide (lo ≤ n ∧ n ≤ hi)
theorem win_t {n lo hi : Int} : win n lo hi = true ↔ lo ≤ n ∧ n ≤ hi := by unfold win; exact decide_eq_true_iff
theorem win_f {n lo hi : Int} : win n lo hi = false ↔ ¬ (lo ≤ n ∧ n ≤ hi) := by unfold win; exact decide_eq_false_iff_not
def nmEq (a b : ByteArray) : Bool := a.toList == b.toList
/-- The first of the first n that has the property, or -1. -/
def idx (pr : Nat → Bool) : Nat → Int
  | 0 => -1
  | n + 1 => if idx pr n = -1 then (if pr n then (n : Int) else -1) else idx pr n
theorem idx_none {pr : Nat → Bool} : ∀ {n : Nat}, (∀ j, j < n → pr j = false) → idx pr n = -1 := by
  intro n
  induction n with
  | zero => intro _; rfl
  | succ n ih => intro h; simp only [idx]; rw [if_pos (ih fun j hj => h j (by omega)), h n (by omega)]; rfl
theorem idx_hit {pr : Nat → Bool} {k : Nat} (hk : pr k = true) (h : ∀ j, j < k → pr j = false) : ∀ {n : Nat}, k < n → idx pr n = k := by
  intro n
  induction n with
  | zero => intro h; omega
  | succ n ih =>
    intro hn
    simp only [idx]
    by_cases e : k = n
    · subst e; rw [if_pos (idx_none h), if_pos hk]
    · rw [ih (by omega), if_neg (by omega)]
theorem idx_neg {pr : Nat → Bool} {n : Nat} (h : ¬ 0 ≤ idx pr n) : ∀ j, j < n → pr j = false := by
  induction n with
  | zero => intro j hj; omega
  | succ n ih =>
    simp only [idx] at h
    intro j hj
    by_cases h1 : idx pr n = -1
    · rw [if_pos h1] at h
      by_cases h2 : pr n = true
      · rw [if_pos h2] at h; omega
      · by_cases e : j = n
        · subst e; simpa using h2
        · exact ih (by omega) j (by omega)
    · rw [if_neg h1] at h
      exfalso
      have : ∀ m, idx pr m = -1 ∨ 0 ≤ idx pr m := by
        intro m
        induction m with
        | zero => left; rfl
        | succ m ih =>
          simp only [idx]
          by_cases a : idx pr m = -1
          · rw [if_pos a]; by_cases b : pr m = true
            · rw [if_pos b]; right; omega
            · rw [if_neg b]; left; rfl
          · rw [if_neg a]; exact ih
      rcases this n with h3 | h3
      · exact h1 h3
      · exact h h3
def nmb (s : ByteArray) (k : Nat) : Int := ((s.data.toList.getD k 0).toNat : Int)
theorem nmb_range (s : ByteArray) (k : Nat) : 0 ≤ nmb s k ∧ nmb s k ≤ 255 := by
  unfold nmb; have := (s.data.toList.getD k 0).toNat_lt; omega
def badc (k : Nat) (c : Int) : Prop := ¬ (97 ≤ c ∧ c ≤ 122) ∧ ¬ (65 ≤ c ∧ c ≤ 90) ∧ (k = 0 ∨ (c ≠ 45 ∧ (c < 48 ∨ 57 < c)))
instance (k : Nat) (c : Int) : Decidable (badc k c) := by unfold badc; exact inferInstance
def isNm (s : ByteArray) : Bool := decide ((∀ k, k < s.size → ¬ badc k (nmb s k)) ∧ 0 < s.size ∧ s.size ≤ 12)
theorem isNm_false {s : ByteArray} {k : Nat} (h : k < s.size) (hb : badc k (nmb s k)) : false = isNm s := by
  symm; unfold isNm; rw [decide_eq_false_iff_not]; exact fun hh => hh.1 k h hb
theorem isNm_all {s : ByteArray} (h : ∀ j, j < s.size → ¬ badc j (nmb s j)) : isNm s = decide (0 < s.size ∧ s.size ≤ 12) := by
  unfold isNm; rw [decide_eq_decide]; exact ⟨fun hh => hh.2, fun hh => ⟨h, hh⟩⟩
theorem bytes_nil {s : ByteArray} : s.toList = [] ↔ s.size = 0 := by
  rw [ByteArray.toList_eq, List.eq_nil_iff_length_eq_zero]; exact Iff.rfl
/-- The first of the first n that has an error, and its error. -/
def fstE (g : Nat → Int) : Nat → Int × Int
  | 0 => (0, 0)
  | n + 1 => if (fstE g n).2 = 0 then (if g n = 0 then (0, 0) else ((n : Int), g n)) else fstE g n
theorem fstE_none {g : Nat → Int} : ∀ {n : Nat}, (∀ j, j < n → g j = 0) → fstE g n = (0, 0) := by
  intro n
  induction n with
  | zero => intro _; rfl
  | succ n ih => intro h; simp only [fstE]; rw [ih fun j hj => h j (by omega), if_pos rfl, if_pos (h n (by omega))]
theorem fstE_hit {g : Nat → Int} {k : Nat} (hk : g k ≠ 0) (h : ∀ j, j < k → g j = 0) : ∀ {n : Nat}, k < n → fstE g n = ((k : Int), g k) := by
  intro n
  induction n with
  | zero => intro h; omega
  | succ n ih =>
    intro hn
    simp only [fstE]
    by_cases e : k = n
    · subst e; rw [fstE_none h, if_pos rfl, if_neg hk]
    · rw [ih (by omega), if_neg hk]
theorem fstE_zero {g : Nat → Int} {n : Nat} (h : (fstE g n).2 = 0) : ∀ j, j < n → g j = 0 := by
  induction n with
  | zero => intro j hj; omega
  | succ n ih =>
    simp only [fstE] at h
    intro j hj
    by_cases h1 : (fstE g n).2 = 0
    · rw [if_pos h1] at h
      by_cases h2 : g n = 0
      · by_cases e : j = n
        · subst e; exact h2
        · exact ih h1 j (by omega)
      · rw [if_neg h2] at h; exact absurd h h2
    · rw [if_neg h1] at h; exact absurd h h1
theorem enters_of' {P : Program} {f : FuncId} {fn : Func} {c : Code} (hf : P.funcs[f]? = some fn) (hname : (fn.name == "runtime.NumGoroutine") = false) (hb : fn.body = some c) :
    ∀ (args : Array Value) (w : World), (callFunc f args).run P w = .ok (.enter f args) w := by
  intro args w
  have h1 : fn.name ≠ "runtime.NumGoroutine" := by simpa using hname
  simp [callFunc, hf, h1, hb, mark]
theorem below_new (w : World) (o : Obj) : Below w.heap.size w (w.alloc o) := (Below.refl _ _).alloc (Nat.le_refl _) _
theorem bne_t {a b : Int} (h : a ≠ b) : (a != b) = true := by rw [bne_iff_ne]; exact h
theorem bne_f {a b : Int} (h : a = b) : (a != b) = false := by rw [h]; simp
def sumTo : Nat → (Nat → Int) → Int
  | 0, _ => 0
  | n + 1, f => sumTo n f + f n
theorem sumTo_congr {n : Nat} {f g : Nat → Int} (h : ∀ i, i < n → f i = g i) : sumTo n f = sumTo n g := by
  induction n with
  | zero => rfl
  | succ n ih => simp only [sumTo]; rw [ih (fun i hi => h i (by omega)), h n (by omega)]
/-- Block g is a row of cells, not frozen; the first n hold f. -/
def rowG (w : World) (g n : Nat) (f : Nat → Value) : Prop := ∃ (cur : Array Value) (e : TypeId), w.heap[g]? = some (.cells cur e (0, 0)) ∧ n ≤ cur.size ∧ ∀ j, j < n → cur[j]? = some (f j)
section
variable {w w' : World} {g n : Nat} {f h : Nat → Value}
theorem rowG.cell (r : rowG w g n f) {j : Nat} (hj : j < n) : w.cell? ⟨g, j, none⟩ = some (f j) := by
  obtain ⟨c, e, hb, _, hc⟩ := r
  simp [World.cell?, hb, hc j hj]
theorem rowG.frozen (r : rowG w g n f) (j : Nat) : w.frozen? ⟨g, j, none⟩ = false := by
  obtain ⟨c, e, hb, _⟩ := r
  simp [World.frozen?, hb]
theorem rowG.lt (r : rowG w g n f) : g < w.heap.size := by
  obtain ⟨c, e, hb, _⟩ := r
  exact (Array.getElem?_eq_some_iff.1 hb).1
theorem rowG.congr (r : rowG w g n f) (e : ∀ j, j < n → f j = h j) : rowG w g n h := by
  obtain ⟨c, t, hb, hn, hc⟩ := r
  exact ⟨c, t, hb, hn, fun j hj => by rw [hc j hj, e j hj]⟩
theorem rowG.of_block (r : rowG w g n f) (e : w'.heap[g]? = w.heap[g]?) : rowG w' g n f := by
  obtain ⟨c, t, hb, hn⟩ := r
  exact ⟨c, t, e.trans hb, hn⟩
theorem rowG.set (r : rowG w g n f) (i : Nat) (v : Value) : rowG (w.setCell ⟨g, i, none⟩ v) g n (fun j => if j = i then v else f j) := by
  obtain ⟨c, t, hb, hn, hc⟩ := r
  refine ⟨c.setIfInBounds i v, t, ?_, by simpa using hn, fun j hj => ?_⟩
  · simp [World.setCell, Array.getElem?_modify, hb]
  · rw [Array.getElem?_setIfInBounds]
    by_cases e : j = i
    · subst e
      rw [if_pos rfl, if_pos (by omega)]
      exact congrArg some (if_pos rfl).symm
    · rw [if_neg (fun h => e h.symm)]
      show c[j]? = some (if j = i then v else f j)
      rw [if_neg e]
      exact hc j hj
theorem rowG.drew (r : rowG w g n f) : rowG w.drew g n f := r
theorem rowG.setOther (r : rowG w g n f) {a : Addr} (ha : g ≠ a.block) (v : Value) : rowG (w.setCell a v) g n f := r.of_block (Below.heap_setCell _ _ _ _ ha)
end
theorem rowG_of_rowIs {w : World} {g n : Nat} {t : TypeId} {f : Nat → Value} (r : w.rowIs g t n f) : rowG w g n f := by
  obtain ⟨c, hb, hn, hc⟩ := r
  exact ⟨c, t, hb, by omega, hc⟩
theorem grown_cell {w w' : World} {g b : Nat} (h : w.grownBy w' (some g)) (hb : b < w.heap.size) (hne : b ≠ g) (o : Nat) : w'.cell? ⟨b, o, none⟩ = w.cell? ⟨b, o, none⟩ :=
  World.cell?_of_block (a := ⟨b, o, none⟩) (h.block b hb (fun e => hne (by injection e)))
theorem below_of_grown {w w' : World} {g B : Nat} (h : w.grownBy w' (some g)) (hB : B ≤ g) (hw : B ≤ w.heap.size) : Below B w w' :=
  ⟨h.os, h.tape, h.output, h.size, fun k hk => h.block k (by omega) (fun e => by injection e with e; omega)⟩
theorem grown_of_below {a w : World} (h : Below a.heap.size a w) (row : Option Nat) : a.grownBy w row := ⟨h.os, h.tape, h.output, h.size, fun i hi _ => h.block i hi⟩
/-- A block that is known whole. -/
def Blk (w : World) (g : Nat) (t : TypeId) (cs : Array Value) : Prop := w.heap[g]? = some (.cells cs t (0, 0))
section
variable {w w' : World} {g : Nat} {t : TypeId} {cs : Array Value}
theorem Blk.lt (h : Blk w g t cs) : g < w.heap.size := by
  rcases Nat.lt_or_ge g w.heap.size with hlt | hge
  · exact hlt
  · unfold Blk at h; rw [Array.getElem?_eq_none hge] at h; cases h
theorem Blk.new (w : World) (t : TypeId) (cs : Array Value) : Blk (w.alloc (.cells cs t)) w.heap.size t cs := heap_alloc_new w _
theorem Blk.cell (h : Blk w g t cs) (i : Nat) : w.cell? ⟨g, i, none⟩ = cs[i]? := cell_of_row w g i cs t (0, 0) h
theorem Blk.frozen (h : Blk w g t cs) (i : Nat) : w.frozen? ⟨g, i, none⟩ = false := by
  unfold Blk at h
  simp [World.frozen?, h]
theorem Blk.grown {row : Option Nat} (h : Blk w g t cs) (hb : w.grownBy w' row) (hg : some g ≠ row) : Blk w' g t cs := (hb.block g h.lt hg).trans h
theorem Blk.set_ (h : Blk w g t cs) (i : Nat) (u : Value) : Blk (w.setCell ⟨g, i, none⟩ u) g t (cs.setIfInBounds i u) := by
  unfold Blk at h ⊢
  simp [World.setCell, Array.getElem?_modify, h]
theorem own_blk_ne {base : Nat} {e : TypeId} {size n : Nat} {v : Value} {xs : List Value} (h : w.ownsRow base e size v n xs) (hg : Blk w g t cs) (hne : e ≠ t) : some g ≠ v.ownBlock := by
  rcases h.2 with ⟨rfl, _⟩ | ⟨g', cap, cur, rfl, _, hh, _⟩
  · simp [Value.ownBlock]
  · intro he
    have : g = g' := by simpa [Value.ownBlock] using he
    subst this
    unfold Blk at hg
    rw [hg] at hh
    injection hh with hh
    injection hh with _ ht
    exact hne ht.symm
end
theorem grown_alloc (w : World) (o : Obj) (row : Option Nat) : w.grownBy (w.alloc o) row := grown_of_below (below_new w o) row
theorem ownBlock_some (g n c : Nat) : (Value.slice (some ⟨g, 0, none⟩) n c).ownBlock = some g := rfl
theorem grownBy_drew {w w' : World} {row : Option Nat} (h : w.grownBy w' row) : w.grownBy w'.drew row := ⟨h.os, h.tape, h.output, h.size, h.block⟩
theorem Blk.below {B : Nat} {w w' : World} {g : Nat} {t : TypeId} {cs : Array Value} (h : Blk w g t cs) (hb : Below B w w') (hg : g < B) : Blk w' g t cs := (hb.block g hg).trans h
/-- A slice of n elements of sz cells: its cells are f. -/
def RV (W : World) (v : Value) (n sz : Nat) (f : Nat → Value) : Prop :=
  ∃ A b off c, v = .slice A n c ∧ Lies A n W.heap.size b off ∧ (∀ j, j < n * sz → W.cell? ⟨b, off + j, none⟩ = some (f j)) ∧ n ≤ c ∧ c ≤ 9223372036854775807
theorem RV.below {W W' : World} {v : Value} {n sz : Nat} {f : Nat → Value} (h : RV W v n sz f) (hb : Below W.heap.size W W') : RV W' v n sz f := by
  obtain ⟨A, b, off, c, rfl, h1, h2, h3⟩ := h
  refine ⟨A, b, off, c, rfl, h1.mono hb.size, fun j hj => ?_, h3⟩
  rcases Nat.eq_zero_or_pos n with e | e
  · subst e; omega
  · exact (hb.cell (p := ⟨b, off + j, none⟩) (h1 e).2).trans (h2 j hj)
theorem RV.congr {W : World} {v : Value} {n sz : Nat} {f g : Nat → Value} (h : RV W v n sz f) (e : ∀ j, j < n * sz → f j = g j) : RV W v n sz g := by
  obtain ⟨A, b, off, c, rfl, h1, h2, h3⟩ := h
  exact ⟨A, b, off, c, rfl, h1, fun j hj => by rw [h2 j hj, e j hj], h3⟩
theorem RV.nil (W : World) (sz : Nat) (f : Nat → Value) : RV W (.slice none 0 0) 0 sz f := ⟨none, 0, 0, 0, rfl, fun h => absurd h (Nat.lt_irrefl _), fun j hj => by omega, by omega, by omega⟩
/-- A list of numbers. -/
def IV (W : World) (zs : List Int) (v : Value) : Prop := RV W v zs.length 1 (fun j => .int .i64 (gz zs j))
theorem IV.below {W W' : World} {zs : List Int} {v : Value} (h : IV W zs v) (hb : Below W.heap.size W W') : IV W' zs v := RV.below h hb
theorem IV.nil (W : World) : IV W [] (.slice none 0 0) := RV.nil W 1 _
theorem IV.open {W : World} {zs : List Int} {v : Value} (h : IV W zs v) : ∃ A b off c, v = .slice A zs.length c ∧ Lies A zs.length W.heap.size b off ∧ ZsAt W b off zs ∧ zs.length ≤ c ∧ c ≤ 9223372036854775807 := by
  obtain ⟨A, b, off, c, h0, h1, h2, h3⟩ := h
  exact ⟨A, b, off, c, h0, h1, fun j hj => h2 j (by omega), h3⟩
theorem IV.mk {W : World} {zs : List Int} {A : Option Addr} {b off c : Nat} (h1 : Lies A zs.length W.heap.size b off) (h2 : ZsAt W b off zs) (h3 : zs.length ≤ c) (h4 : c ≤ 9223372036854775807) : IV W zs (.slice A zs.length c) :=
  ⟨A, b, off, c, rfl, h1, fun j hj => h2 j (by omega), h3, h4⟩
/-- A list of lists of numbers. -/
def gl (ls : List (List Int)) (i : Nat) : List Int := ls.getD i []
def LV (W : World) (ls : List (List Int)) (v : Value) : Prop := ∃ hs : Nat → Value, RV W v ls.length 1 hs ∧ ∀ i, i < ls.length → IV W (gl ls i) (hs i)
theorem LV.below {W W' : World} {ls : List (List Int)} {v : Value} (h : LV W ls v) (hb : Below W.heap.size W W') : LV W' ls v := by
  obtain ⟨hs, h1, h2⟩ := h
  exact ⟨hs, h1.below hb, fun i hi => (h2 i hi).below hb⟩
end Go.Proofs.Ytefjhhgfkdkfaaa
