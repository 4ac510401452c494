/- The bill of furniture, plainly: rows with their numbers, sorted. -/
import Derived.Test.YtlfeoofchebbkaaSbl
namespace Go.Proofs.Ytlfeoofchebbkaa
set_option linter.unusedSimpArgs false
set_option linter.unusedVariables false
open Go.RowKit
/-- The piece is furniture of these sides. -/
def keyF (a b : Int) (p : Piece) : Bool := decide (p.kind = 2) && (decide (max p.w p.h = a) && decide (min p.w p.h = b))
def cntF (ps : List Piece) (a b : Int) : Int := ((ps.countP (keyF a b) : Nat) : Int)
theorem cntF_nil (a b : Int) : cntF [] a b = 0 := rfl
theorem cntF_nonneg (ps : List Piece) (a b : Int) : 0 ≤ cntF ps a b := by unfold cntF; omega
theorem cntF_le (ps : List Piece) (a b : Int) : cntF ps a b ≤ ps.length := by
  unfold cntF
  have := List.countP_le_length (p := keyF a b) (l := ps)
  omega
theorem cntF_snoc (ps : List Piece) (p : Piece) (a b : Int) : cntF (ps ++ [p]) a b = cntF ps a b + (if p.kind = 2 ∧ max p.w p.h = a ∧ min p.w p.h = b then 1 else 0) := by
  unfold cntF
  rw [List.countP_append, List.countP_singleton]
  by_cases h : p.kind = 2 ∧ max p.w p.h = a ∧ min p.w p.h = b
  · rw [if_pos h, if_pos (by simp [keyF, h])]; simp
  · rw [if_neg h, if_neg (by simpa [keyF] using h)]; simp
structure RowsOf (ps : List Piece) (l : List Tri) : Prop where
  nd : ∀ i j, i < j → j < l.length → ¬ ((gt3 l i).a = (gt3 l j).a ∧ (gt3 l i).b = (gt3 l j).b)
  cnt : ∀ j, j < l.length → (gt3 l j).n = cntF ps (gt3 l j).a (gt3 l j).b
  pos : ∀ j, j < l.length → 0 < (gt3 l j).n
  cov : ∀ a b, 0 < cntF ps a b → ∃ j, j < l.length ∧ (gt3 l j).a = a ∧ (gt3 l j).b = b
theorem RowsOf.ne {ps : List Piece} {l : List Tri} (h : RowsOf ps l) {i j : Nat} (hi : i < l.length) (hj : j < l.length) (hij : i ≠ j) : ¬ ((gt3 l i).a = (gt3 l j).a ∧ (gt3 l i).b = (gt3 l j).b) := by
  by_cases hlt : i < j
  · exact h.nd i j hlt hj
  · exact fun e => h.nd j i (by omega) hi ⟨e.1.symm, e.2.symm⟩
theorem gt3_set_eq {l : List Tri} {j : Nat} (hj : j < l.length) (t : Tri) : gt3 (l.set j t) j = t := by
  simp [gt3, List.getD, hj]
theorem gt3_set_ne {l : List Tri} {i j : Nat} (hij : i ≠ j) (t : Tri) : gt3 (l.set i t) j = gt3 l j := by
  simp [gt3, List.getD, List.getElem?_set, hij]
theorem gt3_app {l : List Tri} {j : Nat} (hj : j < l.length) (r : List Tri) : gt3 (l ++ r) j = gt3 l j := by
  simp [gt3, List.getD, List.getElem?_append, hj]
theorem gt3_last (l : List Tri) (t : Tri) : gt3 (l ++ [t]) l.length = t := by
  simp [gt3, List.getD]
theorem gt3_mem {l : List Tri} {j : Nat} (hj : j < l.length) : gt3 l j ∈ l := by
  simp [gt3, List.getD, hj]
theorem mem_gt3 {l : List Tri} {t : Tri} (h : t ∈ l) : ∃ j, j < l.length ∧ gt3 l j = t := by
  obtain ⟨j, hj, e⟩ := List.getElem_of_mem h
  exact ⟨j, hj, by simp [gt3, List.getD, hj, e]⟩
theorem rows_nil : RowsOf [] [] := ⟨fun _ _ _ h => by simp at h, fun _ h => by simp at h, fun _ h => by simp at h, fun a b h => by rw [cntF_nil] at h; omega⟩
theorem rows_skip {ps : List Piece} {l : List Tri} {p : Piece} (h : RowsOf ps l) (hk : p.kind ≠ 2) : RowsOf (ps ++ [p]) l := by
  have e : ∀ a b, cntF (ps ++ [p]) a b = cntF ps a b := fun a b => by rw [cntF_snoc, if_neg (fun h => hk h.1)]; omega
  exact ⟨h.nd, fun j hj => by rw [e]; exact h.cnt j hj, h.pos, fun a b hp => h.cov a b (by rw [e] at hp; exact hp)⟩
theorem rows_bump {ps : List Piece} {l : List Tri} {p : Piece} (h : RowsOf ps l) (hk : p.kind = 2) {j : Nat} (hj : j < l.length) (ha : (gt3 l j).a = max p.w p.h) (hb : (gt3 l j).b = min p.w p.h) :
    RowsOf (ps ++ [p]) (l.set j ⟨(gt3 l j).a, (gt3 l j).b, (gt3 l j).n + 1⟩) := by
  have keys : ∀ i, i < l.length → (gt3 (l.set j ⟨(gt3 l j).a, (gt3 l j).b, (gt3 l j).n + 1⟩) i).a = (gt3 l i).a ∧ (gt3 (l.set j ⟨(gt3 l j).a, (gt3 l j).b, (gt3 l j).n + 1⟩) i).b = (gt3 l i).b := by
    intro i hi
    by_cases e : j = i
    · subst e; rw [gt3_set_eq hj]; exact ⟨rfl, rfl⟩
    · rw [gt3_set_ne e]; exact ⟨rfl, rfl⟩
  refine ⟨?_, ?_, ?_, ?_⟩
  · intro i k hik hkl
    rw [List.length_set] at hkl
    rw [(keys i (by omega)).1, (keys i (by omega)).2, (keys k hkl).1, (keys k hkl).2]
    exact h.nd i k hik hkl
  · intro i hi
    rw [List.length_set] at hi
    rw [(keys i hi).1, (keys i hi).2, cntF_snoc]
    by_cases e : j = i
    · subst e
      rw [gt3_set_eq hj, if_pos ⟨hk, ha.symm, hb.symm⟩]
      show (gt3 l j).n + 1 = _
      rw [h.cnt j hj]
    · rw [gt3_set_ne e, if_neg (fun q => h.ne hj hi e ⟨by rw [ha]; exact q.2.1, by rw [hb]; exact q.2.2⟩), h.cnt i hi]
      omega
  · intro i hi
    rw [List.length_set] at hi
    by_cases e : j = i
    · subst e
      rw [gt3_set_eq hj]
      have := h.pos j hj
      show 0 < (gt3 l j).n + 1
      omega
    · rw [gt3_set_ne e]; exact h.pos i hi
  · intro a b hp
    rw [cntF_snoc] at hp
    by_cases q : p.kind = 2 ∧ max p.w p.h = a ∧ min p.w p.h = b
    · exact ⟨j, by rw [List.length_set]; exact hj, by rw [(keys j hj).1, ha]; exact q.2.1, by rw [(keys j hj).2, hb]; exact q.2.2⟩
    · rw [if_neg q] at hp
      obtain ⟨i, hi, e1, e2⟩ := h.cov a b (by omega)
      exact ⟨i, by rw [List.length_set]; exact hi, by rw [(keys i hi).1]; exact e1, by rw [(keys i hi).2]; exact e2⟩
theorem rows_new {ps : List Piece} {l : List Tri} {p : Piece} (h : RowsOf ps l) (hk : p.kind = 2) (hno : ∀ j, j < l.length → ¬ ((gt3 l j).a = max p.w p.h ∧ (gt3 l j).b = min p.w p.h)) :
    RowsOf (ps ++ [p]) (l ++ [⟨max p.w p.h, min p.w p.h, 1⟩]) := by
  have hz : cntF ps (max p.w p.h) (min p.w p.h) = 0 := by
    have := cntF_nonneg ps (max p.w p.h) (min p.w p.h)
    by_cases e : 0 < cntF ps (max p.w p.h) (min p.w p.h)
    · obtain ⟨j, hj, e1, e2⟩ := h.cov _ _ e
      exact absurd ⟨e1, e2⟩ (hno j hj)
    · omega
  refine ⟨?_, ?_, ?_, ?_⟩
  · intro i j hij hj
    rw [List.length_append, List.length_singleton] at hj
    by_cases e : j < l.length
    · rw [gt3_app e, gt3_app (by omega)]; exact h.nd i j hij e
    · have : j = l.length := by omega
      subst this
      rw [gt3_last, gt3_app hij]
      exact hno i hij
  · intro j hj
    rw [List.length_append, List.length_singleton] at hj
    by_cases e : j < l.length
    · rw [gt3_app e, cntF_snoc, if_neg (fun q => hno j e ⟨q.2.1.symm, q.2.2.symm⟩), h.cnt j e]; omega
    · have : j = l.length := by omega
      subst this
      rw [gt3_last, cntF_snoc, if_pos ⟨hk, rfl, rfl⟩]
      show (1 : Int) = cntF ps (max p.w p.h) (min p.w p.h) + 1
      rw [hz]; rfl
  · intro j hj
    rw [List.length_append, List.length_singleton] at hj
    by_cases e : j < l.length
    · rw [gt3_app e]; exact h.pos j e
    · have : j = l.length := by omega
      subst this
      rw [gt3_last]; show (0:Int) < 1; decide
  · intro a b hp
    rw [cntF_snoc] at hp
    by_cases q : p.kind = 2 ∧ max p.w p.h = a ∧ min p.w p.h = b
    · exact ⟨l.length, by simp, by rw [gt3_last]; exact q.2.1, by rw [gt3_last]; exact q.2.2⟩
    · rw [if_neg q] at hp
      obtain ⟨i, hi, e1, e2⟩ := h.cov a b (by omega)
      exact ⟨i, by simp; omega, by rw [gt3_app hi]; exact e1, by rw [gt3_app hi]; exact e2⟩
/-- The order of the rows. -/
def lt3 (x y : Tri) : Prop := x.a < y.a ∨ (x.a = y.a ∧ x.b < y.b)
structure BillOf (ps : List Piece) (l : List Tri) : Prop where
  mem : ∀ t, t ∈ l ↔ (t.n = cntF ps t.a t.b ∧ 0 < t.n)
  sorted : l.Pairwise lt3
theorem RowsOf.mem {ps : List Piece} {l : List Tri} (h : RowsOf ps l) (t : Tri) : t ∈ l ↔ (t.n = cntF ps t.a t.b ∧ 0 < t.n) := by
  constructor
  · intro ht
    obtain ⟨j, hj, rfl⟩ := mem_gt3 ht
    exact ⟨h.cnt j hj, h.pos j hj⟩
  · intro ⟨h1, h2⟩
    obtain ⟨j, hj, e1, e2⟩ := h.cov t.a t.b (by omega)
    have h3 := h.cnt j hj
    rw [e1, e2, ← h1] at h3
    have : gt3 l j = t := by
      cases t; cases hg : gt3 l j
      rw [hg] at e1 e2 h3
      simp_all
    rw [← this]; exact gt3_mem hj
theorem lt3_irrefl (x : Tri) : ¬ lt3 x x := by unfold lt3; omega
theorem lt3_asymm {x y : Tri} (h : lt3 x y) : ¬ lt3 y x := by unfold lt3 at *; omega
theorem lt3_trans {x y z : Tri} (h : lt3 x y) (h2 : lt3 y z) : lt3 x z := by unfold lt3 at *; omega
theorem sorted_unique : ∀ {l l' : List Tri}, l.Pairwise lt3 → l'.Pairwise lt3 → (∀ t, t ∈ l ↔ t ∈ l') → l = l'
  | [], [], _, _, _ => rfl
  | [], y :: ys, _, _, h => by have := (h y).2 (by simp); simp at this
  | x :: xs, [], _, _, h => by have := (h x).1 (by simp); simp at this
  | x :: xs, y :: ys, h1, h2, h => by
    rw [List.pairwise_cons] at h1 h2
    have hxy : x = y := by
      rcases List.mem_cons.1 ((h x).1 (by simp)) with e | e
      · exact e
      · rcases List.mem_cons.1 ((h y).2 (by simp)) with e' | e'
        · exact e'.symm
        · exact absurd (h1.1 y e') (lt3_asymm (h2.1 x e))
    subst hxy
    congr 1
    refine sorted_unique h1.2 h2.2 fun t => ⟨fun ht => ?_, fun ht => ?_⟩
    · rcases List.mem_cons.1 ((h t).1 (by simp [ht])) with e | e
      · subst e; exact absurd (h1.1 t ht) (lt3_irrefl t)
      · exact e
    · rcases List.mem_cons.1 ((h t).2 (by simp [ht])) with e | e
      · subst e; exact absurd (h2.1 t ht) (lt3_irrefl t)
      · exact e
theorem BillOf.unique {ps ps' : List Piece} {l l' : List Tri} (h : BillOf ps l) (h' : BillOf ps' l') (he : ∀ a b, cntF ps a b = cntF ps' a b) : l = l' :=
  sorted_unique h.sorted h'.sorted fun t => by rw [h.mem, h'.mem, he]
/-- The rows as cells. -/
def tcells (l : List Tri) : List Value := l.flatMap fun t => [.int .i64 t.a, .int .i64 t.b, .int .i64 t.n]
theorem tcells_length (l : List Tri) : (tcells l).length = l.length * 3 := by
  unfold tcells
  induction l with
  | nil => rfl
  | cons x xs ih => rw [List.flatMap_cons, List.length_append, ih]; simp; omega
theorem tcells_app (l r : List Tri) : tcells (l ++ r) = tcells l ++ tcells r := by unfold tcells; rw [List.flatMap_append]
theorem tcells_at : ∀ (l : List Tri) (j : Nat), j < l.length → (tcells l)[j * 3]? = some (.int .i64 (gt3 l j).a) ∧ (tcells l)[j * 3 + 1]? = some (.int .i64 (gt3 l j).b) ∧ (tcells l)[j * 3 + 2]? = some (.int .i64 (gt3 l j).n)
  | [], j, h => by simp at h
  | x :: xs, 0, h => by simp [tcells, gt3]
  | x :: xs, j + 1, h => by
    have ih := tcells_at xs j (by simpa using h)
    have e : tcells (x :: xs) = [.int .i64 x.a, .int .i64 x.b, .int .i64 x.n] ++ tcells xs := by simp [tcells]
    have e1 : gt3 (x :: xs) (j + 1) = gt3 xs j := by simp [gt3]
    rw [e, e1, show (j + 1) * 3 = 3 + j * 3 by omega]
    refine ⟨?_, ?_, ?_⟩
    · rw [List.getElem?_append_right (by simp)]; simpa using ih.1
    · rw [List.getElem?_append_right (by simp; omega), show 3 + j * 3 + 1 - [Value.int IntKind.i64 x.a, Value.int IntKind.i64 x.b, Value.int IntKind.i64 x.n].length = j * 3 + 1 by simp; omega]; exact ih.2.1
    · rw [List.getElem?_append_right (by simp; omega), show 3 + j * 3 + 2 - [Value.int IntKind.i64 x.a, Value.int IntKind.i64 x.b, Value.int IntKind.i64 x.n].length = j * 3 + 2 by simp; omega]; exact ih.2.2
theorem tcells_set : ∀ (l : List Tri) (j : Nat) (t : Tri), j < l.length → (((tcells l).set (j * 3) (.int .i64 t.a)).set (j * 3 + 1) (.int .i64 t.b)).set (j * 3 + 2) (.int .i64 t.n) = tcells (l.set j t)
  | [], j, t, h => by simp at h
  | x :: xs, 0, t, h => by simp [tcells]
  | x :: xs, j + 1, t, h => by
    have ih := tcells_set xs j t (by simpa using h)
    have e : tcells (x :: xs) = .int .i64 x.a :: .int .i64 x.b :: .int .i64 x.n :: tcells xs := by simp [tcells]
    have e2 : tcells ((x :: xs).set (j + 1) t) = .int .i64 x.a :: .int .i64 x.b :: .int .i64 x.n :: tcells (xs.set j t) := by simp [tcells]
    rw [e, e2, ← ih, show (j + 1) * 3 = j * 3 + 3 by omega, show j * 3 + 3 + 1 = (j * 3 + 1) + 3 by omega, show j * 3 + 3 + 2 = (j * 3 + 2) + 3 by omega]
    simp
theorem tcells_set2 (l : List Tri) (j : Nat) (n : Int) (hj : j < l.length) : (tcells l).set (j * 3 + 2) (.int .i64 n) = tcells (l.set j ⟨(gt3 l j).a, (gt3 l j).b, n⟩) := by
  rw [← tcells_set l j _ hj]
  obtain ⟨h0, h1, h2⟩ := tcells_at l j hj
  obtain ⟨q0, r0⟩ := List.getElem?_eq_some_iff.1 h0
  obtain ⟨q1, r1⟩ := List.getElem?_eq_some_iff.1 h1
  show _ = (((tcells l).set (j * 3) (.int .i64 (gt3 l j).a)).set (j * 3 + 1) (.int .i64 (gt3 l j).b)).set (j * 3 + 2) (.int .i64 n)
  have s0 : (tcells l).set (j * 3) (.int .i64 (gt3 l j).a) = tcells l := by rw [← r0]; exact List.set_getElem_self q0
  rw [s0]
  have s1 : (tcells l).set (j * 3 + 1) (.int .i64 (gt3 l j).b) = tcells l := by rw [← r1]; exact List.set_getElem_self q1
  rw [s1]
/-- Sorted up to i. -/
def SortTo (l : List Tri) (i : Nat) : Prop := ∀ x y, x < y → y < i → lt3 (gt3 l x) (gt3 l y)
/-- Sorted up to i, but for j, which is less than what lies behind it. -/
structure InsAt (l : List Tri) (i j : Nat) : Prop where
  le : j ≤ i
  lt : i < l.length
  so : ∀ x y, x < y → y ≤ i → x ≠ j → y ≠ j → lt3 (gt3 l x) (gt3 l y)
  up : ∀ y, j < y → y ≤ i → lt3 (gt3 l j) (gt3 l y)
def swap3 (l : List Tri) (j : Nat) : List Tri := (l.set j (gt3 l (j - 1))).set (j - 1) (gt3 l j)
theorem swap3_length (l : List Tri) (j : Nat) : (swap3 l j).length = l.length := by simp [swap3]
theorem swap3_at {l : List Tri} {j : Nat} (h0 : 0 < j) (hl : j < l.length) (x : Nat) : gt3 (swap3 l j) x = if x = j - 1 then gt3 l j else if x = j then gt3 l (j - 1) else gt3 l x := by
  unfold swap3
  by_cases e : x = j - 1
  · subst e; rw [if_pos rfl, gt3_set_eq (by simp; omega)]
  · rw [if_neg e, gt3_set_ne (by omega)]
    by_cases e2 : x = j
    · subst e2; rw [if_pos rfl, gt3_set_eq hl]
    · rw [if_neg e2, gt3_set_ne (by omega)]
theorem SortTo.one (l : List Tri) : SortTo l 1 := fun x y h1 h2 => by omega
theorem SortTo.start {l : List Tri} {i : Nat} (h : SortTo l i) (hi : i < l.length) : InsAt l i i :=
  ⟨Nat.le_refl _, hi, fun x y h1 h2 h3 h4 => h x y h1 (by omega), fun y h1 h2 => by omega⟩
theorem InsAt.step {l : List Tri} {i j : Nat} (h : InsAt l i j) (h0 : 0 < j) (hlt : lt3 (gt3 l j) (gt3 l (j - 1))) : InsAt (swap3 l j) i (j - 1) := by
  have hjl : j < l.length := by have := h.le; have := h.lt; omega
  refine ⟨by have := h.le; omega, by rw [swap3_length]; exact h.lt, ?_, ?_⟩
  · intro x y hxy hy hx hyj
    rw [swap3_at h0 hjl, swap3_at h0 hjl, if_neg hx, if_neg hyj]
    by_cases e1 : x = j
    · subst e1
      rw [if_pos rfl, if_neg (by omega)]
      exact h.so _ _ (by omega) hy (by omega) (by omega)
    · rw [if_neg e1]
      by_cases e2 : y = j
      · subst e2
        rw [if_pos rfl]
        exact h.so _ _ (by omega) (by omega) e1 (by omega)
      · rw [if_neg e2]
        exact h.so _ _ hxy hy e1 e2
  · intro y hy hyi
    rw [swap3_at h0 hjl, swap3_at h0 hjl, if_pos rfl, if_neg (by omega)]
    by_cases e2 : y = j
    · rw [if_pos e2]; exact hlt
    · rw [if_neg e2]
      exact h.up y (by omega) hyi
theorem InsAt.done {l : List Tri} {i j : Nat} (h : InsAt l i j) (hd : 0 < j → lt3 (gt3 l (j - 1)) (gt3 l j)) : SortTo l (i + 1) := by
  intro x y hxy hy
  by_cases e1 : x = j
  · subst e1; exact h.up y hxy (by omega)
  · by_cases e2 : y = j
    · subst e2
      have := hd (by omega)
      by_cases e3 : x = y - 1
      · subst e3; exact this
      · exact lt3_trans (h.so x (y - 1) (by omega) (by omega) e1 (by omega)) this
    · exact h.so x y hxy (by omega) e1 e2
theorem lt3_or {x y : Tri} (h : ¬ lt3 x y) (hne : ¬ (y.a = x.a ∧ y.b = x.b)) : lt3 y x := by unfold lt3 at *; omega
def sw3 (j x : Nat) : Nat := if x = j - 1 then j else if x = j then j - 1 else x
theorem sw3_lt {j x n : Nat} (h : j < n) (hx : x < n) : sw3 j x < n := by unfold sw3; split <;> (try split) <;> omega
theorem sw3_inj {j x y : Nat} (h : 0 < j) (hxy : x ≠ y) : sw3 j x ≠ sw3 j y := by
  unfold sw3
  by_cases a : x = j - 1 <;> by_cases b : x = j <;> by_cases c : y = j - 1 <;> by_cases d : y = j <;> simp only [a, b, c, d, if_true, if_false, ite_true, ite_false] <;> (try split) <;> (try split) <;> omega
theorem sw3_sw3 {j x : Nat} (h : 0 < j) : sw3 j (sw3 j x) = x := by
  unfold sw3
  by_cases a : x = j - 1
  · rw [if_pos a, if_neg (by omega), if_pos rfl, a]
  · rw [if_neg a]
    by_cases b : x = j
    · rw [if_pos b, if_pos rfl, b]
    · rw [if_neg b, if_neg a, if_neg b]
theorem swap3_sw {l : List Tri} {j : Nat} (h0 : 0 < j) (hl : j < l.length) (x : Nat) : gt3 (swap3 l j) x = gt3 l (sw3 j x) := by
  rw [swap3_at h0 hl]; unfold sw3
  by_cases a : x = j - 1
  · rw [if_pos a, if_pos a]
  · rw [if_neg a, if_neg a]
    by_cases b : x = j
    · rw [if_pos b, if_pos b]
    · rw [if_neg b, if_neg b]
theorem rows_swap {ps : List Piece} {l : List Tri} {j : Nat} (h : RowsOf ps l) (h0 : 0 < j) (hl : j < l.length) : RowsOf ps (swap3 l j) := by
  refine ⟨?_, ?_, ?_, ?_⟩
  · intro x y hxy hy
    rw [swap3_length] at hy
    rw [swap3_sw h0 hl, swap3_sw h0 hl]
    exact h.ne (sw3_lt hl (by omega)) (sw3_lt hl hy) (sw3_inj h0 (by omega))
  · intro x hx
    rw [swap3_length] at hx
    rw [swap3_sw h0 hl]; exact h.cnt _ (sw3_lt hl hx)
  · intro x hx
    rw [swap3_length] at hx
    rw [swap3_sw h0 hl]; exact h.pos _ (sw3_lt hl hx)
  · intro a b hp
    obtain ⟨x, hx, e1, e2⟩ := h.cov a b hp
    refine ⟨sw3 j x, by rw [swap3_length]; exact sw3_lt hl hx, ?_⟩
    rw [swap3_sw h0 hl, sw3_sw3 h0]; exact ⟨e1, e2⟩
theorem SortTo.pairwise {l : List Tri} (h : SortTo l l.length) : l.Pairwise lt3 := by
  rw [List.pairwise_iff_getElem]
  intro i j hi hj hij
  have := h i j hij hj
  simpa [gt3, List.getD, hi, hj] using this
theorem RowsOf.bill {ps : List Piece} {l : List Tri} (h : RowsOf ps l) (hs : SortTo l l.length) : BillOf ps l := ⟨h.mem, hs.pairwise⟩
theorem cntF_turn {ps qs : List Piece} (h : ps.length = qs.length) (hk : ∀ j, j < ps.length → ((gp ps j).kind = 2 ↔ (gp qs j).kind = 2) ∧ max (gp ps j).w (gp ps j).h = max (gp qs j).w (gp qs j).h ∧ min (gp ps j).w (gp ps j).h = min (gp qs j).w (gp qs j).h) (a b : Int) : cntF ps a b = cntF qs a b := by
  unfold cntF
  have : ∀ (ps qs : List Piece), ps.length = qs.length → (∀ j, j < ps.length → ((gp ps j).kind = 2 ↔ (gp qs j).kind = 2) ∧ max (gp ps j).w (gp ps j).h = max (gp qs j).w (gp qs j).h ∧ min (gp ps j).w (gp ps j).h = min (gp qs j).w (gp qs j).h) → ps.countP (keyF a b) = qs.countP (keyF a b) := by
    intro ps
    induction ps with
    | nil => intro qs h _; cases qs with | nil => rfl | cons _ _ => simp at h
    | cons x xs ih =>
      intro qs h hk
      cases qs with
      | nil => simp at h
      | cons y ys =>
        rw [List.countP_cons, List.countP_cons, ih ys (by simpa using h) (fun j hj => by simpa [gp] using hk (j + 1) (by simpa using hj))]
        have h0 := hk 0 (by simp)
        simp only [gp, List.getD_cons_zero] at h0
        have : keyF a b x = keyF a b y := by
          unfold keyF; rw [h0.2.1, h0.2.2]
          congr 1
          exact decide_eq_decide.2 h0.1
        rw [this]
  rw [this ps qs h hk]
end Go.Proofs.Ytlfeoofchebbkaa
