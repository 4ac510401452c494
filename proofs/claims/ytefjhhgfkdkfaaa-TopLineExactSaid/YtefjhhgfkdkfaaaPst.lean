/- Pieces of a line while they are gathered: a row of headers and the rows they point at. -/
import Derived.Test.YtefjhhgfkdkfaaaOpn
import Derived.Test.YtefjhhgfkdkfaaaSlc
import Derived.Deep.Onto
import Derived.Laws.OwnMore
namespace Go.Proofs.Ytefjhhgfkdkfaaa
set_option linter.unusedSimpArgs false
set_option linter.unusedVariables false
open Go.RowKit
theorem own_ne {w : World} {B B' : Nat} {e e' : TypeId} {z z' n n' : Nat} {v v' : Value} {xs xs' : List Value} (h : w.ownsRow B e z v n xs) (h' : w.ownsRow B' e' z' v' n' xs') (hne : e ≠ e') : v.ownBlock = none ∨ v.ownBlock ≠ v'.ownBlock := by
  rcases h.2 with ⟨rfl, _⟩ | ⟨g, cap, cur, rfl, _, hg, _⟩
  · left; rfl
  · right
    rcases h'.2 with ⟨rfl, _⟩ | ⟨g', cap', cur', rfl, _, hg', _⟩
    · simp [Value.ownBlock]
    · intro he
      have : g = g' := by simpa [Value.ownBlock] using he
      subst this
      rw [hg] at hg'
      injection hg' with hh
      injection hh with _ ht
      exact hne ht
structure PSt (W : World) (B : Nat) (pss : List (List Int)) (vo : Value) (hd : List Value) : Prop where
  row : W.ownsRow B 30 1 vo pss.length hd
  len : hd.length = pss.length
  pc : ∀ i, i < pss.length → IO W B (gl pss i) (hd.getD i undef)
  sep : ∀ i j t, i < j → j < pss.length → (hd.getD i undef).ownBlock = some t → (hd.getD j undef).ownBlock ≠ some t
theorem gl_app_lt {a b : List (List Int)} {i : Nat} (h : i < a.length) : gl (a ++ b) i = gl a i := by
  unfold gl; simp [List.getD_eq_getElem?_getD, List.getElem?_append_left h]
theorem gl_app_eq {a : List (List Int)} {x : List Int} : gl (a ++ [x]) a.length = x := by
  unfold gl; simp [List.getD_eq_getElem?_getD]
theorem gd_app_lt {a b : List Value} {i : Nat} (h : i < a.length) : (a ++ b).getD i undef = a.getD i undef := by
  simp [List.getD_eq_getElem?_getD, List.getElem?_append_left h]
theorem gd_app_eq {a : List Value} {x : Value} : (a ++ [x]).getD a.length undef = x := by
  simp [List.getD_eq_getElem?_getD]
theorem PSt.nil (W : World) (B : Nat) : PSt W B [] (.slice none 0 0) [] :=
  ⟨World.ownsRow_nil _ _ _ _, rfl, fun i hi => absurd hi (Nat.not_lt_zero _), fun i j t _ hj => absurd hj (Nat.not_lt_zero _)⟩
theorem PSt.below {W W' : World} {B : Nat} {pss : List (List Int)} {vo : Value} {hd : List Value} (h : PSt W B pss vo hd) (hb : Below W.heap.size W W') : PSt W' B pss vo hd :=
  ⟨h.row.kept (grown_of_below hb none) (Classical.em _), h.len, fun i hi => (h.pc i hi).below hb, h.sep⟩
theorem PSt.set_ {W : World} {B : Nat} {pss : List (List Int)} {vo : Value} {hd : List Value} (h : PSt W B pss vo hd) {a : Addr} (ha : a.block < B) (u : Value) : PSt (W.setCell a u) B pss vo hd :=
  ⟨ownsRow_setCell_below h.row ha u, h.len, fun i hi => ownsRow_setCell_below (h.pc i hi) ha u, h.sep⟩
theorem PSt.lv {W : World} {B : Nat} {pss : List (List Int)} {vo : Value} {hd : List Value} (h : PSt W B pss vo hd) : LV W pss vo :=
  ⟨fun j => hd.getD j undef, rv_of_own h.row (by rw [h.len]; omega), fun i hi => (h.pc i hi).iv⟩
theorem PSt.lt {W : World} {B : Nat} {pss : List (List Int)} {vo : Value} {hd : List Value} (h : PSt W B pss vo hd) : ∀ k, vo.ownBlock = some k → B ≤ k ∧ k < W.heap.size := h.row.lt
theorem PSt.shape {W : World} {B : Nat} {pss : List (List Int)} {vo : Value} {hd : List Value} (h : PSt W B pss vo hd) : ∃ A c, vo = .slice A pss.length c := by
  rcases h.row.2 with ⟨rfl, h0⟩ | ⟨g, cap, cur, rfl, _⟩
  · exact ⟨none, 0, by rw [h0]⟩
  · exact ⟨_, _, rfl⟩
theorem PSt.push {W W1 W3 : World} {B : Nat} {pss : List (List Int)} {vo v v' : Value} {hd : List Value} {zs : List Int} {o : Obj} (h : PSt W B pss vo hd) (hB : B ≤ W.heap.size) (hb1 : Below W.heap.size W W1) (hio : IO W1 W.heap.size zs v)
    (hown : W3.ownsRow B 30 1 v' (pss.length + 1) (hd ++ [v])) (hg : (W1.alloc o).grownBy W3 vo.ownBlock) : PSt W3 B (pss ++ [zs]) v' (hd ++ [v]) := by
  have h1 := (h.below hb1).below (below_new W1 o)
  have hio1 : (W1.alloc o).ownsRow B 3 1 v zs.length (zv zs) := (hio.below (below_new W1 o)).mono hB
  refine ⟨by rw [List.length_append]; exact hown, by simp [h.len], fun i hi => ?_, fun i j t hij hj ht => ?_⟩
  · by_cases e : i < pss.length
    · rw [gl_app_lt e, gd_app_lt (by rw [h.len]; exact e)]
      exact (h1.pc i e).kept hg (own_ne (h1.pc i e) h1.row (by decide))
    · have e' : i = pss.length := by simp at hi; omega
      subst e'
      rw [gl_app_eq, ← h.len, gd_app_eq]
      exact hio1.kept hg (own_ne hio1 h1.row (by decide))
  · have hil : i < pss.length := by simp at hj; omega
    rw [gd_app_lt (by rw [h.len]; exact hil)] at ht
    by_cases e : j < pss.length
    · rw [gd_app_lt (by rw [h.len]; exact e)]
      exact h.sep i j t hij e ht
    · have e' : j = pss.length := by simp at hj; omega
      subst e'
      rw [← h.len, gd_app_eq]
      intro h2
      have h3 := (h.pc i hil).lt t ht
      have h4 := hio.lt t h2
      omega
/-- The last piece, and how it lies. -/
theorem PSt.last {W : World} {B : Nat} {pss : List (List Int)} {vo : Value} {hd : List Value} (h : PSt W B pss vo hd) (hn : 0 < pss.length) :
    ∃ g c vl, vo = .slice (some ⟨g, 0, none⟩) pss.length c ∧ B ≤ g ∧ g < W.heap.size ∧ W.cell? ⟨g, pss.length - 1, none⟩ = some vl ∧ W.frozen? ⟨g, pss.length - 1, none⟩ = false ∧ IO W B (gl pss (pss.length - 1)) vl ∧ vl = hd.getD (pss.length - 1) undef := by
  obtain ⟨g, c, rfl, h1, h2⟩ := h.row.form hn
  refine ⟨g, c, hd.getD (pss.length - 1) undef, rfl, h1, h2, ?_, h.row.frozenAt _, h.pc _ (by omega), rfl⟩
  rw [h.row.cellAt _ (by omega), List.getD_eq_getElem?_getD, List.getElem?_eq_getElem (by rw [h.len]; omega)]
  rfl
theorem hyph_gl {h : Int} {l : List (List Int)} (hl : 0 < l.length) : (hyph h l).length = l.length ∧ (∀ i, i < l.length - 1 → gl (hyph h l) i = gl l i) ∧ gl (hyph h l) (l.length - 1) = gl l (l.length - 1) ++ [h] := by
  obtain ⟨a, x, rfl⟩ : ∃ a x, l = a ++ [x] := ⟨l.dropLast, l.getLast (List.ne_nil_of_length_pos hl), (List.dropLast_concat_getLast _).symm⟩
  rw [hyph_snoc]
  refine ⟨by simp, fun i hi => ?_, ?_⟩
  · rw [gl_app_lt (by simp at hi; omega), gl_app_lt (by simp at hi; omega)]
  · simp only [List.length_append, List.length_cons, List.length_nil, Nat.add_sub_cancel]
    rw [gl_app_eq, gl_app_eq]
theorem PSt.hyph {W W1 W3 : World} {B : Nat} {pss : List (List Int)} {vo v v' : Value} {hd : List Value} {h0 : Int} {o : Obj} {g c : Nat} (h : PSt W B pss vo hd) (hn : 0 < pss.length) (hB : B ≤ W.heap.size) (hvo : vo = .slice (some ⟨g, 0, none⟩) pss.length c) (hv : v = hd.getD (pss.length - 1) undef)
    (hb1 : Below W.heap.size W W1) (hown : W3.ownsRow B 3 1 v' ((gl pss (pss.length - 1)).length + 1) (zv (gl pss (pss.length - 1)) ++ [.int .i64 h0])) (hg : W1.grownBy W3 v.ownBlock) (hat : v'.ownBlock = v.ownBlock ∨ v'.ownBlock = some W1.heap.size) :
    PSt (W3.setCell ⟨g, pss.length - 1, none⟩ v') B (Go.Proofs.Ytefjhhgfkdkfaaa.hyph h0 pss) vo (hd.set (pss.length - 1) v') := by
  have h1 := h.below hb1
  have hz := hyph_gl (h := h0) hn
  have hvb : ∀ t, v.ownBlock = some t → t < W.heap.size := fun t ht => by
    have := h.pc (pss.length - 1) (by omega)
    rw [← hv] at this
    exact (this.lt t ht).2
  have hrow : W3.ownsRow B 30 1 vo pss.length hd := h1.row.kept hg (by
    have := own_ne h1.row (h1.pc (pss.length - 1) (by omega)) (by decide)
    rwa [← hv] at this)
  have hpc : ∀ i, i < pss.length - 1 → IO W3 B (gl pss i) (hd.getD i undef) := fun i hi => (h1.pc i (by omega)).kept hg (by
    rcases hq : (hd.getD i undef).ownBlock with _ | t
    · left; rfl
    · right
      intro e
      have h3 := h1.sep i (pss.length - 1) t hi (by omega) hq
      rw [← hv] at h3
      exact h3 e.symm)
  have hg1 : g < W.heap.size := by
    have := (h.row.lt g (by rw [hvo]; rfl)).2
    exact this
  have hne3 : ∀ (u : Value) (l : List Int), IO W3 B l u → IO (W3.setCell ⟨g, pss.length - 1, none⟩ v') B l u := fun u l hu => by
    have h5 := own_ne hu hrow (by decide)
    refine ⟨hu.1, ?_⟩
    rcases hu.2 with hz | ⟨g', cap, cur, rfl, a1, a2, rest⟩
    · exact .inl hz
    · refine .inr ⟨g', cap, cur, rfl, a1, (Below.heap_setCell _ _ _ _ ?_).trans a2, rest⟩
      intro e
      rcases h5 with h5 | h5
      · simp [Value.ownBlock] at h5
      · apply h5; rw [hvo]; simpa [Value.ownBlock] using e
  have hnew : IO W3 B (gl (Go.Proofs.Ytefjhhgfkdkfaaa.hyph h0 pss) (pss.length - 1)) v' := by
    show W3.ownsRow _ _ _ _ _ _
    rw [hz.2.2, List.length_append, zv_app]
    exact hown
  refine ⟨?_, by rw [List.length_set, h.len, hz.1], fun i hi => ?_, fun i j t hij hj ht => ?_⟩
  · rw [hz.1]
    subst hvo
    have hone : v'.oneCell' = true := by
      rcases hown.2 with ⟨rfl, _⟩ | ⟨_, _, _, rfl, _⟩ <;> rfl
    exact (hrow.stored _ v').1
  · rw [hz.1] at hi
    by_cases e : i = pss.length - 1
    · subst e
      rw [List.getD_eq_getElem?_getD, List.getElem?_set_self (by rw [h.len]; omega)]
      exact hne3 _ _ hnew
    · rw [hz.2.1 i (by omega), List.getD_eq_getElem?_getD, List.getElem?_set_ne (fun h => e h.symm), ← List.getD_eq_getElem?_getD]
      exact hne3 _ _ (hpc i (by omega))
  · rw [hz.1] at hj
    rw [List.getD_eq_getElem?_getD, List.getElem?_set_ne (by omega), ← List.getD_eq_getElem?_getD] at ht
    by_cases e : j = pss.length - 1
    · subst e
      rw [List.getD_eq_getElem?_getD, List.getElem?_set_self (by rw [h.len]; omega)]
      show v'.ownBlock ≠ _
      intro h2
      have h3 := (h.pc i (by omega)).lt t ht
      rcases hat with h4 | h4
      · have h5 := h.sep i (pss.length - 1) t hij (by omega) ht
        rw [← hv] at h5
        exact h5 (h4 ▸ h2)
      · rw [h2] at h4
        have := hb1.size
        injection h4 with h4
        omega
    · rw [List.getD_eq_getElem?_getD (l := hd.set _ _), List.getElem?_set_ne (fun h => e h.symm), ← List.getD_eq_getElem?_getD]
      exact h.sep i j t hij (by omega) ht
end Go.Proofs.Ytefjhhgfkdkfaaa
