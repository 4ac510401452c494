/- Plain: spaces spread into gaps. -/
import Derived.Test.YtefjhhgfkdkfaaaWid
import Derived.Test.YtefjhhgfkdkfaaaPst
namespace Go.Proofs.Ytefjhhgfkdkfaaa
set_option linter.unusedSimpArgs false
set_option linter.unusedVariables false
/-- Of the first k gaps the first one of the least width that has room, or -1. -/
def bst (f : Fnt) (out : List (List Int)) : Nat → Int
  | 0 => -1
  | k + 1 => if (gl out k).length < 3 ∧ (bst f out k < 0 ∨ widL f (gl out k) < widL f (gl out (bst f out k).toNat)) then (k : Int) else bst f out k
/-- The gaps when the first k spaces are spread. -/
def sprK (f : Fnt) (ss : List Int) (gaps : Nat) : Nat → List (List Int)
  | 0 => List.replicate gaps []
  | k + 1 => (sprK f ss gaps k).set (bst f (sprK f ss gaps k) gaps).toNat (gl (sprK f ss gaps k) (bst f (sprK f ss gaps k) gaps).toNat ++ [gz ss k])
def sprR (f : Fnt) (cs : List Int) (gaps : Nat) : List (List Int) := sprK f (widR f cs) gaps (widR f cs).length
theorem bst_range (f : Fnt) (out : List (List Int)) : ∀ k, bst f out k = -1 ∨ (0 ≤ bst f out k ∧ bst f out k < (k : Int) ∧ (gl out (bst f out k).toNat).length < 3)
  | 0 => .inl rfl
  | k + 1 => by
    unfold bst
    split
    · rename_i h
      right
      refine ⟨by omega, by omega, ?_⟩
      rw [show ((k : Nat) : Int).toNat = k from rfl]
      exact h.1
    · rcases bst_range f out k with h | ⟨h1, h2, h3⟩
      · exact .inl h
      · exact .inr ⟨h1, by omega, h3⟩
theorem bst_none (f : Fnt) (out : List (List Int)) : ∀ k, bst f out k < 0 → ∀ j, j < k → 3 ≤ (gl out j).length
  | 0, _, j, hj => absurd hj (Nat.not_lt_zero _)
  | k + 1, h, j, hj => by
    unfold bst at h
    split at h
    · omega
    · rename_i hn
      by_cases e : j = k
      · subst e
        rcases Nat.lt_or_ge (gl out j).length 3 with h3 | h3
        · exact absurd ⟨h3, .inl h⟩ hn
        · exact h3
      · exact bst_none f out k h j (by omega)
/-- No gap with room is less wide. -/
theorem bst_least (f : Fnt) (out : List (List Int)) : ∀ k, ∀ j, j < k → (gl out j).length < 3 → 0 ≤ bst f out k ∧ widL f (gl out (bst f out k).toNat) ≤ widL f (gl out j)
  | 0, j, hj, _ => absurd hj (Nat.not_lt_zero _)
  | k + 1, j, hj, h3 => by
    unfold bst
    split
    · rename_i h
      refine ⟨by omega, ?_⟩
      rw [show ((k : Nat) : Int).toNat = k from rfl]
      by_cases e : j = k
      · subst e; exact Int.le_refl _
      · have ih := bst_least f out k j (by omega) h3
        rcases h.2 with h2 | h2
        · omega
        · omega
    · rename_i h
      by_cases e : j = k
      · subst e
        rcases Int.lt_or_le (bst f out j) 0 with h4 | h4
        · exact absurd ⟨h3, .inl h4⟩ h
        · refine ⟨h4, ?_⟩
          rcases Int.lt_or_le (widL f (gl out j)) (widL f (gl out (bst f out j).toNat)) with h5 | h5
          · exact absurd ⟨h3, .inr h5⟩ h
          · exact h5
      · exact bst_least f out k j (by omega) h3
theorem gl_cons0 (l : List Int) (ls : List (List Int)) : gl (l :: ls) 0 = l := rfl
theorem gl_consS (l : List Int) (ls : List (List Int)) (i : Nat) : gl (l :: ls) (i + 1) = gl ls i := rfl
theorem full_flat : ∀ (out : List (List Int)), (∀ j, j < out.length → 3 ≤ (gl out j).length) → 3 * out.length ≤ out.flatten.length
  | [], _ => by simp
  | l :: ls, h => by
    have h0 := h 0 (by simp)
    have ih := full_flat ls (fun j hj => h (j + 1) (by simp; omega))
    rw [gl_cons0] at h0
    rw [List.flatten_cons, List.length_append, List.length_cons]
    omega
theorem set_flat : ∀ (out : List (List Int)) (b : Nat) (x : Int), b < out.length → (out.set b (gl out b ++ [x])).flatten.Perm (out.flatten ++ [x])
  | [], b, x, h => absurd h (Nat.not_lt_zero _)
  | l :: ls, 0, x, _ => by
    rw [List.set_cons_zero, gl_cons0, List.flatten_cons, List.flatten_cons, List.append_assoc, List.append_assoc]
    exact List.Perm.append_left _ List.perm_append_comm
  | l :: ls, b + 1, x, h => by
    rw [List.set_cons_succ, gl_consS, List.flatten_cons, List.flatten_cons, List.append_assoc]
    exact List.Perm.append_left _ (set_flat ls b x (by simpa using h))
theorem gl_set {out : List (List Int)} {b j : Nat} {l : List Int} (hb : b < out.length) : gl (out.set b l) j = if j = b then l else gl out j := by
  unfold gl
  rw [List.getD_eq_getElem?_getD, List.getD_eq_getElem?_getD, List.getElem?_set]
  by_cases e : b = j
  · subst e; simp [hb]
  · rw [if_neg e, if_neg (fun h => e h.symm)]
theorem gl_rep (n j : Nat) : gl (List.replicate n ([] : List Int)) j = [] := by
  unfold gl
  rw [List.getD_eq_getElem?_getD, List.getElem?_replicate]
  split <;> rfl
theorem flat_rep : ∀ n, (List.replicate n ([] : List Int)).flatten = []
  | 0 => rfl
  | n + 1 => by rw [List.replicate_succ, List.flatten_cons, flat_rep n]; rfl
theorem take_snoc {ss : List Int} {k : Nat} (h : k < ss.length) : ss.take (k + 1) = ss.take k ++ [gz ss k] := by
  rw [List.take_succ_eq_append_getElem h]
  simp [gz, List.getD_eq_getElem?_getD, h]
/-- While spaces are spread. -/
structure SprOk (ss : List Int) (gaps k : Nat) (out : List (List Int)) : Prop where
  len : out.length = gaps
  perm : out.flatten.Perm (ss.take k)
  most : ∀ j, j < gaps → (gl out j).length ≤ 3
theorem spr_ok (f : Fnt) (ss : List Int) (gaps : Nat) (h : ss.length ≤ 3 * gaps) : ∀ k, k ≤ ss.length → SprOk ss gaps k (sprK f ss gaps k)
  | 0, _ => ⟨List.length_replicate, by unfold sprK; rw [flat_rep]; exact List.Perm.refl _, fun j _ => by unfold sprK; rw [gl_rep]; simp⟩
  | k + 1, hk => by
    have ih := spr_ok f ss gaps h k (by omega)
    have hb : 0 ≤ bst f (sprK f ss gaps k) gaps ∧ bst f (sprK f ss gaps k) gaps < (gaps : Int) ∧ (gl (sprK f ss gaps k) (bst f (sprK f ss gaps k) gaps).toNat).length < 3 := by
      rcases bst_range f (sprK f ss gaps k) gaps with h1 | h1
      · exfalso
        have h2 := bst_none f (sprK f ss gaps k) gaps (by omega)
        have h3 := full_flat (sprK f ss gaps k) (fun j hj => h2 j (by rw [ih.len] at hj; exact hj))
        have h4 := ih.perm.length_eq
        rw [List.length_take] at h4
        rw [ih.len] at h3
        omega
      · exact h1
    have hbl : (bst f (sprK f ss gaps k) gaps).toNat < (sprK f ss gaps k).length := by rw [ih.len]; omega
    unfold sprK
    refine ⟨by rw [List.length_set]; exact ih.len, ?_, fun j hj => ?_⟩
    · rw [take_snoc (by omega)]
      exact (set_flat _ _ _ hbl).trans (List.Perm.append_right _ ih.perm)
    · rw [gl_set hbl]
      split
      · rw [List.length_append]; simp; omega
      · exact ih.most j hj
theorem spr_best (f : Fnt) (ss : List Int) (gaps : Nat) (h : ss.length ≤ 3 * gaps) (k : Nat) (hk : k < ss.length) : 0 ≤ bst f (sprK f ss gaps k) gaps ∧ bst f (sprK f ss gaps k) gaps < (gaps : Int) := by
  have ih := spr_ok f ss gaps h k (by omega)
  rcases bst_range f (sprK f ss gaps k) gaps with h1 | h1
  · exfalso
    have h2 := bst_none f (sprK f ss gaps k) gaps (by omega)
    have h3 := full_flat (sprK f ss gaps k) (fun j hj => h2 j (by rw [ih.len] at hj; exact hj))
    have h4 := ih.perm.length_eq
    rw [List.length_take] at h4
    rw [ih.len] at h3
    omega
  · exact ⟨h1.1, h1.2.1⟩
/-- How many gaps are empty. -/
def empN (out : List (List Int)) : Nat := out.countP (fun l => l.isEmpty)
theorem empN_set : ∀ (out : List (List Int)) (b : Nat) (x : Int), b < out.length → empN (out.set b (gl out b ++ [x])) = if gl out b = [] then empN out - 1 else empN out
  | [], b, x, h => absurd h (Nat.not_lt_zero _)
  | l :: ls, 0, x, _ => by
    rw [List.set_cons_zero, gl_cons0]
    unfold empN
    rw [List.countP_cons, List.countP_cons]
    cases l with
    | nil => simp
    | cons a l => simp
  | l :: ls, b + 1, x, h => by
    rw [List.set_cons_succ, gl_consS]
    have ih := empN_set ls b x (by simpa using h)
    unfold empN at ih ⊢
    rw [List.countP_cons, List.countP_cons, ih]
    split
    · rename_i hb
      have : 0 < List.countP (fun l => l.isEmpty) ls := by
        rw [List.countP_pos_iff]
        have hbl : b < ls.length := by simpa using h
        refine ⟨ls[b], List.getElem_mem hbl, ?_⟩
        have : gl ls b = ls[b] := by unfold gl; rw [List.getD_eq_getElem?_getD, List.getElem?_eq_getElem hbl]; rfl
        rw [← this, hb]
        rfl
      omega
    · rfl
theorem empN_zero {out : List (List Int)} (h : empN out = 0) : ∀ j, j < out.length → 1 ≤ (gl out j).length := by
  intro j hj
  unfold empN at h
  rw [List.countP_eq_zero] at h
  have h1 := h _ (List.getElem_mem hj)
  have h2 : gl out j = out[j] := by unfold gl; rw [List.getD_eq_getElem?_getD, List.getElem?_eq_getElem hj]; rfl
  rw [h2]
  cases hq : out[j] with
  | nil => rw [hq] at h1; simp at h1
  | cons a l => simp
theorem empN_pos : ∀ {out : List (List Int)}, 0 < empN out → ∃ j, j < out.length ∧ gl out j = [] := by
  intro out h
  unfold empN at h
  rw [List.countP_pos_iff] at h
  obtain ⟨l, hl, he⟩ := h
  obtain ⟨j, hj, e⟩ := List.getElem_of_mem hl
  refine ⟨j, hj, ?_⟩
  unfold gl
  rw [List.getD_eq_getElem?_getD, List.getElem?_eq_getElem hj, Option.getD_some, e]
  cases l with
  | nil => rfl
  | cons a l => simp at he
theorem widL_pos {f : Fnt} : ∀ {l : List Int}, (∀ x, x ∈ l → 1 ≤ wd f x) → 0 ≤ widL f l ∧ (l ≠ [] → 1 ≤ widL f l)
  | [], _ => ⟨by simp [widL], fun h => absurd rfl h⟩
  | a :: l, h => by
    have h1 := h a (by simp)
    have ih := (widL_pos (l := l) (fun x hx => h x (by simp [hx]))).1
    have e : widL f (a :: l) = wd f a + widL f l := by simp [widL]
    exact ⟨by omega, fun _ => by omega⟩
/-- No gap is left empty, where there are spaces enough. -/
theorem spr_emp (f : Fnt) (ss : List Int) (gaps : Nat) (h : ss.length ≤ 3 * gaps) (hw : ∀ x, x ∈ ss → 1 ≤ wd f x) : ∀ k, k ≤ ss.length → empN (sprK f ss gaps k) = gaps - k
  | 0, _ => by
    unfold sprK empN
    rw [List.countP_replicate]
    simp
  | k + 1, hk => by
    have ih := spr_emp f ss gaps h hw k (by omega)
    have ok := spr_ok f ss gaps h k (by omega)
    have hb := spr_best f ss gaps h k (by omega)
    have hbl : (bst f (sprK f ss gaps k) gaps).toNat < (sprK f ss gaps k).length := by rw [ok.len]; omega
    unfold sprK
    rw [empN_set _ _ _ hbl]
    have hin : ∀ j, ∀ x, x ∈ gl (sprK f ss gaps k) j → 1 ≤ wd f x := by
      intro j x hx
      by_cases hj : j < (sprK f ss gaps k).length
      · have h1 : x ∈ (sprK f ss gaps k).flatten := by
          rw [List.mem_flatten]
          refine ⟨(sprK f ss gaps k)[j], List.getElem_mem hj, ?_⟩
          have : gl (sprK f ss gaps k) j = (sprK f ss gaps k)[j] := by unfold gl; rw [List.getD_eq_getElem?_getD, List.getElem?_eq_getElem hj]; rfl
          rw [← this]; exact hx
        exact hw x (List.mem_of_mem_take (ok.perm.mem_iff.1 h1))
      · have : gl (sprK f ss gaps k) j = [] := by unfold gl; rw [List.getD_eq_getElem?_getD, List.getElem?_eq_none (by omega)]; rfl
        rw [this] at hx; cases hx
    split
    · omega
    · rename_i hne
      rcases Nat.eq_zero_or_pos (empN (sprK f ss gaps k)) with h0 | h0
      · omega
      · exfalso
        obtain ⟨j, hj, he⟩ := empN_pos h0
        have h1 := (bst_least f (sprK f ss gaps k) gaps j (by rw [← ok.len]; exact hj) (by rw [he]; simp)).2
        have h2 := (widL_pos (hin (bst f (sprK f ss gaps k) gaps).toNat)).2 hne
        rw [he] at h1
        have : widL f [] = 0 := rfl
        omega
end Go.Proofs.Ytefjhhgfkdkfaaa
/- A row of gaps, each a row of its own. -/
namespace Go.Proofs.Ytefjhhgfkdkfaaa
set_option linter.unusedSimpArgs false
set_option linter.unusedVariables false
open Go.RowKit
structure GSt (W : World) (g cap B : Nat) (pss : List (List Int)) (hd : List Value) : Prop where
  row : W.ownsRow g 30 1 (.slice (some ⟨g, 0, none⟩) pss.length cap) pss.length hd
  len : hd.length = pss.length
  pc : ∀ i, i < pss.length → IO W B (gl pss i) (hd.getD i undef)
  sep : ∀ i j t, i ≠ j → i < pss.length → j < pss.length → (hd.getD i undef).ownBlock = some t → (hd.getD j undef).ownBlock ≠ some t
  lt : g < B
theorem GSt.below {W W' : World} {g cap B : Nat} {pss : List (List Int)} {hd : List Value} (h : GSt W g cap B pss hd) (hb : Below W.heap.size W W') : GSt W' g cap B pss hd :=
  ⟨h.row.kept (grown_of_below hb none) (Classical.em _), h.len, fun i hi => (h.pc i hi).below hb, h.sep, h.lt⟩
theorem GSt.lv {W : World} {g cap B : Nat} {pss : List (List Int)} {hd : List Value} (h : GSt W g cap B pss hd) : LV W pss (.slice (some ⟨g, 0, none⟩) pss.length cap) :=
  ⟨fun j => hd.getD j undef, rv_of_own h.row (by rw [h.len]; omega), fun i hi => (h.pc i hi).iv⟩
/-- How a gap lies. -/
theorem GSt.at {W : World} {g cap B i : Nat} {pss : List (List Int)} {hd : List Value} (h : GSt W g cap B pss hd) (hi : i < pss.length) :
    ∃ A c, hd.getD i undef = .slice A (gl pss i).length c ∧ W.cell? ⟨g, i, none⟩ = some (.slice A (gl pss i).length c) ∧ W.frozen? ⟨g, i, none⟩ = false ∧ IO W B (gl pss i) (.slice A (gl pss i).length c) := by
  have h1 := h.pc i hi
  obtain ⟨A, c, e⟩ := h1.shape
  refine ⟨A, c, e, ?_, h.row.frozenAt _, by rw [← e]; exact h1⟩
  rw [h.row.cellAt _ (by omega), ← e, List.getD_eq_getElem?_getD, List.getElem?_eq_getElem (by rw [h.len]; exact hi)]
  rfl
theorem GSt.app {W W3 : World} {g cap B i : Nat} {pss : List (List Int)} {hd : List Value} {v v' : Value} {x : Int} (h : GSt W g cap B pss hd) (hi : i < pss.length) (hB : B ≤ W.heap.size) (hv : v = hd.getD i undef)
    (hown : W3.ownsRow B 3 1 v' ((gl pss i).length + 1) (zv (gl pss i) ++ [.int .i64 x])) (hg : W.grownBy W3 v.ownBlock) (hat : v'.ownBlock = v.ownBlock ∨ v'.ownBlock = some W.heap.size) :
    GSt (W3.setCell ⟨g, i, none⟩ v') g cap B (pss.set i (gl pss i ++ [x])) (hd.set i v') := by
  have hvb : ∀ t, v.ownBlock = some t → B ≤ t ∧ t < W.heap.size := fun t ht => by
    have := h.pc i hi
    rw [← hv] at this
    exact this.lt t ht
  have hlt := h.lt
  have hrow : W3.ownsRow g 30 1 (.slice (some ⟨g, 0, none⟩) pss.length cap) pss.length hd := h.row.kept hg (by
    have := own_ne h.row (h.pc i hi) (by decide)
    rwa [← hv] at this)
  have hpc : ∀ j, j ≠ i → j < pss.length → IO W3 B (gl pss j) (hd.getD j undef) := fun j hj hjl => (h.pc j hjl).kept hg (by
    rcases hq : (hd.getD j undef).ownBlock with _ | t
    · left; rfl
    · right
      intro e
      have h3 := h.sep j i t hj hjl hi hq
      rw [← hv] at h3
      exact h3 e.symm)
  have hne3 : ∀ (u : Value) (l : List Int), IO W3 B l u → IO (W3.setCell ⟨g, i, none⟩ v') B l u := fun u l hu => ownsRow_setCell_below hu (by show g < B; omega) _
  have hnew : IO W3 B (gl pss i ++ [x]) v' := by
    show W3.ownsRow _ _ _ _ _ _
    rw [List.length_append, zv_app]
    exact hown
  have hone : v'.oneCell' = true := by
    rcases hown.2 with ⟨rfl, _⟩ | ⟨_, _, _, rfl, _⟩ <;> rfl
  refine ⟨?_, by rw [List.length_set, List.length_set]; exact h.len, fun j hj => ?_, fun a b t hab ha hb ht => ?_, hlt⟩
  · rw [List.length_set]
    exact (hrow.stored _ v').1
  · rw [List.length_set] at hj
    rw [gl_set hi]
    by_cases e : j = i
    · subst e
      rw [if_pos rfl, List.getD_eq_getElem?_getD, List.getElem?_set_self (by rw [h.len]; omega)]
      exact hne3 _ _ hnew
    · rw [if_neg e, List.getD_eq_getElem?_getD, List.getElem?_set_ne (fun h => e h.symm), ← List.getD_eq_getElem?_getD]
      exact hne3 _ _ (hpc j e hj)
  · rw [List.length_set] at ha hb
    have hlo : ∀ j, j ≠ i → j < pss.length → (hd.getD j undef).ownBlock = some t → v'.ownBlock ≠ some t := fun j hji hjl hjt e => by
      rcases hat with h4 | h4
      · rw [h4, hv] at e
        exact h.sep j i t hji hjl hi hjt e
      · rw [e] at h4
        injection h4 with h4
        have := ((h.pc j hjl).lt t hjt).2
        omega
    rw [List.getD_eq_getElem?_getD] at ht ⊢
    by_cases e1 : a = i
    · subst e1
      rw [List.getElem?_set_self (by rw [h.len]; omega)] at ht
      rw [List.getElem?_set_ne (fun h => hab h), ← List.getD_eq_getElem?_getD]
      exact fun h2 => hlo b (fun h => hab h.symm) hb h2 ht
    · rw [List.getElem?_set_ne (fun h => e1 h.symm), ← List.getD_eq_getElem?_getD] at ht
      by_cases e2 : b = i
      · subst e2
        rw [List.getElem?_set_self (by rw [h.len]; omega)]
        exact hlo a e1 ha ht
      · rw [List.getElem?_set_ne (fun h => e2 h.symm), ← List.getD_eq_getElem?_getD]
        exact h.sep a b t hab ha hb ht
theorem made_one49 (n : Nat) : (madeCells (Value.slice none 0 0).cells (n * 1)).toList = List.replicate n (.slice none 0 0) := by
  apply List.ext_getElem
  · simp [size_madeCells]
  · intro i h1 h2
    simp [madeCells, Value.cells, Nat.mod_one]
/-- Gaps, made: all are empty. -/
theorem make49 (n : Nat) (hn : n ≤ 1000) (W : World) : ∃ W', (Instr.makeSlice 49 (.int .i64 (n : Int)) (.int .i64 (n : Int))).run Try.prog W = .ok (.slice (some ⟨W.heap.size, 0, none⟩) n n) W' ∧
    (∀ W2 : World, Below W'.heap.size W' W2 → GSt W2 W.heap.size n W2.heap.size (List.replicate n []) (List.replicate n (.slice none 0 0))) ∧ Below W.heap.size W W' ∧ W.heap.size < W'.heap.size := by
  obtain ⟨i3, hi3, hz3, hy3, hx3⟩ := info_parts info30
  obtain ⟨W', h1, h2, h3⟩ := run_makeSlice_full (P := Try.prog) (w := W) W.heap.size 49 30 i3 _ 1 Try.underlying49 hi3 hz3 hy3 .i64 .i64 n (by omega) (by rw [hx3]; omega) (by simp only [maxLen]; omega) (Nat.le_refl _)
  have hlt := (World.ownsRow.lt h2 W.heap.size (ownBlock_some ..)).2
  refine ⟨W', h1, fun W2 hb => ?_, ⟨h3.os, h3.tape, h3.output, h3.size, fun k hk => h3.block k hk (by simp)⟩, hlt⟩
  rw [made_one49] at h2
  have h5 := hb.size
  refine ⟨?_, by simp, fun i hi => ?_, fun i j t hij hi hj ht => ?_, by omega⟩
  · rw [List.length_replicate]
    exact World.ownsRow.kept (row := none) h2 (grown_of_below hb none) (Classical.em _)
  · rw [gl_rep, List.getD_eq_getElem?_getD, List.getElem?_replicate, if_pos (by simpa using hi)]
    exact World.ownsRow_nil _ _ _ _
  · rw [List.getD_eq_getElem?_getD, List.getElem?_replicate, if_pos (by simpa using hi)] at ht
    cases ht
end Go.Proofs.Ytefjhhgfkdkfaaa
