/- Plain: places ascend; the pieces of a line; a wide line stays wide; demerits are few. -/
import Derived.Test.YtefjhhgfkdkfaaaPpl
namespace Go.Proofs.Ytefjhhgfkdkfaaa
set_option linter.unusedSimpArgs false
set_option linter.unusedVariables false
def WsOk (ns : Nat) (ws : List PWord) : Prop := ∀ i, i < ws.length → WOk ns (gw ws i)
def lexLt (a b : Nat × Nat) : Prop := a.1 < b.1 ∨ (a.1 = b.1 ∧ a.2 < b.2)
theorem br_lt {ns : Nat} {w : PWord} (h : WOk ns w) {i : Nat} : ∀ {j : Nat}, i < j → j < w.breaks.length → gz w.breaks i < gz w.breaks j := by
  intro j
  induction j with
  | zero => intro h1; omega
  | succ j ih =>
    intro h1 h2
    have h3 := h.up (j + 1) (by omega) h2
    rw [Nat.add_sub_cancel] at h3
    by_cases e : i = j
    · subst e; exact h3
    · have := ih (by omega) (by omega); omega
theorem gz_get {l : List Int} {j : Nat} (h : j < l.length) : gz l j = l[j] := by unfold gz; simp [List.getD_eq_getElem?_getD, h]
theorem gpl_get {l : List (Nat × Nat)} {j : Nat} (h : j < l.length) : gpl l j = l[j] := by unfold gpl; simp [List.getD_eq_getElem?_getD, h]
theorem plW_pair {ns : Nat} {w : PWord} (h : WOk ns w) (i : Nat) : (plW i w).Pairwise lexLt := by
  unfold plW
  rw [List.pairwise_cons]
  refine ⟨fun b hb => ?_, ?_⟩
  · obtain ⟨x, hx, rfl⟩ := List.mem_map.1 hb
    obtain ⟨j, hj, rfl⟩ := List.getElem_of_mem hx
    have := h.br j hj
    rw [gz_get hj] at this
    exact Or.inr ⟨rfl, by show 0 < (w.breaks[j]).toNat; omega⟩
  · rw [List.pairwise_map, List.pairwise_iff_getElem]
    intro a b ha hb hab
    have h1 := br_lt h hab hb
    have h2 := h.br a ha
    rw [gz_get ha, gz_get hb] at h1
    rw [gz_get ha] at h2
    exact Or.inr ⟨rfl, by show (w.breaks[a]).toNat < (w.breaks[b]).toNat; omega⟩
theorem plW_mem {ns : Nat} {w : PWord} (h : WOk ns w) {i : Nat} {p : Nat × Nat} (hp : p ∈ plW i w) : p.1 = i ∧ p.2 < w.sorts.length := by
  unfold plW at hp
  rcases List.mem_cons.1 hp with rfl | hp
  · exact ⟨rfl, h.some⟩
  · obtain ⟨x, hx, rfl⟩ := List.mem_map.1 hp
    obtain ⟨j, hj, rfl⟩ := List.getElem_of_mem hx
    have := h.br j hj
    rw [gz_get hj] at this
    exact ⟨rfl, by show (w.breaks[j]).toNat < _; omega⟩
theorem plTo_mem {ns : Nat} {ws : List PWord} (h : WsOk ns ws) : ∀ {k : Nat}, k ≤ ws.length → ∀ {p : Nat × Nat}, p ∈ plTo ws k → p.1 < k ∧ p.2 < (gw ws p.1).sorts.length := by
  intro k
  induction k with
  | zero => intro _ p hp; simp [plTo] at hp
  | succ k ih =>
    intro hk p hp
    rcases List.mem_append.1 hp with hp | hp
    · have := ih (by omega) hp; exact ⟨by omega, this.2⟩
    · have := plW_mem (h k (by omega)) hp
      exact ⟨by omega, by rw [this.1]; exact this.2⟩
theorem plTo_pair {ns : Nat} {ws : List PWord} (h : WsOk ns ws) : ∀ {k : Nat}, k ≤ ws.length → (plTo ws k).Pairwise lexLt := by
  intro k
  induction k with
  | zero => intro _; exact List.Pairwise.nil
  | succ k ih =>
    intro hk
    show (plTo ws k ++ plW k (gw ws k)).Pairwise lexLt
    rw [List.pairwise_append]
    exact ⟨ih (by omega), plW_pair (h k (by omega)) k, fun a ha b hb => Or.inl (by rw [(plW_mem (h k (by omega)) hb).1]; exact (plTo_mem h (by omega) ha).1)⟩
theorem places_len (ws : List PWord) : (places ws).length = (plTo ws ws.length).length + 1 := by simp [places]
theorem places_pos (ws : List PWord) : 0 < (places ws).length := by rw [places_len]; omega
theorem places_last (ws : List PWord) : gpl (places ws) ((places ws).length - 1) = (ws.length, 0) := by
  rw [places_len, Nat.add_sub_cancel]
  unfold gpl places
  simp [List.getD_eq_getElem?_getD]
theorem places_in {ns : Nat} {ws : List PWord} (h : WsOk ns ws) {j : Nat} (hj : j + 1 < (places ws).length) : (gpl (places ws) j).1 < ws.length ∧ (gpl (places ws) j).2 < (gw ws (gpl (places ws) j).1).sorts.length := by
  have h1 : j < (plTo ws ws.length).length := by rw [places_len] at hj; omega
  have h2 : gpl (places ws) j = (plTo ws ws.length)[j] := by
    rw [gpl_get (by omega)]
    exact List.getElem_append_left h1
  rw [h2]
  exact plTo_mem h (Nat.le_refl _) (List.getElem_mem h1)
theorem places_up {ns : Nat} {ws : List PWord} (h : WsOk ns ws) {i j : Nat} (hij : i < j) (hj : j < (places ws).length) : lexLt (gpl (places ws) i) (gpl (places ws) j) := by
  have hp : (places ws).Pairwise lexLt := by
    unfold places
    rw [List.pairwise_append]
    exact ⟨plTo_pair h (Nat.le_refl _), List.pairwise_singleton _ _, fun a ha b hb => by
      obtain rfl := List.mem_singleton.1 hb
      exact Or.inl (plTo_mem h (Nat.le_refl _) ha).1⟩
  rw [gpl_get (by omega), gpl_get hj]
  exact List.pairwise_iff_getElem.1 hp i j (by omega) hj hij
/-- A place is within the words, or behind them. -/
def PlIn (ws : List PWord) (p : Nat × Nat) : Prop := (p.1 < ws.length ∧ p.2 < (gw ws p.1).sorts.length) ∨ p = (ws.length, 0)
theorem places_ok {ns : Nat} {ws : List PWord} (h : WsOk ns ws) {j : Nat} (hj : j < (places ws).length) : PlIn ws (gpl (places ws) j) := by
  by_cases e : j + 1 < (places ws).length
  · exact Or.inl (places_in h e)
  · have : j = (places ws).length - 1 := by omega
    rw [this, places_last]
    exact Or.inr rfl
theorem rawP_agree {ws : List PWord} {a b b' : Nat × Nat} (h : b.1 ≤ b'.1) : ∀ {k : Nat}, a.1 + k ≤ b.1 → rawP ws a b k = rawP ws a b' k := by
  intro k
  induction k with
  | zero => intro _; rfl
  | succ k ih =>
    intro hk
    have e : cutE ws b (a.1 + k) = cutE ws b' (a.1 + k) := by unfold cutE; rw [if_neg (by omega), if_neg (by omega)]
    have e2 : cutW ws a b (a.1 + k) = cutW ws a b' (a.1 + k) := by unfold cutW; rw [e]
    simp only [rawP]
    rw [ih (by omega), e, e2]
theorem refP_raw {ws : List PWord} {h : Int} {a b : Nat × Nat} : ∀ {k : Nat}, a.1 + k ≤ b.1 → refP ws h a b k = rawP ws a b k := by
  intro k
  induction k with
  | zero => intro _; rfl
  | succ k ih =>
    intro hk
    simp only [rawP, refP]
    rw [ih (by omega), if_neg (show ¬ a.1 + k = b.1 by omega)]
theorem hyph_snoc (h : Int) (l : List (List Int)) (x : List Int) : hyph h (l ++ [x]) = l ++ [x ++ [h]] := by
  unfold hyph
  rw [List.dropLast_concat]
  simp [List.getLastD_eq_getLast?]
theorem lex_cut {a b : Nat × Nat} (hab : lexLt a b) : a.1 ≤ b.1 ∧ (0 < b.2 → cutB a b.1 < b.2) := by
  rcases hab with h | ⟨h1, h2⟩
  · exact ⟨by omega, fun h0 => by unfold cutB; rw [if_neg (by omega)]; exact h0⟩
  · exact ⟨by omega, fun h0 => by unfold cutB; rw [if_pos h1.symm]; exact h2⟩
theorem pieces_ref {ws : List PWord} {h : Int} {a b : Nat × Nat} (hab : lexLt a b) (hb : PlIn ws b) : piecesF ws h a b = refP ws h a b (cnt ws a b) := by
  obtain ⟨h1, h2⟩ := lex_cut hab
  unfold piecesF
  rcases hb with ⟨h3, h4⟩ | rfl
  · have hc : cnt ws a b = (b.1 - a.1) + 1 := by unfold cnt; omega
    have hi : a.1 + (b.1 - a.1) = b.1 := by omega
    have he : cutE ws b b.1 = b.2 := by unfold cutE; rw [if_pos rfl]
    rw [hc]
    simp only [rawP, refP]
    rw [hi, he, refP_raw (k := b.1 - a.1) (by omega), if_pos rfl]
    by_cases h0 : 0 < b.2
    · rw [if_pos h0, if_pos (h2 h0), hyph_snoc, if_pos (h2 h0)]
    · rw [if_neg h0, if_neg (by omega), if_neg (by omega)]
  · have hc : cnt ws a (ws.length, 0) = ws.length - a.1 := by unfold cnt; show min (ws.length + 1) ws.length - a.1 = _; omega
    rw [if_neg (by simp), hc, refP_raw (by have : (ws.length, 0).1 = ws.length := rfl; omega)]
theorem lenS_snoc (l : List (List Int)) (x : List Int) : lenS (l ++ [x]) = lenS l + x.length := by unfold lenS; simp
theorem rawP_mono (ws : List PWord) (a b : Nat × Nat) : ∀ {k k' : Nat}, k ≤ k' → (rawP ws a b k).length ≤ (rawP ws a b k').length ∧ lenS (rawP ws a b k) ≤ lenS (rawP ws a b k') := by
  intro k k' h
  induction h with
  | refl => exact ⟨Nat.le_refl _, Nat.le_refl _⟩
  | step h ih =>
    rename_i m
    simp only [rawP]
    split
    · rw [List.length_append, lenS_snoc]; omega
    · exact ih
theorem cutW_len {ws : List PWord} {a b : Nat × Nat} {i : Nat} (h : cutE ws b i ≤ (gw ws i).sorts.length) : (cutW ws a b i).length = cutE ws b i - cutB a i := by
  unfold cutW
  rw [List.length_drop, List.length_take]
  omega
theorem PlIn.cutE {ws : List PWord} {b : Nat × Nat} (h : PlIn ws b) (i : Nat) (hi : i < ws.length) : cutE ws b i ≤ (gw ws i).sorts.length := by
  unfold Ytefjhhgfkdkfaaa.cutE
  by_cases e : i = b.1
  · rw [if_pos e]
    rcases h with ⟨h1, h2⟩ | rfl
    · rw [e]; omega
    · have : i = ws.length := e; omega
  · rw [if_neg e]; exact Nat.le_refl _
theorem raw_grow {ws : List PWord} {a b b' : Nat × Nat} (hab : lexLt a b) (hb : PlIn ws b) (hb' : PlIn ws b') (hbb : lexLt b b' ∨ b = b') :
    (rawP ws a b (cnt ws a b)).length ≤ (rawP ws a b' (cnt ws a b')).length ∧ lenS (rawP ws a b (cnt ws a b)) ≤ lenS (rawP ws a b' (cnt ws a b')) := by
  rcases hbb with hbb | hbb
  rotate_left
  · subst hbb; exact ⟨Nat.le_refl _, Nat.le_refl _⟩
  obtain ⟨h1, h2⟩ := lex_cut hab
  obtain ⟨g1, g2⟩ := lex_cut hbb
  rcases hb with ⟨h3, h4⟩ | rfl
  · have hc : cnt ws a b = (b.1 - a.1) + 1 := by unfold cnt; omega
    have hc' : (b.1 - a.1) + 1 ≤ cnt ws a b' := by
      unfold cnt
      rcases hb' with ⟨h5, -⟩ | rfl
      · omega
      · show _ ≤ min (ws.length + 1) ws.length - a.1
        omega
    have hm := rawP_mono ws a b' hc'
    have hi : a.1 + (b.1 - a.1) = b.1 := by omega
    have he : cutE ws b b.1 = b.2 := by unfold cutE; rw [if_pos rfl]
    have he' : b.2 ≤ cutE ws b' b.1 := by
      unfold cutE
      by_cases e : b.1 = b'.1
      · rw [if_pos e]
        rcases hbb with h | ⟨-, h⟩ <;> omega
      · rw [if_neg e]; omega
    have hag := rawP_agree (ws := ws) (a := a) g1 (k := b.1 - a.1) (by omega)
    have hl := cutW_len (a := a) ((PlIn.cutE (Or.inl ⟨h3, h4⟩) b.1 h3))
    have hl' := cutW_len (a := a) ((hb'.cutE b.1 h3))
    rw [hc]
    refine ⟨Nat.le_trans ?_ hm.1, Nat.le_trans ?_ hm.2⟩
    · simp only [rawP]
      rw [hi, hag, he]
      split
      · rw [if_pos (by omega)]; simp
      · split
        · simp
        · exact Nat.le_refl _
    · simp only [rawP]
      rw [hi, hag, he]
      split
      · rw [if_pos (by omega), lenS_snoc, lenS_snoc, hl, hl', he]; omega
      · split
        · rw [lenS_snoc]; omega
        · exact Nat.le_refl _
  · exfalso
    rcases hb' with ⟨h5, -⟩ | rfl
    · have : (ws.length, 0).1 = ws.length := rfl
      omega
    · rcases hbb with h | ⟨-, h⟩
      · exact absurd h (Nat.lt_irrefl _)
      · exact absurd h (Nat.lt_irrefl _)
theorem raw_pos {ws : List PWord} {a b : Nat × Nat} (hab : lexLt a b) (ha : a.1 < ws.length ∧ a.2 < (gw ws a.1).sorts.length) : 0 < (rawP ws a b (cnt ws a b)).length := by
  obtain ⟨h1, h2⟩ := lex_cut hab
  have hc : 1 ≤ cnt ws a b := by unfold cnt; omega
  refine Nat.lt_of_lt_of_le ?_ (rawP_mono ws a b hc).1
  have e : rawP ws a b 1 = if cutB a (a.1 + 0) < cutE ws b (a.1 + 0) then rawP ws a b 0 ++ [cutW ws a b (a.1 + 0)] else rawP ws a b 0 := rfl
  rw [e, Nat.add_zero, if_pos]
  · simp
  · unfold cutB cutE
    rw [if_pos rfl]
    by_cases e : a.1 = b.1
    · rw [if_pos e]
      rcases hab with h | ⟨-, h⟩ <;> omega
    · rw [if_neg e]; exact ha.2
theorem hyph_len {h : Int} {l : List (List Int)} (hl : 0 < l.length) : (hyph h l).length = l.length ∧ lenS (hyph h l) = lenS l + 1 := by
  rcases List.eq_nil_or_concat l with rfl | ⟨l', x, rfl⟩
  · simp at hl
  · rw [List.concat_eq_append, hyph_snoc]
    refine ⟨by simp, ?_⟩
    rw [lenS_snoc, lenS_snoc, List.length_append]
    simp
    omega
theorem pieces_len {ws : List PWord} {h : Int} {a b : Nat × Nat} (hl : 0 < (rawP ws a b (cnt ws a b)).length) : (piecesF ws h a b).length = (rawP ws a b (cnt ws a b)).length ∧ lenS (rawP ws a b (cnt ws a b)) ≤ lenS (piecesF ws h a b) ∧ lenS (piecesF ws h a b) ≤ lenS (rawP ws a b (cnt ws a b)) + 1 := by
  unfold piecesF
  split
  · have := hyph_len (h := h) hl; omega
  · omega
/-- Behind a wide line there is none that is allowed. -/
theorem wide_all {ns : Nat} {f : Fnt} {r : Rls} {ws : List PWord} (h : WsOk ns ws) {i j j' : Nat} (hij : i < j) (hjj : j ≤ j') (hj : j' < (places ws).length) (hw : wideB (lineF f r ws i j) = true) : allowB r (lineF f r ws i j') = false := by
  have ha := places_in h (show i + 1 < (places ws).length by omega)
  have hab := places_up h hij (by omega)
  have hab' := places_up h (show i < j' by omega) hj
  have hg := raw_grow hab (places_ok h (by omega)) (places_ok h hj) (by
    by_cases e : j = j'
    · exact Or.inr (by rw [e])
    · exact Or.inl (places_up h (by omega) hj))
  have hp := pieces_len (h := r.hyphen) (raw_pos hab ha)
  have hp' := pieces_len (h := r.hyphen) (raw_pos hab' ha)
  unfold wideB lineF at hw
  have hw := of_decide_eq_true hw
  unfold allowB
  split
  · rfl
  · rw [if_pos]
    simp only [lineF]
    simp only at hw
    omega
structure RuOk (f : Fnt) (r : Rls) : Prop where
  me : 1 ≤ r.measure ∧ r.measure ≤ 1000000
  ind : 0 ≤ r.indent ∧ r.indent ≤ 20000
  le : 1 ≤ r.least
  mo : r.least ≤ r.most ∧ r.most ≤ 10000
  gap : 0 ≤ r.gap ∧ r.gap < f.sorts.length
  gsp : spB f r.gap = true
  gw : r.least ≤ wd f r.gap ∧ wd f r.gap ≤ r.most
  hy : 0 ≤ r.hyphen ∧ r.hyphen < f.sorts.length
  hsp : spB f r.hyphen = false
  si : 0 ≤ r.single ∧ r.single ≤ 100000
  db : 0 ≤ r.double ∧ r.double ≤ 100000
theorem ruErr_ok {f : Fnt} {r : Rls} (h : ruErr f r = 0) : (fnErr f).2 = 0 ∧ RuOk f r := by
  unfold ruErr at h
  by_cases h1 : (fnErr f).2 ≠ 0
  · rw [if_pos h1] at h; exact absurd h h1
  rw [if_neg h1] at h
  by_cases h2 : win r.measure 1 1000000 = false ∨ win r.indent 0 20000 = false ∨ win r.least 1 10000 = false ∨ win r.most 1 10000 = false
  · rw [if_pos h2] at h; omega
  rw [if_neg h2] at h
  simp only [not_or, Bool.not_eq_false] at h2
  obtain ⟨a1, a2, a3, a4⟩ := h2
  by_cases h3 : r.most < r.least
  · rw [if_pos h3] at h; omega
  rw [if_neg h3] at h
  by_cases h4 : win r.gap 0 (f.sorts.length - 1) = false
  · rw [if_pos h4] at h; omega
  rw [if_neg h4, Bool.not_eq_false] at *
  by_cases h5 : spB f r.gap = false
  · rw [if_pos h5] at h; omega
  rw [if_neg h5] at h
  by_cases h6 : win (wd f r.gap) r.least r.most = false
  · rw [if_pos h6] at h; omega
  rw [if_neg h6] at h
  by_cases h7 : win r.hyphen 0 (f.sorts.length - 1) = false
  · rw [if_pos h7] at h; omega
  rw [if_neg h7] at h
  by_cases h8 : spB f r.hyphen = true
  · rw [if_pos h8] at h; omega
  rw [if_neg h8] at h
  by_cases h9 : win r.single 0 100000 = false ∨ win r.double 0 100000 = false
  · rw [if_pos h9] at h; omega
  simp only [not_or, Bool.not_eq_false] at h5 h6 h7 h9
  simp only [Bool.not_eq_true] at h8
  have a1 := win_t.1 a1
  have a2 := win_t.1 a2
  have a3 := win_t.1 a3
  have a4 := win_t.1 a4
  have h4 := win_t.1 h4
  have h6 := win_t.1 h6
  have h7 := win_t.1 h7
  have a9 := win_t.1 h9.1
  have b9 := win_t.1 h9.2
  exact ⟨Decidable.not_not.1 h1, ⟨a1, a2, a3.1, by omega, by omega, h5, h6, by omega, h8, a9, b9⟩⟩
def DMX : Nat := 400200000
theorem absI_le {x a : Int} (h1 : -a ≤ x) (h2 : x ≤ a) : 0 ≤ absI x ∧ absI x ≤ a := by unfold absI; split <;> omega
theorem dem_bound {f : Fnt} {r : Rls} {l : Ln} {da db : Bool} (hr : RuOk f r) (ha : allowB r l = true) : 0 ≤ demF f r l da db ∧ demF f r l da db ≤ DMX := by
  have hw := hr.gw
  have hle := hr.le
  have hmo := hr.mo
  have hsi := hr.si
  have hdb := hr.db
  unfold allowB at ha
  split at ha
  · cases ha
  split at ha
  · cases ha
  rename_i h1 h2
  simp only [not_or, Nat.not_lt, Int.not_lt] at h2
  obtain ⟨h2, h3, h4⟩ := h2
  have h5 : 0 < l.g → l.g * r.least ≤ l.room := fun h0 => by
    split at ha
    · exact of_decide_eq_true ha
    · first | exact (win_t.1 ha).1 | (rw [if_pos h0] at ha; exact (win_t.1 ha).1) | omega
  unfold demF
  have hsd : 0 ≤ (if db = true then r.single + (if da = true then r.double else 0) else 0) ∧ (if db = true then r.single + (if da = true then r.double else 0) else 0) ≤ 200000 := by
    split
    · split <;> omega
    · omega
  generalize (if db = true then r.single + (if da = true then r.double else 0) else 0) = s at *
  split
  · rename_i h6
    have h7 := h6.1
    have h8 := h5 h7
    have h9 : 0 ≤ l.g * r.least := Int.mul_nonneg (by omega) (by omega)
    have hg20 : 20000 ≤ l.g * 20000 := by omega
    have hwg : 0 ≤ l.g * wd f r.gap ∧ l.g * wd f r.gap ≤ l.g * 10000 := ⟨Int.mul_nonneg (by omega) (by omega), Int.mul_le_mul_of_nonneg_left (by omega) (by omega)⟩
    obtain ⟨b1, b2⟩ := absI_le (x := l.room - l.g * wd f r.gap) (a := l.g * 20000) (by omega) (by omega)
    generalize absI (l.room - l.g * wd f r.gap) = o at *
    have b3 : 0 ≤ o / l.g := Int.ediv_nonneg b1 (by omega)
    have b4 : o / l.g ≤ 20000 := by
      have := Int.ediv_le_ediv (show 0 < l.g by omega) b2
      rwa [Int.mul_ediv_cancel_left _ (by omega)] at this
    generalize o / l.g = q at *
    have b5 : q * q ≤ 20000 * 20000 := Int.mul_le_mul b4 b4 b3 (by omega)
    have b6 : 0 ≤ q * q := Int.mul_nonneg b3 b3
    unfold DMX
    omega
  · unfold DMX
    omega
theorem tab_ok {f : Fnt} {r : Rls} {ws : List PWord} (hr : RuOk f r) (hn : (places ws).length ≤ 300) : TbOk (tab f r ws) (places ws).length DMX where
  up := fun {i j d} h => by
    unfold tab at h
    split at h
    · rename_i h1
      cases h
      have := dem_bound (da := divB ws i) (db := divB ws j) hr h1.2.2
      exact ⟨h1.1, h1.2.1, by omega⟩
    · cases h
  pos := places_pos ws
  ml := by
    have : (places ws).length * DMX ≤ 300 * DMX := Nat.mul_le_mul_right _ hn
    unfold DMX ML at *
    omega
theorem wsErr_ok {f : Fnt} {ws : List PWord} (h : (wsErr f ws).2 = 0) : (fnErr f).2 = 0 ∧ WsOk f.sorts.length ws ∧ (∀ i j, i < ws.length → j < (gw ws i).sorts.length → spB f (gz (gw ws i).sorts j) = false) ∧ ws.length ≤ 200 ∧ (places ws).length ≤ 300 := by
  unfold wsErr at h
  by_cases h1 : (fnErr f).2 ≠ 0
  · rw [if_pos h1] at h; exact absurd h h1
  rw [if_neg h1] at h
  by_cases h2 : 200 < ws.length
  · rw [if_pos h2] at h; exact absurd h (by decide)
  rw [if_neg h2] at h
  by_cases h3 : (fstE (wErr f ws) ws.length).2 ≠ 0
  · rw [if_pos h3] at h; exact absurd h h3
  rw [if_neg h3] at h
  by_cases h4 : 300 < (places ws).length
  · rw [if_pos h4] at h; exact absurd h (by decide)
  have h5 := fstE_zero (Decidable.not_not.1 h3)
  exact ⟨Decidable.not_not.1 h1, fun i hi => (wErr_ok (h5 i hi)).1, fun i j hi hj => (wErr_ok (h5 i hi)).2 j hj, by omega, by omega⟩
end Go.Proofs.Ytefjhhgfkdkfaaa
