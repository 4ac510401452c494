/- ParagraphDearer, plain: with greater demerits of hyphens; with no divisions. -/
import Derived.Test.YtbnganlfelgogaaGreatPst
namespace Go.Proofs.YtbnganlfelgogaaGreat
set_option linter.unusedSimpArgs false
set_option linter.unusedVariables false
open Go.RowKit
theorem Path.nil_inv {t : Tb} {i j c : Nat} (p : Path t i [] j c) : i = j ∧ c = 0 := by
  obtain ⟨h1, h2⟩ := p
  unfold cost at h1
  injection h1 with h1
  exact ⟨h2, h1.symm⟩
theorem Path.dearer {t t' : Tb} {E : Nat} (h : ∀ i j d, t i j = some d → ∃ d', t' i j = some d' ∧ d' ≤ d + E) : ∀ {b : List Nat} {i j c : Nat}, Path t i b j c → ∃ c', Path t' i b j c' ∧ c' ≤ c + b.length * E
  | [], i, j, c, p => by
    obtain ⟨rfl, rfl⟩ := p.nil_inv
    exact ⟨0, Path.nil _ _, by omega⟩
  | k :: b, i, j, c, p => by
    obtain ⟨d, e, h1, h2, rfl⟩ := p.inv
    obtain ⟨d', h3, h4⟩ := h _ _ _ h1
    obtain ⟨e', h5, h6⟩ := Path.dearer h h2
    refine ⟨d' + e', Path.cons h3 h5, ?_⟩
    rw [List.length_cons, Nat.add_mul]
    omega
theorem Path.cheaper {t t' : Tb} (φ : Nat → Nat) (h : ∀ i j d, t i j = some d → ∃ d', t' (φ i) (φ j) = some d' ∧ d' ≤ d) : ∀ {b : List Nat} {i j c : Nat}, Path t i b j c → ∃ c', Path t' (φ i) (b.map φ) (φ j) c' ∧ c' ≤ c
  | [], i, j, c, p => by
    obtain ⟨rfl, rfl⟩ := p.nil_inv
    exact ⟨0, Path.nil _ _, Nat.le_refl _⟩
  | k :: b, i, j, c, p => by
    obtain ⟨d, e, h1, h2, rfl⟩ := p.inv
    obtain ⟨d', h3, h4⟩ := h _ _ _ h1
    obtain ⟨e', h5, h6⟩ := Path.cheaper φ h h2
    exact ⟨d' + e', Path.cons h3 h5, by omega⟩
/-- Rules with greater demerits of hyphens. -/
def dear (r : Rls) (s d : Int) : Rls := { r with single := r.single + s, double := r.double + d }
theorem dear_err {f : Fnt} {r : Rls} {s d : Int} (h : ruErr f r = 0) (hs : win (r.single + s) 0 100000 = true) (hd : win (r.double + d) 0 100000 = true) : ruErr f (dear r s d) = 0 := by
  unfold ruErr at h ⊢
  split at h
  · omega
  rename_i h1
  rw [if_neg h1]
  split at h
  · omega
  rename_i h2
  rw [if_neg (by exact h2)]
  split at h
  · omega
  rename_i h3
  rw [if_neg (by exact h3)]
  split at h
  · omega
  rename_i h4
  rw [if_neg (by exact h4)]
  split at h
  · omega
  rename_i h5
  rw [if_neg (by exact h5)]
  split at h
  · omega
  rename_i h6
  rw [if_neg (by exact h6)]
  split at h
  · omega
  rename_i h7
  rw [if_neg (by exact h7)]
  split at h
  · omega
  rename_i h8
  rw [if_neg (by exact h8)]
  rw [if_neg]
  intro h9
  rcases h9 with h9 | h9
  · rw [show (dear r s d).single = r.single + s from rfl, hs] at h9; cases h9
  · rw [show (dear r s d).double = r.double + d from rfl, hd] at h9; cases h9
theorem dear_pa {f : Fnt} {r : Rls} {ws : List PWord} {s d : Int} (h : paErr f r ws = 0) (hs : win (r.single + s) 0 100000 = true) (hd : win (r.double + d) 0 100000 = true) : paErr f (dear r s d) ws = 0 := by
  unfold paErr at h ⊢
  split at h
  · omega
  rename_i h1
  rw [dear_err (Classical.not_not.1 h1) hs hd, if_neg (by simp)]
  exact h
theorem dear_dem (f : Fnt) (r : Rls) (l : Ln) (da db : Bool) (s d : Int) : demF f (dear r s d) l da db = demF f r l da db + if db = true then s + (if da = true then d else 0) else 0 := by
  unfold demF
  rw [show (dear r s d).gap = r.gap from rfl, show (dear r s d).single = r.single + s from rfl, show (dear r s d).double = r.double + d from rfl]
  cases da <;> cases db <;> simp <;> omega
theorem dear_to {f : Fnt} {r : Rls} {ws : List PWord} {s d : Int} (hr : RuOk f r) (hs : 0 ≤ s) (hd : 0 ≤ d) {i j x : Nat} (h : tab f r ws i j = some x) : ∃ y, tab f (dear r s d) ws i j = some y ∧ x ≤ y ∧ y ≤ x + (s + d).toNat := by
  unfold tab at h ⊢
  split at h
  · rename_i hc
    injection h with h
    subst h
    have hb := dem_bound hr hc.2.2 (da := divB ws i) (db := divB ws j)
    rw [if_pos (by exact hc)]
    refine ⟨_, rfl, ?_⟩
    rw [show lineF f (dear r s d) ws i j = lineF f r ws i j from rfl, dear_dem]
    split
    · split <;> omega
    · omega
  · cases h
theorem dear_from {f : Fnt} {r : Rls} {ws : List PWord} {s d : Int} (hr : RuOk f r) (hs : 0 ≤ s) (hd : 0 ≤ d) {i j y : Nat} (h : tab f (dear r s d) ws i j = some y) : ∃ x, tab f r ws i j = some x ∧ x ≤ y := by
  cases hq : tab f r ws i j with
  | none =>
    unfold tab at h hq
    split at h
    · rename_i hc
      rw [if_pos (by exact hc)] at hq
      cases hq
    · cases h
  | some x =>
    obtain ⟨y', h1, h2, -⟩ := dear_to hr hs hd hq
    rw [h] at h1
    injection h1 with h1
    exact ⟨x, rfl, by omega⟩
/-- With greater demerits the least demerits are not less, and not more by more than for each line. -/
theorem dear_ok {f : Fnt} {r : Rls} {ws : List PWord} {s d : Int} (h : paErr f r ws = 0) (h' : paErr f (dear r s d) ws = 0) (hs : 0 ≤ s) (hd : 0 ≤ d) :
    (dist (tab f r ws) ((places ws).length - 1) < ML ↔ dist (tab f (dear r s d) ws) ((places ws).length - 1) < ML) ∧
    (dist (tab f r ws) ((places ws).length - 1) < ML → dist (tab f r ws) ((places ws).length - 1) ≤ dist (tab f (dear r s d) ws) ((places ws).length - 1)) ∧
    ∀ b, Path (tab f r ws) 0 b ((places ws).length - 1) (dist (tab f r ws) ((places ws).length - 1)) → b.length ≤ 300 ∧ dist (tab f (dear r s d) ws) ((places ws).length - 1) ≤ dist (tab f r ws) ((places ws).length - 1) + b.length * (s + d).toNat := by
  have ok := paErr_ok h
  have ok' := paErr_ok h'
  have t1 := tab_ok ok.ru ok.m (ws := ws)
  have t2 := tab_ok ok'.ru ok'.m (ws := ws)
  have hp := places_pos ws
  have hto : ∀ i j x, tab f r ws i j = some x → ∃ y, tab f (dear r s d) ws i j = some y ∧ y ≤ x + (s + d).toNat := fun i j x hx => by
    obtain ⟨y, a, b, c⟩ := dear_to ok.ru hs hd hx
    exact ⟨y, a, c⟩
  have hfr : ∀ i j x, tab f (dear r s d) ws i j = some x → ∃ y, tab f r ws (id i) (id j) = some y ∧ y ≤ x := fun i j x hx => dear_from ok.ru hs hd hx
  have hup : dist (tab f (dear r s d) ws) ((places ws).length - 1) < ML → dist (tab f r ws) ((places ws).length - 1) ≤ dist (tab f (dear r s d) ws) ((places ws).length - 1) := fun hq => by
    obtain ⟨b, hb⟩ := dist_path t2 _ hq
    obtain ⟨c, hc, hl⟩ := Path.cheaper id hfr hb
    have := dist_le t1 hc
    rw [show id ((places ws).length - 1) = (places ws).length - 1 from rfl] at this
    omega
  refine ⟨⟨fun hq => ?_, fun hq => ?_⟩, fun hq => ?_, fun b hb => ⟨?_, ?_⟩⟩
  · obtain ⟨b, hb⟩ := dist_path t1 _ hq
    obtain ⟨c, hc, -⟩ := Path.dearer hto hb
    exact (dist_iff t2 (by omega)).2 ⟨b, c, hc⟩
  · have := hup hq
    omega
  · by_cases h2 : dist (tab f (dear r s d) ws) ((places ws).length - 1) < ML
    · exact hup h2
    · omega
  · have := (hb.lt t1 (by omega)).2
    have := ok.m
    omega
  · obtain ⟨c, hc, hl⟩ := Path.dearer hto hb
    have := dist_le t2 hc
    omega
/-! Without divisions. -/
def bareW (ws : List PWord) : List PWord := ws.map fun w => ⟨w.sorts, []⟩
theorem bare_len (ws : List PWord) : (bareW ws).length = ws.length := List.length_map _
theorem gw_bare (ws : List PWord) (i : Nat) : gw (bareW ws) i = ⟨(gw ws i).sorts, []⟩ := by
  unfold gw bareW
  rw [List.getD_eq_getElem?_getD, List.getD_eq_getElem?_getD, List.getElem?_map]
  cases ws[i]? with
  | none => rfl
  | some w => rfl
theorem plTo_bare (ws : List PWord) : ∀ k, plTo (bareW ws) k = (List.range k).map fun i => (i, 0)
  | 0 => rfl
  | k + 1 => by
    unfold plTo
    rw [plTo_bare ws k, List.range_succ, List.map_append, gw_bare]
    rfl
theorem places_bare (ws : List PWord) : places (bareW ws) = (List.range (ws.length + 1)).map fun i => (i, 0) := by
  unfold places
  rw [plTo_bare, bare_len, List.range_succ, List.map_append]
  rfl
theorem gpl_bare {ws : List PWord} {i : Nat} (h : i ≤ ws.length) : gpl (places (bareW ws)) i = (i, 0) := by
  rw [places_bare]
  unfold gpl
  rw [List.getD_eq_getElem?_getD, List.getElem?_map, List.getElem?_range (by omega)]
  rfl
/-- The place ahead of a word. -/
def fpl (ws : List PWord) (k : Nat) : Nat := (plTo ws k).length
theorem fpl_succ (ws : List PWord) (k : Nat) : fpl ws (k + 1) = fpl ws k + 1 + (gw ws k).breaks.length := by
  unfold fpl
  conv => lhs; unfold plTo
  rw [List.length_append]
  unfold plW
  rw [List.length_cons, List.length_map]
  omega
theorem fpl_lt (ws : List PWord) {i : Nat} : ∀ {j : Nat}, i < j → fpl ws i < fpl ws j
  | 0, h => absurd h (Nat.not_lt_zero _)
  | j + 1, h => by
    have := fpl_succ ws j
    by_cases e : i = j
    · subst e; omega
    · have := fpl_lt ws (i := i) (j := j) (by omega)
      omega
theorem plTo_split (ws : List PWord) (k : Nat) : ∀ {n : Nat}, k < n → ∃ tl, plTo ws n = plTo ws k ++ (k, 0) :: tl
  | 0, h => absurd h (Nat.not_lt_zero _)
  | n + 1, h => by
    conv => enter [1, tl, 1]; unfold plTo
    by_cases e : k = n
    · subst e
      exact ⟨_, rfl⟩
    · obtain ⟨tl, ht⟩ := plTo_split ws k (n := n) (by omega)
      exact ⟨tl ++ plW n (gw ws n), by rw [ht]; simp⟩
theorem fpl_at {ws : List PWord} {k : Nat} (h : k ≤ ws.length) : gpl (places ws) (fpl ws k) = (k, 0) ∧ fpl ws k < (places ws).length := by
  by_cases e : k = ws.length
  · subst e
    have h1 := places_last ws
    have h2 : (places ws).length = fpl ws ws.length + 1 := places_len ws
    rw [h2] at h1
    exact ⟨h1, by omega⟩
  · obtain ⟨tl, ht⟩ := plTo_split ws k (n := ws.length) (by omega)
    have hpl : places ws = plTo ws k ++ ((k, 0) :: (tl ++ [(ws.length, 0)])) := by
      unfold places
      rw [ht]; simp
    rw [hpl]
    unfold gpl fpl
    refine ⟨?_, by simp⟩
    rw [List.getD_eq_getElem?_getD, List.getElem?_append_right (Nat.le_refl _), Nat.sub_self]
    rfl
theorem fpl_end (ws : List PWord) : fpl ws ws.length = (places ws).length - 1 := by
  rw [places_len]
  rfl
theorem rawP_bare (ws : List PWord) (a b : Nat × Nat) : ∀ k, rawP (bareW ws) a b k = rawP ws a b k
  | 0 => rfl
  | k + 1 => by
    unfold rawP cutW cutE
    rw [rawP_bare ws a b k, gw_bare]
theorem line_bare {f : Fnt} {r : Rls} {ws : List PWord} {i j : Nat} (hi : i ≤ ws.length) (hj : j ≤ ws.length) : lineF f r (bareW ws) i j = lineF f r ws (fpl ws i) (fpl ws j) := by
  have h1 : piecesF (bareW ws) r.hyphen (i, 0) (j, 0) = piecesF ws r.hyphen (i, 0) (j, 0) := by
    unfold piecesF cnt
    rw [rawP_bare, bare_len]
  have h2 : (places (bareW ws)).length = ws.length + 1 := by rw [places_bare, List.length_map, List.length_range]
  have h3 : (i = 0) = (fpl ws i = 0) := by
    refine propext ⟨fun e => by subst e; rfl, fun e => ?_⟩
    rcases Nat.eq_zero_or_pos i with h | h
    · exact h
    · have := fpl_lt ws h
      omega
  have h4 : (j = ws.length) = (fpl ws j = (places ws).length - 1) := by
    rw [← fpl_end]
    refine propext ⟨fun e => by subst e; rfl, fun e => ?_⟩
    by_cases h : j < ws.length
    · have := fpl_lt ws h
      omega
    · omega
  unfold lineF
  rw [gpl_bare hi, gpl_bare hj, (fpl_at hi).1, (fpl_at hj).1, h1, h2, Nat.add_sub_cancel]
  simp only [h3, h4]
theorem tab_bare {f : Fnt} {r : Rls} {ws : List PWord} {i j d : Nat} (h : tab f r (bareW ws) i j = some d) : tab f r ws (fpl ws i) (fpl ws j) = some d := by
  have h2 : (places (bareW ws)).length = ws.length + 1 := by rw [places_bare, List.length_map, List.length_range]
  unfold tab at h ⊢
  rw [h2] at h
  split at h
  · rename_i hc
    rw [line_bare (by omega) (by omega)] at hc h
    have e1 : divB (bareW ws) i = divB ws (fpl ws i) := by unfold divB; rw [gpl_bare (by omega), (fpl_at (by omega)).1]
    have e2 : divB (bareW ws) j = divB ws (fpl ws j) := by unfold divB; rw [gpl_bare (by omega), (fpl_at (by omega)).1]
    rw [e1, e2] at h
    rw [if_pos ⟨fpl_lt ws hc.1, (fpl_at (by omega)).2, hc.2.2⟩]
    exact h
  · cases h
theorem bare_pa {f : Fnt} {r : Rls} {ws : List PWord} (h : paErr f r ws = 0) : paErr f r (bareW ws) = 0 := by
  have h2 : (places (bareW ws)).length = ws.length + 1 := by rw [places_bare, List.length_map, List.length_range]
  unfold paErr at h ⊢
  split at h
  · omega
  rename_i h1
  rw [if_neg h1]
  unfold wsErr at h ⊢
  split at h
  · rename_i h3
    exact absurd h h3
  rename_i h3
  rw [if_neg h3]
  split at h
  · simp at h
  rename_i h4
  rw [bare_len, if_neg h4]
  split at h
  · rename_i h5
    exact absurd h h5
  rename_i h5
  have h6 := fstE_zero (Classical.not_not.1 h5)
  have h7 : fstE (wErr f (bareW ws)) ws.length = (0, 0) := fstE_none fun j hj => by
    have h8 := h6 j hj
    unfold wErr at h8 ⊢
    rw [gw_bare]
    split at h8
    · omega
    rename_i h9
    rw [if_neg (by exact h9)]
    split at h8
    · omega
    rename_i h10
    rw [if_neg (by exact h10)]
    split at h8
    · rename_i h11
      exact absurd h8 h11
    rename_i h11
    rw [if_neg (by exact h11)]
    rfl
  rw [h7, if_neg (by simp), if_neg (by omega)]
/-- With more places of division the least demerits are not more. -/
theorem bare_ok {f : Fnt} {r : Rls} {ws : List PWord} (h : paErr f r ws = 0) (hb : dist (tab f r (bareW ws)) ((places (bareW ws)).length - 1) < ML) :
    dist (tab f r ws) ((places ws).length - 1) ≤ dist (tab f r (bareW ws)) ((places (bareW ws)).length - 1) := by
  have ok := paErr_ok h
  have ok' := paErr_ok (bare_pa h)
  have t1 := tab_ok ok.ru ok.m (ws := ws)
  have t2 := tab_ok ok'.ru ok'.m (ws := bareW ws)
  have h2 : (places (bareW ws)).length - 1 = ws.length := by rw [places_bare, List.length_map, List.length_range]; rfl
  rw [h2] at hb ⊢
  obtain ⟨b, hp⟩ := dist_path t2 _ hb
  obtain ⟨c, hc, hl⟩ := Path.cheaper (fpl ws) (fun i j d hd => ⟨d, tab_bare hd, Nat.le_refl _⟩) hp
  rw [show fpl ws 0 = 0 from rfl, fpl_end] at hc
  have := dist_le t1 hc
  omega
end Go.Proofs.YtbnganlfelgogaaGreat
