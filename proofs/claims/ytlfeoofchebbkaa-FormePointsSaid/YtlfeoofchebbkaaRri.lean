/- Insertion by exchanges of neighbours: plain. -/
import Derived.Test.YtlfeoofchebbkaaRwp
namespace Go.Proofs.Ytlfeoofchebbkaa
set_option linter.unusedSimpArgs false
set_option linter.unusedVariables false
def gn (l : List Nat) (i : Nat) : Nat := l.getD i 0
/-- Two elements exchanged. -/
def swl (l : List Nat) (i j : Nat) : List Nat := (l.set i (gn l j)).set j (gn l i)
theorem gn_get {l : List Nat} {i : Nat} (h : i < l.length) : gn l i = l[i] := by simp [gn, List.getD_eq_getElem?_getD, List.getElem?_eq_getElem h]
theorem swl_len (l : List Nat) (i j : Nat) : (swl l i j).length = l.length := by simp [swl]
theorem swl_perm {l : List Nat} {i j : Nat} (hi : i < l.length) (hj : j < l.length) : (swl l i j).Perm l := by
  unfold swl
  rw [gn_get hi, gn_get hj]
  exact List.set_set_perm hi hj
theorem swl_at {l : List Nat} {i j a : Nat} (hi : i < l.length) (hj : j < l.length) : gn (swl l i j) a = if a = j then gn l i else if a = i then gn l j else gn l a := by
  unfold gn swl
  simp only [List.getD_eq_getElem?_getD, List.getElem?_set]
  by_cases h1 : a = j
  · subst h1; simp [hj, gn]
  · by_cases h2 : a = i
    · subst h2
      rw [if_neg (by omega)]
      simp [h1, hi, gn]
    · rw [if_neg (by omega), if_neg (by omega), if_neg h1, if_neg h2]
/-- The first i are in order. -/
def InTo (key : Nat → Int) (i : Nat) (l : List Nat) : Prop := ∀ a b, a < b → b < i → key (gn l a) ≤ key (gn l b)
/-- .. the first i + 1, but for the one at k. -/
def InBut (key : Nat → Int) (i k : Nat) (l : List Nat) : Prop := (∀ a b, a < b → b ≤ i → a ≠ k → b ≠ k → key (gn l a) ≤ key (gn l b)) ∧ ∀ b, k < b → b ≤ i → key (gn l k) ≤ key (gn l b)
section
variable {key : Nat → Int} {i k : Nat} {l : List Nat}
theorem InTo.one : InTo key 1 l := fun a b h1 h2 => by omega
theorem InTo.but (h : InTo key i l) : InBut key i i l := ⟨fun a b h1 h2 h3 h4 => h a b h1 (by omega), fun b h1 h2 => by omega⟩
theorem InBut.step (h : InBut key i k l) (hi : i < l.length) (hk : 0 < k) (hki : k ≤ i) (hlt : key (gn l k) < key (gn l (k - 1))) : InBut key i (k - 1) (swl l k (k - 1)) := by
  obtain ⟨h1, h2⟩ := h
  have hs : ∀ a, gn (swl l k (k - 1)) a = if a = k - 1 then gn l k else if a = k then gn l (k - 1) else gn l a := fun a => swl_at (by omega) (by omega)
  refine ⟨fun a b hab hb ha' hb' => ?_, fun b hb hbi => ?_⟩
  · rw [hs, hs, if_neg ha', if_neg hb']
    by_cases ea : a = k
    · subst ea
      rw [if_pos rfl, if_neg (by omega)]
      exact h1 (a - 1) b (by omega) hb (by omega) (by omega)
    · rw [if_neg ea]
      by_cases eb : b = k
      · subst eb
        rw [if_pos rfl]
        exact h1 a (b - 1) (by omega) (by omega) (by omega) (by omega)
      · rw [if_neg eb]
        exact h1 a b hab hb ea eb
  · rw [hs, hs, if_pos rfl, if_neg (by omega)]
    by_cases eb : b = k
    · subst eb
      rw [if_pos rfl]; omega
    · rw [if_neg eb]
      exact h2 b (by omega) hbi
theorem InBut.stop (h : InBut key i k l) (hk : k = 0 ∨ key (gn l (k - 1)) ≤ key (gn l k)) : InTo key (i + 1) l := by
  obtain ⟨h1, h2⟩ := h
  intro a b hab hb
  by_cases ea : a = k
  · subst ea; exact h2 b hab (by omega)
  · by_cases eb : b = k
    · subst eb
      have hk' : key (gn l (b - 1)) ≤ key (gn l b) := hk.resolve_left (by omega)
      by_cases e : a = b - 1
      · rw [e]; exact hk'
      · exact Int.le_trans (h1 a (b - 1) (by omega) (by omega) ea (by omega)) hk'
    · exact h1 a b hab (by omega) ea eb
theorem InTo.sorted (h : InTo key l.length l) : l.Pairwise fun a b => key a ≤ key b := by
  rw [List.pairwise_iff_getElem]
  intro a b ha hb hab
  have := h a b hab hb
  rwa [gn_get ha, gn_get hb] at this
end
end Go.Proofs.Ytlfeoofchebbkaa
