/- An own row of words: the places of division of one word are struck. -/
import Derived.Test.YtbnganlfelgogaaGreatLwd
import Derived.Test.YtbnganlfelgogaaGreatPrd
import Derived.Laws.OwnMore
namespace Go.Proofs.YtbnganlfelgogaaGreat
open Go.RowKit
theorem wdc_strip : ∀ (hd : List (Value × Value)) (k : Nat) (u : Value), k < hd.length → (wdc hd).set (k * 2 + 1) u = wdc (hd.set k ((ghd hd k).1, u))
  | [], k, u, h => by simp at h
  | p :: l, 0, u, _ => rfl
  | p :: l, k + 1, u, h => by
    have ih := wdc_strip l k u (by simpa using h)
    have e1 : wdc (p :: l) = p.1 :: p.2 :: wdc l := rfl
    have e2 : ghd (p :: l) (k + 1) = ghd l k := by simp [ghd]
    rw [e2, List.set_cons_succ, show wdc (p :: l.set k ((ghd l k).1, u)) = p.1 :: p.2 :: wdc (l.set k ((ghd l k).1, u)) from rfl, ← ih, e1, show (k + 1) * 2 + 1 = (k * 2 + 1) + 1 + 1 by omega, List.set_cons_succ, List.set_cons_succ]
theorem ghd_set (hd : List (Value × Value)) (k i : Nat) (p : Value × Value) (hk : k < hd.length) : ghd (hd.set k p) i = if i = k then p else ghd hd i := by
  unfold ghd
  rw [List.getD_eq_getElem?_getD, List.getD_eq_getElem?_getD, List.getElem?_set]
  by_cases h : k = i
  · subst h
    rw [if_pos rfl, if_pos rfl, if_pos hk]
    rfl
  · rw [if_neg h, if_neg (fun e => h e.symm)]
theorem WoS.strip {W : World} {B : Nat} {ws : List PWord} {A : Option Addr} {n c : Nat} {hd : List (Value × Value)} (h : WoS W B ws (.slice A n c) hd) {k : Nat} (hk : k < ws.length) :
    n = ws.length ∧ ∃ g x, A = some ⟨g, 0, none⟩ ∧ B ≤ g ∧ g < W.heap.size ∧ W.cell? ⟨g, k * 2 + 1, none⟩ = some x ∧ W.frozen? ⟨g, k * 2 + 1, none⟩ = false ∧
      ∀ ws' : List PWord, ws'.length = ws.length → gw ws' k = ⟨(gw ws k).sorts, []⟩ → (∀ i, i ≠ k → i < ws.length → gw ws' i = gw ws i) →
        WoS (W.setCell ⟨g, k * 2 + 1, none⟩ (.slice none 0 0)) B ws' (.slice A n c) (hd.set k ((ghd hd k).1, .slice none 0 0)) := by
  have hr := h.row
  have hl := h.len
  rcases hr.2 with ⟨he, h0⟩ | ⟨g, cap, cur, e, hB, hh, h1, h2, h3, h4⟩
  · have : n = 0 := by injection he
    have := hr.1
    rw [wdc_len] at this
    omega
  · injection e with e1 e2 e3
    subst e1 e2 e3
    have hb : Blk W g 40 cur := hh
    have hlt : k * 2 + 1 < cur.size := by omega
    refine ⟨rfl, g, cur[k * 2 + 1], rfl, hB, hb.lt, ?_, hb.frozen _, fun ws' hl' hg1 hg2 => ?_⟩
    · rw [hb.cell]
      exact Array.getElem?_eq_getElem hlt
    · have hs := World.ownsRow.stored hr (k * 2 + 1) (.slice none 0 0)
      rw [wdc_strip hd k _ (by omega)] at hs
      have hg := grown_setCell W g (k * 2 + 1) (.slice none 0 0)
      refine ⟨by rw [hl']; exact hs.1, by rw [List.length_set, hl', hl], fun i hi => ?_⟩
      rw [hl'] at hi
      rw [ghd_set _ _ _ _ (by omega)]
      by_cases hik : i = k
      · subst hik
        rw [if_pos rfl, hg1]
        have hp := (h.pc i hk).1
        exact ⟨hp.keptG hg (.inr (fun e => own_blk_ne hp hb (by decide) e.symm)), World.ownsRow_nil _ _ _ _⟩
      · rw [if_neg hik, hg2 i hik hi]
        have hp := (h.pc i hi).1
        have hq := (h.pc i hi).2
        exact ⟨hp.keptG hg (.inr (fun e => own_blk_ne hp hb (by decide) e.symm)), hq.keptG hg (.inr (fun e => own_blk_ne hq hb (by decide) e.symm))⟩
/-- Divisions struck in the first k words. -/
def mixW (ws : List PWord) (k : Nat) : List PWord := (bareW ws).take k ++ ws.drop k
theorem mix_len {ws : List PWord} {k : Nat} (h : k ≤ ws.length) : (mixW ws k).length = ws.length := by
  unfold mixW
  rw [List.length_append, List.length_take, bare_len, List.length_drop]
  omega
theorem mix_gw {ws : List PWord} {k i : Nat} (h : k ≤ ws.length) : gw (mixW ws k) i = if i < k then gw (bareW ws) i else gw ws i := by
  unfold mixW gw
  rw [List.getD_eq_getElem?_getD, List.getD_eq_getElem?_getD, List.getD_eq_getElem?_getD]
  by_cases hi : i < k
  · rw [if_pos hi, List.getElem?_append_left (by rw [List.length_take, bare_len]; omega), List.getElem?_take, if_pos hi]
  · rw [if_neg hi, List.getElem?_append_right (by rw [List.length_take, bare_len]; omega), List.length_take, bare_len, List.getElem?_drop, show k + (i - min k ws.length) = i by omega]
theorem mix_all (ws : List PWord) : mixW ws ws.length = bareW ws := by
  unfold mixW
  rw [List.drop_length, List.append_nil, List.take_of_length_le (by rw [bare_len]; exact Nat.le_refl _)]
theorem mix_zero (ws : List PWord) : mixW ws 0 = ws := by unfold mixW; simp
end Go.Proofs.YtbnganlfelgogaaGreat
