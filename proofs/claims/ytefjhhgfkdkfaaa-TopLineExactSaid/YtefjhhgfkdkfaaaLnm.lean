/- Plain: the pieces of a line: bounds, the sum of widths. -/
import Derived.Test.YtefjhhgfkdkfaaaBas
namespace Go.Proofs.Ytefjhhgfkdkfaaa
set_option linter.unusedSimpArgs false
set_option linter.unusedVariables false
theorem gz_mem {zs : List Int} {j : Nat} (h : j < zs.length) : gz zs j ∈ zs := by rw [gz_get h]; exact List.getElem_mem h
theorem mem_gz {zs : List Int} {s : Int} (h : s ∈ zs) : ∃ j, j < zs.length ∧ gz zs j = s := by
  obtain ⟨j, hj, rfl⟩ := List.getElem_of_mem h
  exact ⟨j, hj, gz_get hj⟩
theorem cutW_mem {ns : Nat} {ws : List PWord} (h : WsOk ns ws) {a b : Nat × Nat} {i : Nat} (hi : i < ws.length) {s : Int} (hs : s ∈ cutW ws a b i) : 0 ≤ s ∧ s < ns := by
  unfold cutW at hs
  obtain ⟨j, hj, rfl⟩ := mem_gz (List.mem_of_mem_take (List.mem_of_mem_drop hs))
  exact (h i hi).st j hj
theorem rawP_mem {ns : Nat} {ws : List PWord} (h : WsOk ns ws) {a b : Nat × Nat} : ∀ {k : Nat}, a.1 + k ≤ ws.length → ∀ {s : Int}, s ∈ (rawP ws a b k).flatten → 0 ≤ s ∧ s < ns := by
  intro k
  induction k with
  | zero => intro _ s hs; simp [rawP] at hs
  | succ k ih =>
    intro hk s hs
    unfold rawP at hs
    split at hs
    · rw [List.flatten_append, List.mem_append] at hs
      rcases hs with hs | hs
      · exact ih (by omega) hs
      · exact cutW_mem h (i := a.1 + k) (by omega) (by simpa using hs)
    · exact ih (by omega) hs
theorem rawP_len60 {ns : Nat} {ws : List PWord} (h : WsOk ns ws) {a b : Nat × Nat} (hb : PlIn ws b) : ∀ {k : Nat}, a.1 + k ≤ ws.length → lenS (rawP ws a b k) ≤ k * 60 ∧ (rawP ws a b k).length ≤ k := by
  intro k
  induction k with
  | zero => intro _; simp [rawP, lenS]
  | succ k ih =>
    intro hk
    have h1 := ih (by omega)
    unfold rawP
    split
    · rw [lenS_snoc, cutW_len (hb.cutE _ (by omega))]
      have h2 := hb.cutE (a.1 + k) (by omega)
      have h3 := (h (a.1 + k) (by omega)).most
      simp only [List.length_append, List.length_cons, List.length_nil]
      omega
    · omega
theorem cnt_le (ws : List PWord) (a b : Nat × Nat) (ha : a.1 ≤ ws.length) : a.1 + cnt ws a b ≤ ws.length := by unfold cnt; omega
theorem flat_hyph {h : Int} {l : List (List Int)} (hl : 0 < l.length) : (hyph h l).flatten = l.flatten ++ [h] := by
  obtain ⟨a, x, rfl⟩ : ∃ a x, l = a ++ [x] := ⟨l.dropLast, l.getLast (List.ne_nil_of_length_pos hl), (List.dropLast_concat_getLast _).symm⟩
  rw [hyph_snoc]
  simp
theorem pieces_mem {ns : Nat} {ws : List PWord} (h : WsOk ns ws) {hy : Int} (hh : 0 ≤ hy ∧ hy < ns) {a b : Nat × Nat} (ha : a.1 ≤ ws.length) (hl : 0 < (rawP ws a b (cnt ws a b)).length) {s : Int} (hs : s ∈ (piecesF ws hy a b).flatten) : 0 ≤ s ∧ s < ns := by
  unfold piecesF at hs
  split at hs
  · rw [flat_hyph hl, List.mem_append] at hs
    rcases hs with hs | hs
    · exact rawP_mem h (cnt_le ws a b ha) hs
    · have : s = hy := by simpa using hs
      subst this; exact hh
  · exact rawP_mem h (cnt_le ws a b ha) hs
theorem pieces_len60 {ns : Nat} {ws : List PWord} (h : WsOk ns ws) {hy : Int} {a b : Nat × Nat} (ha : a.1 ≤ ws.length) (hb : PlIn ws b) (hl : 0 < (rawP ws a b (cnt ws a b)).length) : (piecesF ws hy a b).flatten.length ≤ ws.length * 60 + 1 ∧ (piecesF ws hy a b).length ≤ ws.length := by
  have h1 := pieces_len (h := hy) hl
  have h2 := rawP_len60 h hb (a := a) (cnt_le ws a b ha)
  have h3 := cnt_le ws a b ha
  unfold lenS at *
  omega
theorem widL_app (f : Fnt) (a b : List Int) : widL f (a ++ b) = widL f a + widL f b := by unfold widL; simp
theorem widL_take {f : Fnt} {zs : List Int} {k : Nat} (h : k < zs.length) : widL f (zs.take (k + 1)) = widL f (zs.take k) + wd f (gz zs k) := by
  rw [List.take_succ_eq_append_getElem h, widL_app, gz_get h]
  simp [widL]
theorem wd_ok {f : Fnt} (h : (fnErr f).2 = 0) {s : Int} (hs : 0 ≤ s ∧ s < f.sorts.length) : 1 ≤ wd f s ∧ wd f s ≤ 100000 := by
  unfold fnErr at h
  by_cases h1 : isNm f.name = false
  · rw [if_pos h1] at h; omega
  rw [if_neg h1] at h
  by_cases h2 : win f.body 1 144 = false
  · rw [if_pos h2] at h; omega
  rw [if_neg h2] at h
  by_cases h3 : f.sorts.length = 0
  · omega
  rw [if_neg h3] at h
  by_cases h4 : 120 < f.sorts.length
  · rw [if_pos h4] at h; omega
  rw [if_neg h4] at h
  have h5 := fstE_zero h s.toNat (by omega)
  unfold soErr at h5
  by_cases a1 : isNm (gs f.sorts s.toNat).name = false
  · rw [if_pos a1] at h5; omega
  rw [if_neg a1] at h5
  by_cases a2 : hasNm f.sorts s.toNat (gs f.sorts s.toNat).name = true
  · rw [if_pos a2] at h5; omega
  rw [if_neg a2] at h5
  by_cases a3 : win (gs f.sorts s.toNat).kind 1 3 = false
  · rw [if_pos a3] at h5; omega
  rw [if_neg a3] at h5
  by_cases a4 : win (gs f.sorts s.toNat).width 1 100000 = false
  · rw [if_pos a4] at h5; omega
  have a5 : win (gs f.sorts s.toNat).width 1 100000 = true := by simpa using a4
  exact win_t.1 a5
theorem widL_bound {f : Fnt} (h : (fnErr f).2 = 0) : ∀ {zs : List Int}, (∀ s ∈ zs, 0 ≤ s ∧ s < f.sorts.length) → 0 ≤ widL f zs ∧ widL f zs ≤ zs.length * 100000
  | [], _ => by simp [widL]
  | z :: l, hz => by
    have h1 := widL_bound h (zs := l) (fun s hs => hz s (List.mem_cons_of_mem _ hs))
    have h2 := wd_ok h (hz z List.mem_cons_self)
    have e : widL f (z :: l) = wd f z + widL f l := by simp [widL]
    rw [e, List.length_cons]
    omega
theorem few_sorts {f : Fnt} (h : (fnErr f).2 = 0) : f.sorts.length ≤ 120 := by
  unfold fnErr at h
  by_cases h1 : isNm f.name = false
  · rw [if_pos h1] at h; omega
  rw [if_neg h1] at h
  by_cases h2 : win f.body 1 144 = false
  · rw [if_pos h2] at h; omega
  rw [if_neg h2] at h
  by_cases h3 : f.sorts.length = 0
  · omega
  rw [if_neg h3] at h
  by_cases h4 : 120 < f.sorts.length
  · rw [if_pos h4] at h; omega
  omega
end Go.Proofs.Ytefjhhgfkdkfaaa
