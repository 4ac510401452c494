/- Lists of lists that came in, opened. -/
import Derived.Test.YtlfeoofchebbkaaFrm
import Derived.Test.YtlfeoofchebbkaaLbl
import Derived.Deep.Matrix
namespace Go.Proofs.Ytlfeoofchebbkaa
set_option linter.unusedSimpArgs false
set_option linter.unusedVariables false
open Go.ChangeShapes Go.WideShapes Go.ChangeAt Go.RowKit Go.Deep
set_option maxRecDepth 100000 in
theorem open_zz {H : Type} {enc : TypeId × Value → H} {W : World} {v : Value} {d : DataW H} {ps : List MemPlace} (hval : Value.okWide Try.prog W .any 0 76 v) (h : DataW.Trod enc Try.prog W 0 (fun _ => true) true 76 v d ps) :
    ∃ A ls c b off, v = .slice A (ls : List (List Int)).length c ∧ Lies A ls.length W.heap.size b off ∧ (0 < ls.length → RowsAt W W.heap.size b off ls) ∧ ls.length ≤ c ∧ c ≤ maxLen := by
  obtain ⟨A0, len, cap, rfl⟩ := okWide_slice Try.underlying76 hval
  obtain ⟨fuel, hf⟩ := h
  rcases open_int_rows (k := .i64) Try.underlying76 Try.underlying23 Try.underlying3 (by kernel_rfl) (by kernel_rfl) hf with ⟨hv, _⟩ | ⟨a, len1, cap1, A, L, C, Z, hv, _, hl, hm, _, hi⟩
  · simp [Value.cells] at hv
    obtain ⟨rfl, rfl, rfl⟩ := hv
    exact ⟨none, [], 0, 0, 0, rfl, fun h => absurd h (Nat.lt_irrefl _), fun h => absurd h (Nat.lt_irrefl _), Nat.le_refl _, Nat.zero_le _⟩
  · simp [Value.cells] at hv
    obtain ⟨rfl, rfl, rfl⟩ := hv
    by_cases h0 : len = 0
    · subst h0
      exact ⟨some a, [], cap, 0, 0, rfl, fun h => absurd h (Nat.lt_irrefl _), fun h => absurd h (Nat.lt_irrefl _), Nat.zero_le _, hm⟩
    · obtain ⟨hc0, _⟩ := hi 0 (by omega)
      have hs := World.cell?_spot hc0
      obtain ⟨b, off, sp⟩ := a
      simp [Addr.add] at hs
      subst hs
      have hadd : ∀ (b off j : Nat), (⟨b, off, none⟩ : Addr).add j = ⟨b, off + j, none⟩ := fun b off j => by unfold Addr.add; split <;> simp_all
      rw [hadd] at hc0
      let ls : List (List Int) := (List.range len).map fun r => (Z r).take (L r)
      have e : ls.length = len := by simp [ls]
      have hg : ∀ r, r < len → gl ls r = (Z r).take (L r) := fun r hr => by
        rw [gl, List.getD_eq_getElem?_getD]
        simp only [ls, List.getElem?_map, List.getElem?_range hr, Option.map_some, Option.getD_some]
      refine ⟨some ⟨b, off, none⟩, ls, cap, b, off, by rw [e], fun _ => ⟨rfl, block_lt_of_cell hc0⟩, fun _ r hr => ?_, by rw [e]; exact hl, hm⟩
      rw [e] at hr
      obtain ⟨h1, h2, h3, h4, _, h5, h6⟩ := hi r (by omega)
      rw [hadd] at h1
      rw [hg r hr]
      have hlen : ((Z r).take (L r)).length = L r := by rw [List.length_take]; omega
      rw [hlen]
      by_cases hz : L r = 0
      · exact ⟨A r, 0, 0, C r, h1, fun h => by omega, fun j hj => by rw [hlen] at hj; omega⟩
      · obtain ⟨a', ha'⟩ : ∃ a', A r = some a' := by
          cases hA : A r with
          | none => have := h5 hA; omega
          | some a' => exact ⟨a', rfl⟩
        obtain ⟨_, h8⟩ := h6 a' ha'
        have h9 := h8 0 (by omega)
        have hs := World.cell?_spot h9
        obtain ⟨b', off', sp'⟩ := a'
        simp [Addr.add] at hs
        subst hs
        rw [hadd] at h9
        refine ⟨A r, b', off', C r, h1, fun _ => ⟨ha', block_lt_of_cell h9⟩, fun j hj => ?_⟩
        rw [hlen] at hj
        have hx := h8 j (by omega)
        rw [hadd] at hx
        rw [hx]
        rw [gz, List.getD_eq_getElem?_getD, List.getD_eq_getElem?_getD, List.getElem?_take, if_pos hj]
end Go.Proofs.Ytlfeoofchebbkaa
