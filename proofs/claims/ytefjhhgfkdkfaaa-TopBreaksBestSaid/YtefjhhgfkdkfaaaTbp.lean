/- TopBreaksBest, plain: what the law asks holds. -/
import Derived.Test.YtefjhhgfkdkfaaaCkb
import Derived.Test.YtefjhhgfkdkfaaaDmo
import Derived.Test.YtefjhhgfkdkfaaaFws
import Derived.Test.YtefjhhgfkdkfaaaBin
namespace Go.Proofs.Ytefjhhgfkdkfaaa
set_option linter.unusedSimpArgs false
set_option linter.unusedVariables false
theorem Path.split {t : Tb} {j : Nat} {b2 : List Nat} : ∀ {b1 : List Nat} {i c : Nat}, Path t i (b1 ++ b2) j c → ∃ m c1 c2, Path t i b1 m c1 ∧ Path t m b2 j c2 ∧ c = c1 + c2
  | [], i, c, p => ⟨i, 0, c, Path.nil t i, p, by omega⟩
  | k :: b1, i, c, p => by
    obtain ⟨d, e, h1, h2, rfl⟩ := Path.inv (show Path t i (k :: (b1 ++ b2)) j c from p)
    obtain ⟨m, c1, c2, h3, h4, rfl⟩ := Path.split h2
    exact ⟨m, d + c1, c2, Path.cons h1 h3, h4, by omega⟩
theorem Path.same {t : Tb} {i j j' c c' : Nat} {b : List Nat} (h : Path t i b j c) (h' : Path t i b j' c') : j = j' ∧ c = c' := by
  obtain ⟨h1, h2⟩ := h
  obtain ⟨h3, h4⟩ := h'
  rw [h1] at h3
  injection h3 with h3
  exact ⟨h2.symm.trans h4, h3⟩
theorem Path.at {t : Tb} {j c : Nat} {b : List Nat} (h : Path t 0 b j c) {k fr s : Nat} (hk : k < b.length) (hp : Path t 0 (b.take k) fr s) : ∃ d, t fr b[k] = some d ∧ Path t 0 (b.take (k + 1)) b[k] (s + d) := by
  have e : b = b.take k ++ (b[k] :: b.drop (k + 1)) := by
    rw [← List.drop_eq_getElem_cons hk, List.take_append_drop]
  rw [e] at h
  obtain ⟨m, c1, c2, h1, h2, -⟩ := h.split
  obtain ⟨rfl, rfl⟩ := hp.same h1
  obtain ⟨d, e2, h3, -, -⟩ := h2.inv
  refine ⟨d, h3, ?_⟩
  rw [List.take_add_one, List.getElem?_eq_getElem hk]
  exact Path.snoc h3 hp
/-- The least demerits of fewer than k lines. -/
def mnL (t : Tb) (N : Nat) : Nat → Nat
  | 0 => ML
  | k + 1 => min (mnL t N k) (inD t N k (N - 1)).1
theorem mnL_le (t : Tb) (N : Nat) : ∀ k, mnL t N k ≤ ML
  | 0 => Nat.le_refl _
  | k + 1 => by have := mnL_le t N k; show min _ _ ≤ _; omega
theorem mnL_mono (t : Tb) (N : Nat) : ∀ k q, q < k → mnL t N k ≤ (inD t N q (N - 1)).1
  | 0, q, h => absurd h (Nat.not_lt_zero _)
  | k + 1, q, h => by
    show min _ _ ≤ _
    by_cases e : q = k
    · rw [e]; omega
    · have := mnL_mono t N k q (by omega); omega
theorem mnL_ge {t : Tb} {N D : Nat} (ht : TbOk t N D) (hd : dist t (N - 1) < ML) : ∀ k, dist t (N - 1) ≤ mnL t N k
  | 0 => Nat.le_of_lt hd
  | k + 1 => by
    have ih := mnL_ge ht hd k
    show _ ≤ min _ _
    have : dist t (N - 1) ≤ (inD t N k (N - 1)).1 := by
      by_cases h : (inD t N k (N - 1)).1 < ML
      · obtain ⟨b, hb, -⟩ := inD_path ht k (N - 1) h
        exact dist_le ht hb
      · omega
    omega
theorem mnL_end {t : Tb} {N D : Nat} (ht : TbOk t N D) (hd : dist t (N - 1) < ML) {b : List Nat} (hp : Path t 0 b (N - 1) (dist t (N - 1))) : mnL t N (N + 1) = dist t (N - 1) := by
  have h1 := mnL_ge ht hd (N + 1)
  have hl := (hp.lt ht (by have := ht.pos; omega)).2
  have h2 := mnL_mono t N (N + 1) b.length (by omega)
  have h3 := inD_le ht b.length rfl hp (by have := ht.pos; omega)
  omega
/-- Right breaks are a way. -/
theorem lnErr_path {f : Fnt} {r : Rls} {ws : List PWord} {bs : List Int} (hok : POk f r ws) (h : lnErr f r ws bs = 0) : ∃ (b : List Nat), b.length = bs.length ∧ Path (tab f r ws) 0 b ((places ws).length - 1) (dmA f r ws bs bs.length).toNat := by
  obtain ⟨hc, ha⟩ := lnErr_ok h
  obtain ⟨hck, hend⟩ := cpErr_ok hc
  have hpos := places_pos ws
  have key : ∀ k, k ≤ bs.length → ∃ (b : List Nat), b.length = k ∧ Path (tab f r ws) 0 b (befB bs k).toNat (dmA f r ws bs k).toNat := by
    intro k
    induction k with
    | zero =>
      intro _
      refine ⟨[], rfl, ?_⟩
      have e0 : dmA f r ws bs 0 = 0 := by simp [dmA, sumD]
      rw [e0]
      exact Path.nil _ 0
    | succ k ih =>
      intro hk
      obtain ⟨b, hb, hp⟩ := ih (by omega)
      have h1 := ckE_ok (hck k (by omega))
      have h2 := bef_up hck (by omega) k (by omega)
      have h3 := dmA_bound hok.ru ha k (by omega)
      have hal := ha k (by omega)
      have h4 := dem_bound hok.ru hal (da := divB ws (befB bs k).toNat) (db := divB ws (gz bs k).toNat)
      have ht : tab f r ws (befB bs k).toNat (gz bs k).toNat = some (demF f r (lineF f r ws (befB bs k).toNat (gz bs k).toNat) (divB ws (befB bs k).toNat) (divB ws (gz bs k).toNat)).toNat := by
        unfold tab
        rw [if_pos ⟨by omega, by omega, hal⟩]
      refine ⟨b ++ [(gz bs k).toNat], by simp [hb], ?_⟩
      have hs := Path.snoc ht hp
      have e1 : befB bs (k + 1) = gz bs k := rfl
      rw [e1, dmA_step (by omega), Int.toNat_add h3.1 h4.1]
      exact hs
  obtain ⟨b, hb, hp⟩ := key bs.length (Nat.le_refl _)
  refine ⟨b, hb, ?_⟩
  rw [hend] at hp
  simpa using hp
/-- A line of the table, as DemeritsOf tells it. -/
theorem tab_dmE {f : Fnt} {r : Rls} {ws : List PWord} {i j d : Nat} (hok : POk f r ws) (hpe : paErr f r ws = 0) (h : tab f r ws i j = some d) : dmE f r ws i j = ((d : Int), 0) := by
  unfold tab at h
  by_cases hc : i < j ∧ j < (places ws).length ∧ allowB r (lineF f r ws i j) = true
  · rw [if_pos hc] at h
    injection h with h
    have hpos := places_pos ws
    have hla : laE f r ws i j = 0 := by
      unfold laE
      rw [if_neg (fun h => h hpe), if_neg (by
        have h1 : win (i : Int) 0 (((places ws).length - 1 : Nat) : Int) = true := win_t.2 (by omega)
        have h2 : win (j : Int) 0 (((places ws).length - 1 : Nat) : Int) = true := win_t.2 (by omega)
        rw [h1, h2]; simp), if_neg (by omega)]
    have hb := dem_bound hok.ru hc.2.2 (da := divB ws i) (db := divB ws j)
    unfold dmE
    rw [if_neg (fun h => h hla), Int.toNat_natCast, Int.toNat_natCast, if_neg (by rw [hc.2.2]; decide), ← h, Int.toNat_of_nonneg hb.1]
  · rw [if_neg hc] at h
    cases h
theorem hop_none_dist {t : Tb} {N D : Nat} (ht : TbOk t N D) (h : dist t (N - 1) = ML) : hop t (N - 1) (N - 1) = none := by
  cases hh : hop t (N - 1) (N - 1) with
  | none => rfl
  | some m =>
    exfalso
    obtain ⟨b, c, hp, -⟩ := hop_path ht _ _ _ hh
    have := dist_le ht hp
    have := (hp.lt ht (by have := ht.pos; omega)).1
    omega
theorem hop_some_dist {t : Tb} {N D : Nat} (ht : TbOk t N D) {b : List Nat} {c : Nat} (hp : Path t 0 b (N - 1) c) : ∃ k, hop t (N - 1) (N - 1) = some k ∧ k ≤ b.length := by
  have := hop_le ht b.length rfl hp
  cases hh : hop t (N - 1) (N - 1) with
  | none => rw [hh] at this; exact this.elim
  | some m => rw [hh] at this; exact ⟨m, rfl, this⟩
end Go.Proofs.Ytefjhhgfkdkfaaa
