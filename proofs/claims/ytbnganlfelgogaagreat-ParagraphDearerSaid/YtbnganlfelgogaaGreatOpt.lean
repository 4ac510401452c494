/- openers: words and texts that came in. -/
import Derived.Test.YtbnganlfelgogaaGreatOpr
import Derived.Test.YtbnganlfelgogaaGreatLwd
import Derived.ProofKit
import Derived.ChangeOld
import Derived.Carry
import Derived.Deep.Slices
import Derived.Lib.SmallJoins
namespace Go.Proofs.YtbnganlfelgogaaGreat
set_option linter.unusedSimpArgs false
set_option linter.unusedVariables false
open Go.ChangeShapes Go.WideShapes Go.ChangeAt Go.RowKit Go.Deep Go.Joins
section
variable {H : Type} {enc : TypeId × Value → H}
set_option maxRecDepth 100000 in
/-- Words that came in. -/
theorem open_words {W : World} {v : Value} {n : Nat} {x : DataW H × List MemPlace} (hf : DataW.trod enc Tryz.prog W 0 (fun _ => true) true n 27 [v] = some x) : ∃ ws, WoV W ws v := by
  rcases open_slice Tryz.underlying27 hf with ⟨hv, _⟩ | ⟨a, len, cap, m, n, D, Pl, hv, _, hl, hm, hmm, _, hi⟩
  · simp at hv
    subst hv
    exact ⟨[], none, 0, 0, 0, rfl, fun h => absurd h (Nat.lt_irrefl _), fun j hj => absurd hj (Nat.not_lt_zero _), Nat.le_refl _, Nat.zero_le _⟩
  · simp at hv
    subst hv
    have hmc : m = cap := by simpa using hmm
    have hC : Tryz.prog.cellsOf 40 = 2 := by kernel_rfl
    rw [hC] at hi
    by_cases h0 : len = 0
    · subst h0
      exact ⟨[], some a, 0, 0, cap, rfl, fun h => absurd h (Nat.lt_irrefl _), fun j hj => absurd hj (Nat.not_lt_zero _), Nat.zero_le _, hm⟩
    · obtain ⟨cs0, hc0, _⟩ := hi 0 (by omega)
      obtain ⟨b, off, he, hlt⟩ := cells_lt hc0 (by omega)
      have he' : a = ⟨b, off, none⟩ := by
        obtain ⟨b', off', sp'⟩ := a
        simpa [Addr.add] using he
      subst he'
      have hel : ∀ i, i < len → ∃ p : PWord, ∃ v1 v2, W.cell? ⟨b, off + i * 2, none⟩ = some v1 ∧ W.cell? ⟨b, off + i * 2 + 1, none⟩ = some v2 ∧ IV W p.sorts v1 ∧ IV W p.breaks v2 := fun i hi' => by
        obtain ⟨cs, hc, ht⟩ := hi i (by omega)
        obtain ⟨ys, n', _, _, hlen, hyl, hf'⟩ := DataW.trod_struct Tryz.underlying40 ht
        obtain ⟨_, hcl, hat⟩ := World.cells?_some hc
        have f0 := hf' 0 _ rfl
        have f1 := hf' 1 _ rfl
        have c30 : Tryz.prog.cellsOf 34 = 1 := by kernel_rfl
        rw [List.getElem?_eq_getElem (by rw [hyl]; decide)] at f0 f1
        have g := fun j (hj : j < 2) => hat j hj
        simp only [add_mul] at g
        have hcn : cs.length = 2 := hcl
        obtain ⟨u0, u1, rfl⟩ : ∃ u0 u1, cs = [u0, u1] := by
          match cs, hcn with
          | [u0, u1], _ => exact ⟨u0, u1, rfl⟩
        have e0 : (([u0, u1] : List Value).drop 0).take (Tryz.prog.cellsOf 34) = [u0] := by rw [c30]; rfl
        have e1 : (([u0, u1] : List Value).drop 1).take (Tryz.prog.cellsOf 34) = [u1] := by rw [c30]; rfl
        obtain ⟨z0, i0⟩ := open_zs' (e0 ▸ f0)
        obtain ⟨z1, i1⟩ := open_zs' (e1 ▸ f1)
        exact ⟨⟨z0, z1⟩, u0, u1, by simpa using g 0 (by omega), by simpa using g 1 (by omega), i0, i1⟩
      obtain ⟨l, e, hall⟩ := list_of len hel
      exact ⟨l, some ⟨b, off, none⟩, b, off, cap, by rw [e], fun _ => ⟨rfl, hlt⟩, fun j hj => hall j (by omega), by rw [e]; exact hl, hm⟩
theorem array12 {α : Type} {cs : Array α} (h : cs.size = 12) : ∃ a b c d e f g i j k l m, cs = #[a, b, c, d, e, f, g, i, j, k, l, m] := by
  obtain ⟨x⟩ := cs
  match x, h with
  | [a, b, c, d, e, f, g, i, j, k, l, m], _ => exact ⟨a, b, c, d, e, f, g, i, j, k, l, m, rfl⟩
set_option maxRecDepth 100000 in
/-- A text that came in: fount, rules, words. -/
theorem open_text {W : World} {v : Value} {d : DataW H} {ps : List MemPlace} (hval : Value.okWide Tryz.prog W .any 0 29 v) (h : DataW.Trod enc Tryz.prog W 0 (fun _ => true) true 29 v d ps) :
    ∃ (f : Fnt) (vs : Value) (r : Rls) (ws : List PWord) (vw : Value), v = .agg (xcs f vs r vw) ∧ SoV W f.sorts vs ∧ f.name.size ≤ 9223372036854775807 ∧ WoV W ws vw := by
  have hC : Tryz.prog.cellsOf 29 = 12 := by kernel_rfl
  have c24 : Tryz.prog.cellsOf 24 = 3 := by kernel_rfl
  have c26 : Tryz.prog.cellsOf 26 = 8 := by kernel_rfl
  have c27 : Tryz.prog.cellsOf 27 = 1 := by kernel_rfl
  have c22 : Tryz.prog.cellsOf 22 = 1 := by kernel_rfl
  have c9 : Tryz.prog.cellsOf 9 = 1 := by kernel_rfl
  have c3 : Tryz.prog.cellsOf 3 = 1 := by kernel_rfl
  obtain ⟨cs, rfl, hsz⟩ := okWide_struct Tryz.underlying29 hval
  obtain ⟨u0, u1, u2, u3, u4, u5, u6, u7, u8, u9, u10, u11, rfl⟩ := array12 (hsz.trans hC)
  obtain ⟨fuel, hf⟩ := h
  obtain ⟨ys, n', _, _, _, hyl, hf'⟩ := DataW.trod_struct Tryz.underlying29 hf
  have f0 := hf' 0 _ rfl
  have f1 := hf' 1 _ rfl
  have f2 := hf' 2 _ rfl
  rw [List.getElem?_eq_getElem (by rw [hyl]; decide)] at f0 f1 f2
  clear hf hf' hval hsz hC
  have e0 : (((Value.agg #[u0, u1, u2, u3, u4, u5, u6, u7, u8, u9, u10, u11]).cells.toList).drop 0).take (Tryz.prog.cellsOf 24) = [u0, u1, u2] := by rw [c24]; rfl
  have e1 : (((Value.agg #[u0, u1, u2, u3, u4, u5, u6, u7, u8, u9, u10, u11]).cells.toList).drop 3).take (Tryz.prog.cellsOf 26) = [u3, u4, u5, u6, u7, u8, u9, u10] := by rw [c26]; rfl
  obtain ⟨k0, g0⟩ : ∃ y, DataW.trod enc Tryz.prog W 0 (fun _ => true) true n' 24 [u0, u1, u2] = some y := ⟨_, by rw [← e0]; exact f0⟩
  obtain ⟨k1, g1⟩ : ∃ y, DataW.trod enc Tryz.prog W 0 (fun _ => true) true n' 26 [u3, u4, u5, u6, u7, u8, u9, u10] = some y := ⟨_, by rw [← e1]; exact f1⟩
  have g2 := trod_field (l := (Value.agg #[u0, u1, u2, u3, u4, u5, u6, u7, u8, u9, u10, u11]).cells.toList) (i := 11) (t := 27) (x := u11) c27 rfl f2
  clear e0 e1 f0 f1 f2
  obtain ⟨zs, m0, _, _, _, hzl, hz⟩ := DataW.trod_struct Tryz.underlying24 g0
  obtain ⟨qs, m1, _, _, _, hql, hq⟩ := DataW.trod_struct Tryz.underlying26 g1
  obtain ⟨ws, hw⟩ := open_words g2
  have z0 := hz 0 _ rfl
  have z1 := hz 1 _ rfl
  have z2 := hz 2 _ rfl
  rw [List.getElem?_eq_getElem (by rw [hzl]; decide)] at z0 z1 z2
  have q0 := hq 0 _ rfl
  have q1 := hq 1 _ rfl
  have q2 := hq 2 _ rfl
  have q3 := hq 3 _ rfl
  have q4 := hq 4 _ rfl
  have q5 := hq 5 _ rfl
  have q6 := hq 6 _ rfl
  have q7 := hq 7 _ rfl
  rw [List.getElem?_eq_getElem (by rw [hql]; decide)] at q0 q1 q2 q3 q4 q5 q6 q7
  clear hz hq
  obtain ⟨x0, hx0, _, n0⟩ := DataW.trod_string Tryz.underlying9 (trod_field (l := [u0, u1, u2]) (i := 0) (t := 9) c9 rfl z0)
  obtain ⟨x1, hx1, _, _⟩ := DataW.trod_int Tryz.underlying3 (trod_field (l := [u0, u1, u2]) (i := 1) (t := 3) c3 rfl z1)
  obtain ⟨l, hl⟩ := open_sorts (trod_field (l := [u0, u1, u2]) (i := 2) (t := 22) c22 rfl z2)
  obtain ⟨y0, hy0, _, _⟩ := DataW.trod_int Tryz.underlying3 (trod_field (l := [u3, u4, u5, u6, u7, u8, u9, u10]) (i := 0) (t := 3) c3 rfl q0)
  obtain ⟨y1, hy1, _, _⟩ := DataW.trod_int Tryz.underlying3 (trod_field (l := [u3, u4, u5, u6, u7, u8, u9, u10]) (i := 1) (t := 3) c3 rfl q1)
  obtain ⟨y2, hy2, _, _⟩ := DataW.trod_int Tryz.underlying3 (trod_field (l := [u3, u4, u5, u6, u7, u8, u9, u10]) (i := 2) (t := 3) c3 rfl q2)
  obtain ⟨y3, hy3, _, _⟩ := DataW.trod_int Tryz.underlying3 (trod_field (l := [u3, u4, u5, u6, u7, u8, u9, u10]) (i := 3) (t := 3) c3 rfl q3)
  obtain ⟨y4, hy4, _, _⟩ := DataW.trod_int Tryz.underlying3 (trod_field (l := [u3, u4, u5, u6, u7, u8, u9, u10]) (i := 4) (t := 3) c3 rfl q4)
  obtain ⟨y5, hy5, _, _⟩ := DataW.trod_int Tryz.underlying3 (trod_field (l := [u3, u4, u5, u6, u7, u8, u9, u10]) (i := 5) (t := 3) c3 rfl q5)
  obtain ⟨y6, hy6, _, _⟩ := DataW.trod_int Tryz.underlying3 (trod_field (l := [u3, u4, u5, u6, u7, u8, u9, u10]) (i := 6) (t := 3) c3 rfl q6)
  obtain ⟨y7, hy7, _, _⟩ := DataW.trod_int Tryz.underlying3 (trod_field (l := [u3, u4, u5, u6, u7, u8, u9, u10]) (i := 7) (t := 3) c3 rfl q7)
  simp only [List.cons.injEq, and_true] at hx0 hx1 hy0 hy1 hy2 hy3 hy4 hy5 hy6 hy7
  subst hx0 hx1 hy0 hy1 hy2 hy3 hy4 hy5 hy6 hy7
  exact ⟨⟨x0, x1, l⟩, u2, ⟨y0, y1, y2, y3, y4, y5, y6, y7⟩, ws, u11, rfl, hl, n0, hw⟩
end
end Go.Proofs.YtbnganlfelgogaaGreat
