/- The arguments of the laws of formes, opened. -/
import Derived.Test.YtlfeoofchebbkaaFrm
import Derived.Lib.SmallJoins
namespace Go.Proofs.Ytlfeoofchebbkaa
set_option linter.unusedSimpArgs false
set_option linter.unusedVariables false
open Go.ChangeShapes Go.WideShapes Go.ChangeAt Go.RowKit Go.Deep Go.Joins
section
variable {H : Type} {enc : TypeId × Value → H}
def strC : Option Value → ByteArray
  | some (.string s) => s
  | _ => ⟨#[]⟩
set_option maxRecDepth 100000 in
theorem open_zs' {W : World} {v : Value} {n : Nat} {x : DataW H × List MemPlace} (hf : DataW.trod enc Try.prog W 0 (fun _ => true) true n 23 [v] = some x) :
    ∃ A zs c b off, v = .slice A (zs : List Int).length c ∧ Lies A zs.length W.heap.size b off ∧ ZsAt W b off zs ∧ zs.length ≤ c ∧ c ≤ maxLen := by
  rcases open_ints (k := .i64) Try.underlying23 Try.underlying3 (by kernel_rfl) hf with ⟨hv, _⟩ | ⟨a, len1, cap1, zs, hv, _, hl, hm, hlen, _, hc, _⟩
  · simp at hv
    subst hv
    exact ⟨none, [], 0, 0, 0, rfl, fun h => absurd h (Nat.lt_irrefl _), fun j hj => absurd hj (Nat.not_lt_zero _), Nat.le_refl _, Nat.zero_le _⟩
  · simp at hv
    subst hv
    have hlen' : zs.length = cap1 := by simpa using hlen
    have e : (zs.take len1).length = len1 := by rw [List.length_take]; omega
    by_cases h0 : len1 = 0
    · subst h0
      exact ⟨some a, [], cap1, 0, 0, rfl, fun h => absurd h (Nat.lt_irrefl _), fun j hj => absurd hj (Nat.not_lt_zero _), Nat.zero_le _, hm⟩
    · have hs := World.cell?_spot (hc 0 (by omega))
      obtain ⟨b, off, sp⟩ := a
      simp [Addr.add] at hs
      subst hs
      refine ⟨some ⟨b, off, none⟩, zs.take len1, cap1, b, off, by rw [e], fun _ => ⟨rfl, ?_⟩, fun j hj => ?_, by rw [e]; exact hl, hm⟩
      · have hx := hc 0 (by omega)
        have hy : (⟨b, off, none⟩ : Addr).add 0 = ⟨b, off, none⟩ := rfl
        rw [hy] at hx
        exact block_lt_of_cell hx
      · have hx := hc j (by omega)
        have hy : (⟨b, off, none⟩ : Addr).add j = ⟨b, off + j, none⟩ := by unfold Addr.add; split <;> simp_all
        rw [hy] at hx
        have hg : gz (zs.take len1) j = zs.getD j 0 := by
          rw [gz, List.getD_eq_getElem?_getD, List.getD_eq_getElem?_getD, List.getElem?_take, if_pos (by omega)]
        rw [hx, hg]
set_option maxRecDepth 100000 in
theorem open_ps' {W : World} {v : Value} {n : Nat} {x : DataW H × List MemPlace} (hf : DataW.trod enc Try.prog W 0 (fun _ => true) true n 35 [v] = some x) :
    ∃ A ps c b off, v = .slice A (ps : List Piece).length c ∧ Lies A ps.length W.heap.size b off ∧ PsAt W b off ps ∧ ps.length ≤ c ∧ c ≤ maxLen := by
  rcases open_slice Try.underlying35 hf with ⟨hv, _⟩ | ⟨a, len, cap, m, n, D, Pl, hv, _, hl, hm, hmm, _, hi⟩
  · simp at hv
    subst hv
    exact ⟨none, [], 0, 0, 0, rfl, fun h => absurd h (Nat.lt_irrefl _), fun j hj => absurd hj (Nat.not_lt_zero _), Nat.le_refl _, Nat.zero_le _⟩
  · simp at hv
    subst hv
    have hmc : m = cap := by simpa using hmm
    have hC : Try.prog.cellsOf 70 = 6 := by kernel_rfl
    rw [hC] at hi
    by_cases h0 : len = 0
    · subst h0
      exact ⟨some a, [], cap, 0, 0, rfl, fun h => absurd h (Nat.lt_irrefl _), fun j hj => absurd hj (Nat.not_lt_zero _), Nat.zero_le _, hm⟩
    · obtain ⟨cs0, hc0, _⟩ := hi 0 (by omega)
      obtain ⟨b, off, he, hlt⟩ := cells_lt hc0 (by omega)
      have he' : a = ⟨b, off, none⟩ := by
        obtain ⟨b', off', sp'⟩ := a
        simpa [Addr.add] using he
      subst he'
      have hel : ∀ i, i < len → ∃ p : Piece, PAt W b (off + i * 6) p := fun i hi' => by
        obtain ⟨cs, hc, ht⟩ := hi i (by omega)
        obtain ⟨ys, n', _, _, hlen, hyl, hf'⟩ := DataW.trod_struct Try.underlying70 ht
        obtain ⟨_, hcl, hat⟩ := World.cells?_some hc
        have hadd : ∀ j, ((⟨b, off, none⟩ : Addr).add (i * 6)).add j = ⟨b, off + i * 6 + j, none⟩ := fun j => by
          unfold Addr.add; split <;> split <;> simp_all
        have f0 := hf' 0 _ rfl
        have f1 := hf' 1 _ rfl
        have f2 := hf' 2 _ rfl
        have f3 := hf' 3 _ rfl
        have f4 := hf' 4 _ rfl
        have f5 := hf' 5 _ rfl
        have c3 : Try.prog.cellsOf 3 = 1 := by kernel_rfl
        have c9 : Try.prog.cellsOf 9 = 1 := by kernel_rfl
        rw [List.getElem?_eq_getElem (by rw [hyl]; decide)] at f0 f1 f2 f3 f4 f5
        obtain ⟨x0, hx0, _, _⟩ := DataW.trod_string Try.underlying9 f0
        obtain ⟨x1, hx1, _, _⟩ := DataW.trod_int Try.underlying3 f1
        obtain ⟨x2, hx2, _, _⟩ := DataW.trod_int Try.underlying3 f2
        obtain ⟨x3, hx3, _, _⟩ := DataW.trod_int Try.underlying3 f3
        obtain ⟨x4, hx4, _, _⟩ := DataW.trod_int Try.underlying3 f4
        obtain ⟨x5, hx5, _, _⟩ := DataW.trod_int Try.underlying3 f5
        have g := fun j (hj : j < 6) => hat j hj
        simp only [hadd] at g
        have k0 : cs[0]? = some (.string x0) := by
          have := congrArg (fun l : List Value => l[0]?) hx0
          simpa [List.getElem?_take, List.getElem?_drop, c9] using this
        have k1 : cs[1]? = some (.int .i64 x1) := by
          have := congrArg (fun l : List Value => l[0]?) hx1
          simpa [List.getElem?_take, List.getElem?_drop, c3] using this
        have k2 : cs[2]? = some (.int .i64 x2) := by
          have := congrArg (fun l : List Value => l[0]?) hx2
          simpa [List.getElem?_take, List.getElem?_drop, c3] using this
        have k3 : cs[3]? = some (.int .i64 x3) := by
          have := congrArg (fun l : List Value => l[0]?) hx3
          simpa [List.getElem?_take, List.getElem?_drop, c3] using this
        have k4 : cs[4]? = some (.int .i64 x4) := by
          have := congrArg (fun l : List Value => l[0]?) hx4
          simpa [List.getElem?_take, List.getElem?_drop, c3] using this
        have k5 : cs[5]? = some (.int .i64 x5) := by
          have := congrArg (fun l : List Value => l[0]?) hx5
          simpa [List.getElem?_take, List.getElem?_drop, c3] using this
        exact ⟨⟨x0, x1, x2, x3, x4, x5⟩, by simpa using (g 0 (by omega)).trans k0, (g 1 (by omega)).trans k1, (g 2 (by omega)).trans k2, (g 3 (by omega)).trans k3, (g 4 (by omega)).trans k4, (g 5 (by omega)).trans k5⟩
      let ps : List Piece := (List.range len).map fun i => ⟨strC (W.cell? ⟨b, off + i * 6, none⟩), numC (W.cell? ⟨b, off + i * 6 + 1, none⟩), numC (W.cell? ⟨b, off + i * 6 + 2, none⟩), numC (W.cell? ⟨b, off + i * 6 + 3, none⟩), numC (W.cell? ⟨b, off + i * 6 + 4, none⟩), numC (W.cell? ⟨b, off + i * 6 + 5, none⟩)⟩
      have e : ps.length = len := by simp [ps]
      refine ⟨some ⟨b, off, none⟩, ps, cap, b, off, by rw [e], fun _ => ⟨rfl, hlt⟩, fun j hj => ?_, by rw [e]; exact hl, hm⟩
      obtain ⟨p, h0', h1, h2, h3, h4, h5⟩ := hel j (by omega)
      have hg : gp ps j = p := by
        have hjl : j < len := by omega
        rw [gp, List.getD_eq_getElem?_getD]
        simp only [ps, List.getElem?_map, List.getElem?_range hjl, Option.map_some, Option.getD_some, h0', h1, h2, h3, h4, h5]
        rfl
      rw [hg]
      exact ⟨h0', h1, h2, h3, h4, h5⟩
set_option maxRecDepth 100000 in
theorem open_forme {W : World} {v : Value} {d : DataW H} {ps : List MemPlace} (hval : Value.okWide Try.prog W .any 0 37 v) (h : DataW.Trod enc Try.prog W 0 (fun _ => true) true 37 v d ps) :
    ∃ (f : Forme) (A : Option Addr) (c b off : Nat), v = .agg #[.int .i64 f.W, .int .i64 f.H, .slice A f.ps.length c] ∧ Lies A f.ps.length W.heap.size b off ∧ PsAt W b off f.ps ∧ f.ps.length ≤ c ∧ c ≤ maxLen := by
  obtain ⟨v0, v1, v2, y0, y1, y2, n, rfl, _, _, h0, h1, h2⟩ := open_agg3 Try.underlying37 (by kernel_rfl) (by kernel_rfl) hval h
  obtain ⟨x0, hx0, _, _⟩ := DataW.trod_int Try.underlying3 h0
  obtain ⟨x1, hx1, _, _⟩ := DataW.trod_int Try.underlying3 h1
  simp at hx0 hx1
  subst hx0
  subst hx1
  obtain ⟨A, l, c, b, off, rfl, q0, q1, q2, q3⟩ := open_ps' h2
  exact ⟨⟨x0, x1, l⟩, A, c, b, off, rfl, q0, q1, q2, q3⟩
set_option maxRecDepth 100000 in
theorem open_real {W : World} {v : Value} {d : DataW H} {ps : List MemPlace} (hval : Value.okWide Try.prog W .any 0 39 v) (h : DataW.Trod enc Try.prog W 0 (fun _ => true) true 39 v d ps) :
    ∃ (r : Real) (A1 A2 A3 : Option Addr) (c1 b1 o1 c2 b2 o2 c3 b3 o3 : Nat), v = .agg #[.slice A1 r.ws.length c1, .slice A2 r.hs.length c2, .slice A3 r.ts.length c3] ∧ RAt W W.heap.size r A1 A2 A3 b1 o1 b2 o2 b3 o3 ∧
      r.ws.length ≤ c1 ∧ r.hs.length ≤ c2 ∧ r.ts.length ≤ c3 ∧ c1 ≤ maxLen ∧ c2 ≤ maxLen ∧ c3 ≤ maxLen := by
  obtain ⟨v0, v1, v2, y0, y1, y2, n, rfl, _, _, h0, h1, h2⟩ := open_agg3 Try.underlying39 (by kernel_rfl) (by kernel_rfl) hval h
  obtain ⟨A1, l1, c1, b1, o1, rfl, p0, p1, p2, p3⟩ := open_zs' h0
  obtain ⟨A2, l2, c2, b2, o2, rfl, q0, q1, q2, q3⟩ := open_zs' h1
  obtain ⟨A3, l3, c3, b3, o3, rfl, r0, r1, r2, r3⟩ := open_zs' h2
  exact ⟨⟨l1, l2, l3⟩, A1, A2, A3, c1, b1, o1, c2, b2, o2, c3, b3, o3, rfl, ⟨p0, q0, r0, p1, q1, r1⟩, p2, q2, r2, p3, q3, r3⟩
end
end Go.Proofs.Ytlfeoofchebbkaa
