/- The rows' frame: the arguments opened; what reads as it did where nothing below the old memory has turned. -/
import Derived.Test.YtlfeoofchebbkaaRows
import Derived.Test.YtlfeoofchebbkaaFil
import Derived.ProofKit
import Derived.ChangeOld
import Derived.Carry
import Derived.Deep.Slices
namespace Go.Proofs.Ytlfeoofchebbkaa
set_option linter.unusedSimpArgs false
set_option linter.unusedVariables false
open Go.ChangeShapes Go.WideShapes Go.ChangeAt Go.RowKit Go.Deep
theorem Try.own : ownKnob Try.prog.godebug = none := by kernel_rfl
theorem Try.laidOut : laidOutB Try.prog = true := by kernel_rfl
section
variable {H : Type} {enc : TypeId × Value → H}
theorem trodAll_below {P : Program} (hl : laidOutB P = true) {W W' : World} (hb : Below W.heap.size W W') : ∀ {ts : List TypeId} {vs : List Value} {ds : List (DataW H)} {ps : List MemPlace},
    (ts.all fun t => P.readableRec t && decide (t < P.types.size)) = true → (∀ x ∈ ps, x.block < W.heap.size) → DataW.TrodAll enc P W 0 (fun _ => true) true ts vs ds ps → DataW.TrodAll enc P W' 0 (fun b => decide (b < W.heap.size)) true ts vs ds ps
  | [], [], [], _, _, _, h => h
  | [], _ :: _, _, _, _, _, h => h.elim
  | [], [], _ :: _, _, _, _, h => h.elim
  | _ :: _, [], _, _, _, _, h => h.elim
  | _ :: _, _ :: _, [], _, _, _, h => h.elim
  | t :: ts, v :: vs, d :: ds, ps, hr, hlt, h => by
    obtain ⟨p, q, h1, h2, rfl⟩ := h
    simp only [List.all_cons, Bool.and_eq_true, decide_eq_true_eq] at hr
    exact ⟨p, q, Below.trod hl hr.1.1 hr.1.2 h1 hb (fun x hx => hlt x (by simp [hx])), trodAll_below hl hb (by simpa using hr.2) (fun x hx => hlt x (by simp [hx])) h2, rfl⟩
/-- The last step of a law that returns true and turns nothing that was there. -/
theorem law_post {P : Program} {f : Func} {s : ChangeSpec} {W W' : World} {args : Array Value} {ds gs : List (DataW H)} {before : List MemPlace} (hl : laidOutB P = true) (hvars : s.vars = []) (hrt : f.resultTypes = #[4]) (hu : P.underlying 4 = some .bool)
    (hts : (f.params.toList.all fun t => P.readableRec t && decide (t < P.types.size)) = true) (hfn : s.fn H (ds ++ gs) = { results := [.lit (.bool true)], args := ds })
    (hW : DataW.Whole enc P f.params.toList s.vars false W args.toList ds gs before) (hb : Below W.heap.size W W') : s.post enc P f false true false false W args (.bool true) W' := by
  have hlt : ∀ p ∈ before, p.block < W.heap.size := fun p hp => hW.lt p hp
  have hW2 := hW
  obtain ⟨p, q, hA, hV, rfl, hz, hn⟩ := hW
  rw [hvars] at hV
  obtain ⟨rfl, rfl⟩ := trodVars_none hV
  refine ⟨ds, [], p ++ [], [], p, [], hW2, ?_, ?_, ?_, World.keptBut_mono (fun x hx => ⟨hx, Or.inr (Or.inl (by simpa using hx))⟩) (hb.frame (· ∈ p ++ [])), fun h => by cases h⟩
  · rw [hrt, hfn]
    exact trodAll_mk1 ⟨1, by simp [DataW.trod, Value.cells, hu]⟩
  · rw [hfn]
    exact trodAll_below hl hb hts (fun x hx => hlt x (by simpa using hx)) hA
  · rw [hvars, hfn]
    rfl
theorem cells_lt {w : World} {base : Nat} {a : Addr} {n : Nat} {cs : List Value} (h : w.cells? base a n = some cs) (hn : 0 < n) : ∃ b off, a = ⟨b, off, none⟩ ∧ b < w.heap.size := by
  obtain ⟨_, hl, hc⟩ := World.cells?_some h
  have h0 := hc 0 hn
  rw [List.getElem?_eq_getElem (by omega)] at h0
  have hs := World.cell?_spot h0
  obtain ⟨b, off, sp⟩ := a
  exact ⟨b, off, by simp [Addr.add] at hs; rw [hs], World.cells?_block h hn⟩
set_option maxRecDepth 100000 in
/-- A slice of numbers that came in. -/
theorem open_zs {W : World} {v : Value} {d : DataW H} {ps : List MemPlace} (hval : Value.okWide Try.prog W .any 0 23 v) (h : DataW.Trod enc Try.prog W 0 (fun _ => true) true 23 v d ps) :
    ∃ A zs c b off, v = .slice A zs.length c ∧ Lies A zs.length W.heap.size b off ∧ ZsAt W b off zs ∧ zs.length ≤ c ∧ c ≤ maxLen := by
  obtain ⟨A0, len, cap, rfl⟩ := okWide_slice Try.underlying23 hval
  obtain ⟨fuel, hf⟩ := h
  rcases open_ints (k := .i64) Try.underlying23 Try.underlying3 (by kernel_rfl) hf with ⟨hv, _⟩ | ⟨a, len1, cap1, zs, hv, _, hl, hm, hlen, _, hc, _⟩
  · simp [Value.cells] at hv
    obtain ⟨rfl, rfl, rfl⟩ := hv
    exact ⟨none, [], 0, 0, 0, rfl, fun h => absurd h (Nat.lt_irrefl _), fun j hj => absurd hj (Nat.not_lt_zero _), Nat.le_refl _, Nat.zero_le _⟩
  · simp [Value.cells] at hv
    obtain ⟨rfl, rfl, rfl⟩ := hv
    have hlen' : zs.length = cap := by simpa using hlen
    have e : (zs.take len).length = len := by rw [List.length_take]; omega
    by_cases h0 : len = 0
    · subst h0
      exact ⟨some a, [], cap, 0, 0, rfl, fun h => absurd h (Nat.lt_irrefl _), fun j hj => absurd hj (Nat.not_lt_zero _), Nat.zero_le _, hm⟩
    · have hs := World.cell?_spot (hc 0 (by omega))
      obtain ⟨b, off, sp⟩ := a
      simp [Addr.add] at hs
      subst hs
      refine ⟨some ⟨b, off, none⟩, zs.take len, cap, b, off, by rw [e], fun _ => ⟨rfl, ?_⟩, fun j hj => ?_, by rw [e]; exact hl, hm⟩
      · have hx := hc 0 (by omega)
        have hy : (⟨b, off, none⟩ : Addr).add 0 = ⟨b, off, none⟩ := rfl
        rw [hy] at hx
        exact block_lt_of_cell hx
      · have hx := hc j (by omega)
        have hy : (⟨b, off, none⟩ : Addr).add j = ⟨b, off + j, none⟩ := by unfold Addr.add; split <;> simp_all
        rw [hy] at hx
        have hg : gz (zs.take len) j = zs.getD j 0 := by
          rw [gz, List.getD_eq_getElem?_getD, List.getD_eq_getElem?_getD, List.getElem?_take, if_pos (by omega)]
        rw [hx, hg]
/-- What a cell holds, as a number. -/
def numC : Option Value → Int
  | some (.int _ n) => n
  | _ => 0
set_option maxRecDepth 100000 in
/-- A stock that came in. -/
theorem open_fs {W : World} {v : Value} {d : DataW H} {ps : List MemPlace} (hval : Value.okWide Try.prog W .any 0 22 v) (h : DataW.Trod enc Try.prog W 0 (fun _ => true) true 22 v d ps) :
    ∃ A l c b off, v = .slice A (l : List (Int × Int)).length c ∧ Lies A l.length W.heap.size b off ∧ FsAt W b off l ∧ l.length ≤ c ∧ c ≤ maxLen := by
  obtain ⟨A0, len, cap, rfl⟩ := okWide_slice Try.underlying22 hval
  obtain ⟨fuel, hf⟩ := h
  rcases open_slice Try.underlying22 hf with ⟨hv, _⟩ | ⟨a, len1, cap1, m, n, D, Pl, hv, _, hl, hm, hmm, _, hi⟩
  · simp [Value.cells] at hv
    obtain ⟨rfl, rfl, rfl⟩ := hv
    exact ⟨none, [], 0, 0, 0, rfl, fun h => absurd h (Nat.lt_irrefl _), fun j hj => absurd hj (Nat.not_lt_zero _), Nat.le_refl _, Nat.zero_le _⟩
  · simp [Value.cells] at hv
    obtain ⟨rfl, rfl, rfl⟩ := hv
    have hmc : m = cap := by simpa using hmm
    have hC : Try.prog.cellsOf 85 = 2 := by kernel_rfl
    rw [hC] at hi
    by_cases h0 : len = 0
    · subst h0
      exact ⟨some a, [], cap, 0, 0, rfl, fun h => absurd h (Nat.lt_irrefl _), fun j hj => absurd hj (Nat.not_lt_zero _), Nat.zero_le _, hm⟩
    · obtain ⟨cs0, hc0, _⟩ := hi 0 (by omega)
      obtain ⟨b, off, he, hlt⟩ := cells_lt hc0 (by omega)
      have he' : a = ⟨b, off, none⟩ := by
        obtain ⟨b', off', sp'⟩ := a
        simpa [Addr.add] using he
      subst he'
      have hel : ∀ i, i < len → ∃ x y, W.cell? ⟨b, off + i * 2, none⟩ = some (.int .i64 x) ∧ W.cell? ⟨b, off + i * 2 + 1, none⟩ = some (.int .i64 y) := fun i hi' => by
        obtain ⟨cs, hc, ht⟩ := hi i (by omega)
        obtain ⟨ys, n', _, _, hlen, hyl, hf'⟩ := DataW.trod_struct Try.underlying85 ht
        obtain ⟨_, hcl, hat⟩ := World.cells?_some hc
        have hadd : ∀ j, ((⟨b, off, none⟩ : Addr).add (i * 2)).add j = ⟨b, off + i * 2 + j, none⟩ := fun j => by
          unfold Addr.add; split <;> split <;> simp_all
        have f0 := hf' 0 _ rfl
        have f1 := hf' 1 _ rfl
        have c3 : Try.prog.cellsOf 3 = 1 := by kernel_rfl
        rw [List.getElem?_eq_getElem (by rw [hyl]; decide)] at f0 f1
        obtain ⟨x, hx, _, _⟩ := DataW.trod_int Try.underlying3 f0
        obtain ⟨y, hy, _, _⟩ := DataW.trod_int Try.underlying3 f1
        have g0 := hat 0 (by omega)
        have g1 := hat 1 (by omega)
        rw [hadd] at g0 g1
        have k0 : cs[0]? = some (.int .i64 x) := by
          have := congrArg (fun l : List Value => l[0]?) hx
          simpa [List.getElem?_take, List.getElem?_drop, c3] using this
        have k1 : cs[1]? = some (.int .i64 y) := by
          have := congrArg (fun l : List Value => l[0]?) hy
          simpa [List.getElem?_take, List.getElem?_drop, c3] using this
        exact ⟨x, y, by simpa using g0.trans k0, g1.trans k1⟩
      let l : List (Int × Int) := (List.range len).map fun i => (numC (W.cell? ⟨b, off + i * 2, none⟩), numC (W.cell? ⟨b, off + i * 2 + 1, none⟩))
      have e : l.length = len := by simp [l]
      refine ⟨some ⟨b, off, none⟩, l, cap, b, off, by rw [e], fun _ => ⟨rfl, hlt⟩, fun j hj => ?_, by rw [e]; exact hl, hm⟩
      obtain ⟨x, y, hx, hy⟩ := hel j (by omega)
      have hg : gf l j = (x, y) := by
        have hjl : j < len := by omega
        rw [gf, List.getD_eq_getElem?_getD]
        simp only [l, List.getElem?_map, List.getElem?_range hjl, Option.map_some, Option.getD_some, hx, hy]
        rfl
      rw [hg]
      exact ⟨hx, hy⟩
end
end Go.Proofs.Ytlfeoofchebbkaa
