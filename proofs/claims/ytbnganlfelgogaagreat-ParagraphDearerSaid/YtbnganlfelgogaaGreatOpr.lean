/- Openers: numbers, sorts that came in. -/
import Derived.Test.YtbnganlfelgogaaGreatRows
import Derived.Test.YtbnganlfelgogaaGreatLwd
import Derived.ProofKit
import Derived.ChangeOld
import Derived.Carry
import Derived.Deep.Slices
import Derived.Lib.SmallJoins
namespace Go.Proofs.YtbnganlfelgogaaGreat
set_option linter.unusedSimpArgs false
set_option linter.unusedVariables false
open Go.ChangeShapes Go.WideShapes Go.ChangeAt Go.RowKit Go.Deep Go.Joins
theorem Tryz.own : ownKnob Tryz.prog.godebug = none := by kernel_rfl
theorem Tryz.laidOut : laidOutB Tryz.prog = true := by kernel_rfl
section
variable {H : Type} {enc : TypeId × Value → H}
theorem trodAll_below {P : Program} (hl : laidOutB P = true) {W W' : World} (hb : Below W.heap.size W W') : ∀ {ts : List TypeId} {vs : List Value} {ds : List (DataW H)} {ps : List MemPlace},
    (ts.all fun t => P.readableRec t && decide (t < P.types.size)) = true → (∀ x ∈ ps, x.block < W.heap.size) → DataW.TrodAll enc P W 0 (fun _ => true) true ts vs ds ps → DataW.TrodAll enc P W' 0 (fun b => decide (b < W.heap.size)) true ts vs ds ps
  | [], [], [], _, _, _, h => h
  | [], _ :: _, _, _, _, _, h => h.elim
  | [], [], _ :: _, _, _, _, h => h.elim
  | _ :: _, [], _, _, _, _, h => h.elim
  | _ :: _, _ :: _, [], _, _, _, h => h.elim
  | t :: ts, v :: vs, d :: ds, ps, hr, hlt, h => by
    obtain ⟨p, q, h1, h2, rfl⟩ := h
    simp only [List.all_cons, Bool.and_eq_true, decide_eq_true_eq] at hr
    exact ⟨p, q, Below.trod hl hr.1.1 hr.1.2 h1 hb (fun x hx => hlt x (by simp [hx])), trodAll_below hl hb (by simpa using hr.2) (fun x hx => hlt x (by simp [hx])) h2, rfl⟩
/-- The last step of a law that returns true and turns nothing that was there. -/
theorem law_post {P : Program} {f : Func} {s : ChangeSpec} {W W' : World} {args : Array Value} {ds gs : List (DataW H)} {before : List MemPlace} (hl : laidOutB P = true) (hvars : s.vars = []) (hrt : f.resultTypes = #[4]) (hu : P.underlying 4 = some .bool)
    (hts : (f.params.toList.all fun t => P.readableRec t && decide (t < P.types.size)) = true) (hfn : s.fn H (ds ++ gs) = { results := [.lit (.bool true)], args := ds })
    (hW : DataW.Whole enc P f.params.toList s.vars false W args.toList ds gs before) (hb : Below W.heap.size W W') : s.post enc P f false true false false W args (.bool true) W' := by
  have hlt : ∀ p ∈ before, p.block < W.heap.size := fun p hp => hW.lt p hp
  have hW2 := hW
  obtain ⟨p, q, hA, hV, rfl, hz, hn⟩ := hW
  rw [hvars] at hV
  obtain ⟨rfl, rfl⟩ := trodVars_none hV
  refine ⟨ds, [], p ++ [], [], p, [], hW2, ?_, ?_, ?_, World.keptBut_mono (fun x hx => ⟨hx, Or.inr (Or.inl (by simpa using hx))⟩) (hb.frame (· ∈ p ++ [])), fun h => by cases h⟩
  · rw [hrt, hfn]
    exact trodAll_mk1 ⟨1, by simp [DataW.trod, Value.cells, hu]⟩
  · rw [hfn]
    exact trodAll_below hl hb hts (fun x hx => hlt x (by simpa using hx)) hA
  · rw [hvars, hfn]
    rfl
theorem cells_lt {w : World} {base : Nat} {a : Addr} {n : Nat} {cs : List Value} (h : w.cells? base a n = some cs) (hn : 0 < n) : ∃ b off, a = ⟨b, off, none⟩ ∧ b < w.heap.size := by
  obtain ⟨_, hl, hc⟩ := World.cells?_some h
  have h0 := hc 0 hn
  rw [List.getElem?_eq_getElem (by omega)] at h0
  have hs := World.cell?_spot h0
  obtain ⟨b, off, sp⟩ := a
  exact ⟨b, off, by simp [Addr.add] at hs; rw [hs], World.cells?_block h hn⟩
theorem list_of {α : Type} [Inhabited α] (n : Nat) {P : Nat → α → Prop} (h : ∀ i, i < n → ∃ x, P i x) : ∃ l : List α, l.length = n ∧ ∀ i, i < n → P i (l.getD i default) := by
  induction n with
  | zero => exact ⟨[], rfl, fun i hi => absurd hi (Nat.not_lt_zero _)⟩
  | succ n ih =>
    obtain ⟨l, hl, hp⟩ := ih fun i hi => h i (by omega)
    obtain ⟨x, hx⟩ := h n (by omega)
    refine ⟨l ++ [x], by simp [hl], fun i hi => ?_⟩
    rcases Nat.lt_or_ge i n with hlt | hge
    · have := hp i hlt
      rw [List.getD_eq_getElem?_getD] at this ⊢
      rwa [List.getElem?_append_left (by omega)]
    · have e : i = n := by omega
      subst e
      rw [List.getD_eq_getElem?_getD, List.getElem?_append_right (by omega), hl]
      simpa using hx
set_option maxRecDepth 100000 in
/-- A slice of numbers that came in. -/
theorem open_zs' {W : World} {v : Value} {n : Nat} {x : DataW H × List MemPlace} (hf : DataW.trod enc Tryz.prog W 0 (fun _ => true) true n 34 [v] = some x) : ∃ zs, IV W zs v := by
  rcases open_ints (k := .i64) Tryz.underlying34 Tryz.underlying3 (by kernel_rfl) hf with ⟨hv, _⟩ | ⟨a, len1, cap1, zs, hv, _, hl, hm, hlen, _, hc, _⟩
  · simp at hv
    subst hv
    exact ⟨[], IV.nil W⟩
  · simp at hv
    subst hv
    have hlen' : zs.length = cap1 := by simpa using hlen
    have e : (zs.take len1).length = len1 := by rw [List.length_take]; omega
    by_cases h0 : len1 = 0
    · subst h0
      exact ⟨[], IV.mk (A := some a) (b := 0) (off := 0) (c := cap1) (fun h => absurd h (Nat.lt_irrefl _)) (fun j hj => absurd hj (Nat.not_lt_zero _)) (Nat.zero_le _) hm⟩
    · have hs := World.cell?_spot (hc 0 (by omega))
      obtain ⟨b, off, sp⟩ := a
      simp [Addr.add] at hs
      subst hs
      refine ⟨zs.take len1, ?_⟩
      have k := IV.mk (W := W) (zs := zs.take len1) (A := some ⟨b, off, none⟩) (b := b) (off := off) (c := cap1) (fun _ => ⟨rfl, ?_⟩) (fun j hj => ?_) (by rw [e]; exact hl) hm
      · rwa [e] at k
      · have hx := hc 0 (by omega)
        have hy : (⟨b, off, none⟩ : Addr).add 0 = ⟨b, off, none⟩ := rfl
        rw [hy] at hx
        exact block_lt_of_cell hx
      · have hx := hc j (by omega)
        have hy : (⟨b, off, none⟩ : Addr).add j = ⟨b, off + j, none⟩ := by unfold Addr.add; split <;> simp_all
        rw [hy] at hx
        have hg : gz (zs.take len1) j = zs.getD j 0 := by
          rw [gz, List.getD_eq_getElem?_getD, List.getD_eq_getElem?_getD, List.getElem?_take, if_pos (by omega)]
        rw [hx, hg]
theorem add_mul (b off i n j : Nat) : ((⟨b, off, none⟩ : Addr).add (i * n)).add j = ⟨b, off + i * n + j, none⟩ := by
  unfold Addr.add; split <;> split <;> simp_all
set_option maxRecDepth 100000 in
/-- Sorts that came in. -/
theorem open_sorts {W : World} {v : Value} {n : Nat} {x : DataW H × List MemPlace} (hf : DataW.trod enc Tryz.prog W 0 (fun _ => true) true n 22 [v] = some x) : ∃ l, SoV W l v := by
  rcases open_slice Tryz.underlying22 hf with ⟨hv, _⟩ | ⟨a, len, cap, m, n, D, Pl, hv, _, hl, hm, hmm, _, hi⟩
  · simp at hv
    subst hv
    exact ⟨[], none, 0, 0, 0, rfl, fun h => absurd h (Nat.lt_irrefl _), fun j hj => absurd hj (Nat.not_lt_zero _), Nat.le_refl _, Nat.zero_le _, fun j hj => absurd hj (Nat.not_lt_zero _)⟩
  · simp at hv
    subst hv
    have hmc : m = cap := by simpa using hmm
    have hC : Tryz.prog.cellsOf 145 = 4 := by kernel_rfl
    rw [hC] at hi
    by_cases h0 : len = 0
    · subst h0
      exact ⟨[], some a, 0, 0, cap, rfl, fun h => absurd h (Nat.lt_irrefl _), fun j hj => absurd hj (Nat.not_lt_zero _), Nat.zero_le _, hm, fun j hj => absurd hj (Nat.not_lt_zero _)⟩
    · obtain ⟨cs0, hc0, _⟩ := hi 0 (by omega)
      obtain ⟨b, off, he, hlt⟩ := cells_lt hc0 (by omega)
      have he' : a = ⟨b, off, none⟩ := by
        obtain ⟨b', off', sp'⟩ := a
        simpa [Addr.add] using he
      subst he'
      have hel : ∀ i, i < len → ∃ p : TSort, SAt W b (off + i * 4) p ∧ p.name.size ≤ 9223372036854775807 ∧ p.text.size ≤ 9223372036854775807 := fun i hi' => by
        obtain ⟨cs, hc, ht⟩ := hi i (by omega)
        obtain ⟨ys, n', _, _, hlen, hyl, hf'⟩ := DataW.trod_struct Tryz.underlying145 ht
        obtain ⟨_, hcl, hat⟩ := World.cells?_some hc
        have f0 := hf' 0 _ rfl
        have f1 := hf' 1 _ rfl
        have f2 := hf' 2 _ rfl
        have f3 := hf' 3 _ rfl
        have c3 : Tryz.prog.cellsOf 3 = 1 := by kernel_rfl
        have c9 : Tryz.prog.cellsOf 9 = 1 := by kernel_rfl
        rw [List.getElem?_eq_getElem (by rw [hyl]; decide)] at f0 f1 f2 f3
        obtain ⟨x0, hx0, _, z0⟩ := DataW.trod_string Tryz.underlying9 f0
        obtain ⟨x1, hx1, _, z1⟩ := DataW.trod_string Tryz.underlying9 f1
        obtain ⟨x2, hx2, _, _⟩ := DataW.trod_int Tryz.underlying3 f2
        obtain ⟨x3, hx3, _, _⟩ := DataW.trod_int Tryz.underlying3 f3
        have g := fun j (hj : j < 4) => hat j hj
        simp only [add_mul] at g
        have k0 : cs[0]? = some (.string x0) := by
          have := congrArg (fun l : List Value => l[0]?) hx0
          simpa [List.getElem?_take, List.getElem?_drop, c9] using this
        have k1 : cs[1]? = some (.string x1) := by
          have := congrArg (fun l : List Value => l[0]?) hx1
          simpa [List.getElem?_take, List.getElem?_drop, c9] using this
        have k2 : cs[2]? = some (.int .i64 x2) := by
          have := congrArg (fun l : List Value => l[0]?) hx2
          simpa [List.getElem?_take, List.getElem?_drop, c3] using this
        have k3 : cs[3]? = some (.int .i64 x3) := by
          have := congrArg (fun l : List Value => l[0]?) hx3
          simpa [List.getElem?_take, List.getElem?_drop, c3] using this
        exact ⟨⟨x0, x1, x2, x3⟩, ⟨by simpa using (g 0 (by omega)).trans k0, (g 1 (by omega)).trans k1, (g 2 (by omega)).trans k2, (g 3 (by omega)).trans k3⟩, z0, z1⟩
      obtain ⟨l, e, hall⟩ := list_of len hel
      refine ⟨l, some ⟨b, off, none⟩, b, off, cap, by rw [e], fun _ => ⟨rfl, hlt⟩, fun j hj => (hall j (by omega)).1, by rw [e]; exact hl, hm, fun j hj => (hall j (by omega)).2⟩
theorem trod_field {W : World} {n i : Nat} {t : TypeId} {l : List Value} {x : Value} {y : DataW H × List MemPlace} (hc : Tryz.prog.cellsOf t = 1) (hl : l[i]? = some x)
    (h : DataW.trod enc Tryz.prog W 0 (fun _ => true) true n t ((l.drop i).take (Tryz.prog.cellsOf t)) = some y) : DataW.trod enc Tryz.prog W 0 (fun _ => true) true n t [x] = some y := by
  rw [hc] at h
  obtain ⟨hi, hx⟩ := List.getElem?_eq_some_iff.1 hl
  rw [List.drop_eq_getElem_cons hi, hx] at h
  exact h
end
end Go.Proofs.YtbnganlfelgogaaGreat
