/- FormeLayouts: the row, under its three laid variables, and the tied card. -/
import Derived.Test.YtlfeoofchebbkaaDoorRows
import Derived.Test.YtlfeoofchebbkaaDoorCards
import Derived.Test.YtlfeoofchebbkaaDoorTie
import Derived.Test.YtlfeoofchebbkaaDoorLwl
import Derived.ProofKit
import Derived.ChangeOld
import Derived.ChangeVars
import Derived.Carry
import Derived.Deep.Slices
import Derived.Lib.SmallJoins
import Derived.LaidLaws
import Derived.LaidHandle
import Derived.JoinedOf
import Derived.RowKitTokens
import Derived.SevenTiedAt
namespace Go.Proofs.YtlfeoofchebbkaaDoor
set_option linter.unusedSimpArgs false
set_option linter.unusedVariables false
open Go.ChangeShapes Go.WideShapes Go.ChangeAt Go.RowKit Go.Deep Go.Joins
theorem Tryd.own : ownKnob Tryd.prog.godebug = none := by kernel_rfl
theorem Tryd.laidOut : laidOutB Tryd.prog = true := by kernel_rfl
section
variable {H : Type} {enc : TypeId × Value → H}
theorem trodAll_below {P : Program} (hl : laidOutB P = true) {W W' : World} (hb : Below W.heap.size W W') : ∀ {ts : List TypeId} {vs : List Value} {ds : List (DataW H)} {ps : List MemPlace},
    (ts.all fun t => P.readableRec t && decide (t < P.types.size)) = true → (∀ x ∈ ps, x.block < W.heap.size) → DataW.TrodAll enc P W 0 (fun _ => true) true ts vs ds ps → DataW.TrodAll enc P W' 0 (fun b => decide (b < W.heap.size)) true ts vs ds ps
  | [], [], [], _, _, _, h => h
  | [], _ :: _, _, _, _, _, h => h.elim
  | [], [], _ :: _, _, _, _, h => h.elim
  | _ :: _, [], _, _, _, _, h => h.elim
  | _ :: _, _ :: _, [], _, _, _, h => h.elim
  | t :: ts, v :: vs, d :: ds, ps, hr, hlt, h => by
    obtain ⟨p, q, h1, h2, rfl⟩ := h
    simp only [List.all_cons, Bool.and_eq_true, decide_eq_true_eq] at hr
    exact ⟨p, q, Below.trod hl hr.1.1 hr.1.2 h1 hb (fun x hx => hlt x (by simp [hx])), trodAll_below hl hb (by simpa using hr.2) (fun x hx => hlt x (by simp [hx])) h2, rfl⟩
/-- The last step of a law that returns true and turns nothing that was there. -/
theorem law_post {P : Program} {f : Func} {s : ChangeSpec} {W W' : World} {args : Array Value} {ds gs : List (DataW H)} {before : List MemPlace} (hl : laidOutB P = true) (hvars : s.vars = []) (hrt : f.resultTypes = #[4]) (hu : P.underlying 4 = some .bool)
    (hts : (f.params.toList.all fun t => P.readableRec t && decide (t < P.types.size)) = true) (hfn : s.fn H (ds ++ gs) = { results := [.lit (.bool true)], args := ds })
    (hW : DataW.Whole enc P f.params.toList s.vars false W args.toList ds gs before) (hb : Below W.heap.size W W') : s.post enc P f false true false false W args (.bool true) W' := by
  have hlt : ∀ p ∈ before, p.block < W.heap.size := fun p hp => hW.lt p hp
  have hW2 := hW
  obtain ⟨p, q, hA, hV, rfl, hz, hn⟩ := hW
  rw [hvars] at hV
  obtain ⟨rfl, rfl⟩ := trodVars_none hV
  refine ⟨ds, [], p ++ [], [], p, [], hW2, ?_, ?_, ?_, World.keptBut_mono (fun x hx => ⟨hx, Or.inr (Or.inl (by simpa using hx))⟩) (hb.frame (· ∈ p ++ [])), fun h => by cases h⟩
  · rw [hrt, hfn]
    exact trodAll_mk1 ⟨1, by simp [DataW.trod, Value.cells, hu]⟩
  · rw [hfn]
    exact trodAll_below hl hb hts (fun x hx => hlt x (by simpa using hx)) hA
  · rw [hvars, hfn]
    rfl
theorem cells_lt {w : World} {base : Nat} {a : Addr} {n : Nat} {cs : List Value} (h : w.cells? base a n = some cs) (hn : 0 < n) : ∃ b off, a = ⟨b, off, none⟩ ∧ b < w.heap.size := by
  obtain ⟨_, hl, hc⟩ := World.cells?_some h
  have h0 := hc 0 hn
  rw [List.getElem?_eq_getElem (by omega)] at h0
  have hs := World.cell?_spot h0
  obtain ⟨b, off, sp⟩ := a
  exact ⟨b, off, by simp [Addr.add] at hs; rw [hs], World.cells?_block h hn⟩
set_option maxRecDepth 100000 in
theorem open_zs' {W : World} {v : Value} {n : Nat} {x : DataW H × List MemPlace} (hf : DataW.trod enc Tryd.prog W 0 (fun _ => true) true n 22 [v] = some x) :
    ∃ A zs c b off, v = .slice A (zs : List Int).length c ∧ Lies A zs.length W.heap.size b off ∧ ZsAt W b off zs ∧ zs.length ≤ c ∧ c ≤ maxLen := by
  rcases open_ints (k := .i64) Tryd.underlying22 Tryd.underlying3 (by kernel_rfl) hf with ⟨hv, _⟩ | ⟨a, len1, cap1, zs, hv, _, hl, hm, hlen, _, hc, _⟩
  · simp at hv
    subst hv
    exact ⟨none, [], 0, 0, 0, rfl, fun h => absurd h (Nat.lt_irrefl _), fun j hj => absurd hj (Nat.not_lt_zero _), Nat.le_refl _, Nat.zero_le _⟩
  · simp at hv
    subst hv
    have hlen' : zs.length = cap1 := by simpa using hlen
    have e : (zs.take len1).length = len1 := by rw [List.length_take]; omega
    by_cases h0 : len1 = 0
    · subst h0
      exact ⟨some a, [], cap1, 0, 0, rfl, fun h => absurd h (Nat.lt_irrefl _), fun j hj => absurd hj (Nat.not_lt_zero _), Nat.zero_le _, hm⟩
    · have hs := World.cell?_spot (hc 0 (by omega))
      obtain ⟨b, off, sp⟩ := a
      simp [Addr.add] at hs
      subst hs
      refine ⟨some ⟨b, off, none⟩, zs.take len1, cap1, b, off, by rw [e], fun _ => ⟨rfl, ?_⟩, fun j hj => ?_, by rw [e]; exact hl, hm⟩
      · have hx := hc 0 (by omega)
        have hy : (⟨b, off, none⟩ : Addr).add 0 = ⟨b, off, none⟩ := rfl
        rw [hy] at hx
        exact block_lt_of_cell hx
      · have hx := hc j (by omega)
        have hy : (⟨b, off, none⟩ : Addr).add j = ⟨b, off + j, none⟩ := by unfold Addr.add; split <;> simp_all
        rw [hy] at hx
        have hg : gz (zs.take len1) j = zs.getD j 0 := by
          rw [gz, List.getD_eq_getElem?_getD, List.getD_eq_getElem?_getD, List.getElem?_take, if_pos (by omega)]
        rw [hx, hg]
theorem array7 {α : Type} {cs : Array α} (h : cs.size = 7) : ∃ c0 c1 c2 c3 c4 c5 c6, cs = #[c0, c1, c2, c3, c4, c5, c6] := by
  obtain ⟨l⟩ := cs
  match l, h with
  | [c0, c1, c2, c3, c4, c5, c6], _ => exact ⟨c0, c1, c2, c3, c4, c5, c6, rfl⟩
theorem list7 {α : Type} {l : List α} (h : l.length = 7) : ∃ c0 c1 c2 c3 c4 c5 c6, l = [c0, c1, c2, c3, c4, c5, c6] := by
  match l, h with
  | [c0, c1, c2, c3, c4, c5, c6], _ => exact ⟨c0, c1, c2, c3, c4, c5, c6, rfl⟩
set_option maxRecDepth 100000 in
theorem open_grid {W : World} {v : Value} {d : DataW H} {ps : List MemPlace} (hval : Value.okWide Tryd.prog W .any 0 24 v) (h : DataW.Trod enc Tryd.prog W 0 (fun _ => true) true 24 v d ps) :
    ∃ (g : Grid) (A1 A2 A3 A4 : Option Addr) (b1 o1 c1 b2 o2 c2 b3 o3 c3 b4 o4 c4 : Nat), v = .agg #[.int .i64 g.W, .int .i64 g.H, .slice A1 g.cols.length c1, .slice A2 g.rows.length c2, .slice A3 g.acr.length c3, .slice A4 g.dwn.length c4, .int .i64 g.q] ∧ GA W g A1 A2 A3 A4 b1 o1 c1 b2 o2 c2 b3 o3 c3 b4 o4 c4 := by
  obtain ⟨cs, rfl, hsz⟩ := okWide_struct Tryd.underlying24 hval
  obtain ⟨v0, v1, v2, v3, v4, v5, v6, rfl⟩ := array7 (hsz.trans (show Tryd.prog.cellsOf 24 = 7 by kernel_rfl))
  obtain ⟨fuel, hf⟩ := h
  obtain ⟨ys, n', _, _, hlen, hyl, hf'⟩ := DataW.trod_struct Tryd.underlying24 hf
  obtain ⟨y0, y1, y2, y3, y4, y5, y6, rfl⟩ := list7 (hyl.trans rfl)
  have c3 : Tryd.prog.cellsOf 3 = 1 := by kernel_rfl
  have c22 : Tryd.prog.cellsOf 22 = 1 := by kernel_rfl
  have f0 : DataW.trod enc Tryd.prog W 0 (fun _ => true) true n' 3 [v0] = some y0 := by simpa [Value.cells, c3, c22] using hf' 0 _ rfl
  have f1 : DataW.trod enc Tryd.prog W 0 (fun _ => true) true n' 3 [v1] = some y1 := by simpa [Value.cells, c3, c22] using hf' 1 _ rfl
  have f2 : DataW.trod enc Tryd.prog W 0 (fun _ => true) true n' 22 [v2] = some y2 := by simpa [Value.cells, c3, c22] using hf' 2 _ rfl
  have f3 : DataW.trod enc Tryd.prog W 0 (fun _ => true) true n' 22 [v3] = some y3 := by simpa [Value.cells, c3, c22] using hf' 3 _ rfl
  have f4 : DataW.trod enc Tryd.prog W 0 (fun _ => true) true n' 22 [v4] = some y4 := by simpa [Value.cells, c3, c22] using hf' 4 _ rfl
  have f5 : DataW.trod enc Tryd.prog W 0 (fun _ => true) true n' 22 [v5] = some y5 := by simpa [Value.cells, c3, c22] using hf' 5 _ rfl
  have f6 : DataW.trod enc Tryd.prog W 0 (fun _ => true) true n' 3 [v6] = some y6 := by simpa [Value.cells, c3, c22] using hf' 6 _ rfl
  obtain ⟨x0, hx0, _, _⟩ := DataW.trod_int Tryd.underlying3 f0
  obtain ⟨x1, hx1, _, _⟩ := DataW.trod_int Tryd.underlying3 f1
  obtain ⟨x6, hx6, _, _⟩ := DataW.trod_int Tryd.underlying3 f6
  simp at hx0 hx1 hx6
  subst hx0
  subst hx1
  subst hx6
  obtain ⟨A1, l1, c1, b1, o1, rfl, p0, p1, _, _⟩ := open_zs' f2
  obtain ⟨A2, l2, c2, b2, o2, rfl, q0, q1, _, _⟩ := open_zs' f3
  obtain ⟨A3, l3, c3', b3, o3, rfl, r0, r1, _, _⟩ := open_zs' f4
  obtain ⟨A4, l4, c4, b4, o4, rfl, s0, s1, _, _⟩ := open_zs' f5
  exact ⟨⟨x0, x1, l1, l2, l3, l4, x6⟩, A1, A2, A3, A4, b1, o1, c1, b2, o2, c2, b3, o3, c3', b4, o4, c4, rfl, ⟨p0, p1, q0, q1, r0, r1, s0, s1⟩⟩
end
def cP : Array Value := #[.int .u64 1, .int .u64 10, .int .u64 100, .int .u64 1000, .int .u64 10000, .int .u64 100000, .int .u64 1000000, .int .u64 10000000, .int .u64 100000000, .int .u64 1000000000, .int .u64 10000000000, .int .u64 100000000000, .int .u64 1000000000000, .int .u64 10000000000000, .int .u64 100000000000000, .int .u64 1000000000000000, .int .u64 10000000000000000, .int .u64 100000000000000000, .int .u64 1000000000000000000, .int .u64 10000000000000000000]
def c32 : Array Value := #[.int .u8 0, .int .u8 1, .int .u8 28, .int .u8 2, .int .u8 29, .int .u8 14, .int .u8 24, .int .u8 3, .int .u8 30, .int .u8 22, .int .u8 20, .int .u8 15, .int .u8 25, .int .u8 17, .int .u8 4, .int .u8 8, .int .u8 31, .int .u8 27, .int .u8 13, .int .u8 23, .int .u8 21, .int .u8 19, .int .u8 16, .int .u8 7, .int .u8 26, .int .u8 12, .int .u8 18, .int .u8 6, .int .u8 11, .int .u8 5, .int .u8 10, .int .u8 9]
def c64 : Array Value := #[.int .u8 0, .int .u8 1, .int .u8 56, .int .u8 2, .int .u8 57, .int .u8 49, .int .u8 28, .int .u8 3, .int .u8 61, .int .u8 58, .int .u8 42, .int .u8 50, .int .u8 38, .int .u8 29, .int .u8 17, .int .u8 4, .int .u8 62, .int .u8 47, .int .u8 59, .int .u8 36, .int .u8 45, .int .u8 43, .int .u8 51, .int .u8 22, .int .u8 53, .int .u8 39, .int .u8 33, .int .u8 30, .int .u8 24, .int .u8 18, .int .u8 12, .int .u8 5, .int .u8 63, .int .u8 55, .int .u8 48, .int .u8 27, .int .u8 60, .int .u8 41, .int .u8 37, .int .u8 16, .int .u8 46, .int .u8 35, .int .u8 44, .int .u8 21, .int .u8 52, .int .u8 32, .int .u8 23, .int .u8 11, .int .u8 54, .int .u8 26, .int .u8 40, .int .u8 15, .int .u8 34, .int .u8 20, .int .u8 31, .int .u8 10, .int .u8 25, .int .u8 14, .int .u8 19, .int .u8 9, .int .u8 13, .int .u8 8, .int .u8 7, .int .u8 6]
def laid3 : List (String × DataW Unit) := [("math/bits.deBruijn32tab", Rows.laid_math_bits_deBruijn32tab), ("math/bits.deBruijn64tab", Rows.laid_math_bits_deBruijn64tab), ("internal/strconv.uint64pow10", Rows.laid_internal_strconv_uint64pow10)]
theorem Tryd.gP : Tryd.prog.globalNamed "internal/strconv.uint64pow10" = some 0 := by kernel_rfl
theorem Tryd.g32 : Tryd.prog.globalNamed "math/bits.deBruijn32tab" = some 1 := by kernel_rfl
theorem Tryd.g64 : Tryd.prog.globalNamed "math/bits.deBruijn64tab" = some 2 := by kernel_rfl
def layTo (cs : Array Value) : Obj → Obj
  | .cells _ t frozen => .cells cs t frozen
  | o => o
/-- A world that meets the condition: the settled one, the three variables laid. -/
noncomputable def laidWorld (os : Os) : World :=
  { World.holding Tryd.prog os ⟨#[], #[], []⟩ with heap := (((World.holding Tryd.prog os ⟨#[], #[], []⟩).heap.modify 0 (layTo cP)).modify 1 (layTo c32)).modify 2 (layTo c64) }
noncomputable def args0 : Array Value := #[.agg #[.int .i64 0, .int .i64 0, .slice none 0 0, .slice none 0 0, .slice none 0 0, .slice none 0 0, .int .i64 0]]
theorem laidWorld_met (os : Os) : laidMet Tryd.prog laid3 ((laidWorld os).forCall (fun _ _ => 0) ⟨#[], args0, []⟩).memory :=
  laidMet_of_run' 40 (by kernel_rfl) (by kernel_rfl)
set_option maxRecDepth 100000 in
theorem formeLayouts_lifted (os : Os) (started : os.Started) (H : Type) (enc : TypeId × Value → H) :
    ReturnsInHanded {} Tryd.checked os 3 .any (fun w args => (Rows.formeLayoutsSpec.pre enc Tryd.prog Tryd.f3 Rows.formeLayoutsRow.domain false w args ∧ laidMetH Tryd.prog Rows.formeLayoutsRow.laid w) ∧ sizedMet enc Tryd.prog Tryd.f3 (OpenSpec.ofChange Rows.formeLayoutsSpec) false w args)
      (Rows.formeLayoutsSpec.post enc Tryd.prog Tryd.f3 false true false false) := by
  refine returnsInHanded_of_change_and (C := Tryd.checked) (X := fun w _ => laidMetH Tryd.prog Rows.formeLayoutsRow.laid w) (fun _ _ _ hh h => h.of_heap hh) Tryd.own started (by kernel_rfl) Tryd.func3
    (ChangeSpec.witness_at (enc := enc) (C := Tryd.checked) (os := os) (X := fun w _ => laidMetH Tryd.prog Rows.formeLayoutsRow.laid w) false (laidWorld os) args0 8 rfl (by kernel_rfl) (by kernel_rfl) (by kernel_rfl) (by kernel_rfl) (by kernel_rfl) (laidWorld_met os)) ?_
  intro W base args ds gs before hval0 hW hcnd _ _ _
  have hval : ∀ (j : Nat) t v, Tryd.f3.params[j]? = some t → args[j]? = some v → Value.okWide Tryd.prog W .any base t v := hval0
  have hW' := hW
  obtain ⟨p, q, hA0, hV, rfl, hfz, hnd⟩ := hW
  have hA : DataW.TrodAll enc Tryd.prog W 0 (fun _ => true) true Tryd.f3.params.toList args.toList ds p := hA0
  rw [Tryd.params3] at hA hval
  obtain ⟨v0, d0, rfl, rfl, h0⟩ := trodAll_one hA
  obtain ⟨rfl, rfl⟩ := trodVars_none hV
  obtain ⟨g, A1, A2, A3, A4, b1, o1, c1, b2, o2, c2, b3, o3, c3, b4, o4, c4, rfl, hga⟩ := open_grid (hval 0 24 v0 rfl rfl) h0
  clear hA0 hval0
  refine (layouts_any g A1 A2 A3 A4 b1 o1 c1 b2 o2 c2 b3 o3 c3 b4 o4 c4 W hga).mono fun e W' ⟨he, hw⟩ => ?_
  subst he
  exact ⟨_, rfl, law_post Tryd.laidOut rfl (by kernel_rfl) Tryd.underlying4 (by kernel_rfl) rfl hW' hw⟩
theorem formeLayouts_said : Rows.FormeLayoutsSaid :=
  OpenClaim.holds_of_wide 3 Tryd.f3 rfl rfl rfl rfl rfl rfl rfl ⟨rfl, rfl, rfl, rfl, rfl⟩ rfl rfl rfl rfl rfl (by kernel_rfl) Tryd.func3 (by kernel_rfl)
    (of_decide_eq_true (by kernel_rfl)) (by unfold Func.isWrapper; first | (rw [if_pos (by decide +kernel)]; kernel_rfl) | (rw [if_neg (by decide +kernel)]; exact ⟨rfl, rfl⟩))
    (fun os started H enc _ => formeLayouts_lifted os started H enc)
theorem formeLayouts_holds : Rows.FormeLayoutsCardSaid :=
  Claim7.holds_tied_plain_at .later [] [.data, .data, .data] true (true, "f5d2550269fbe09b0cd69da6061ac9be4a3fa74ef55da57ee4c6a9bca6336e2f") false
    formeLayouts_said (fun _ h => by cases h) (by kernel_rfl) (fun _ h => by cases h) formeLayouts_row_tie rfl ⟨rfl, rfl⟩ (by kernel_rfl) rfl
    (fun f fn hf hfn => by
      obtain rfl : f = 3 := Option.some.inj ((show Tryd.prog.funcNamed "tympan/tympanlaw07.FormeLayouts" = some 3 by kernel_rfl).symm.trans hf) |>.symm
      obtain rfl : fn = Tryd.f3 := (Option.some.inj (Tryd.func3.symm.trans hfn)).symm
      exact ⟨by kernel_rfl, fun j t ht => by
        rw [Tryd.params3] at ht
        have h3 : t = 24 := by
          rcases j with _ | j
          · simpa using ht.symm
          · simp at ht
        subst h3
        exact (show Tryd.prog.wantsStandIn 24 = false by kernel_rfl)⟩)
    (by kernel_rfl)
#print axioms formeLayouts_holds
end Go.Proofs.YtlfeoofchebbkaaDoor
