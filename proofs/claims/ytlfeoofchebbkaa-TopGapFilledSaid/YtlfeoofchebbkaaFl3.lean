/- The marks that ranges over functions leave among a frame's deferred calls. -/
import Derived.RangeFuncLeaves
import Derived.Below
import Derived.RangeFuncRecord
import Derived.BigQuiet
import Derived.OrdersIn
import Derived.OwnWalkIn
import Derived.Test.YtlfeoofchebbkaaFlp
import Derived.Test.YtlfeoofchebbkaaHlr
namespace Go.Proofs.Ytlfeoofchebbkaa
set_option linter.unusedSimpArgs false
set_option linter.unusedVariables false
open Go.RowKit
def mark (D : Nat) : Deferred := { target := .collected D, args := #[] }
/-- The marks are of blocks from 'base' on that are shut but not taken over, each another one. -/
def Marks (base : Nat) : List Nat → World → Prop
  | [], _ => True
  | D :: ds, w => base ≤ D ∧ w.heap[D]? = some (.deferred (some [])) ∧ D ∉ ds ∧ Marks base ds w
/-- Nothing but marks is turned. -/
structure PutOnly (base : Nat) (w w' : World) : Prop where
  os : w'.os = w.os
  tape : w'.tape = w.tape
  output : w'.output = w.output
  size : w'.heap.size = w.heap.size
  low : ∀ k, k < base → w'.heap[k]? = w.heap[k]?
  cells : ∀ (k : Nat) (c : Array Value) (e : TypeId) (fr : Nat × Nat), w.heap[k]? = some (Obj.cells c e fr) → w'.heap[k]? = some (Obj.cells c e fr)
theorem PutOnly.refl (base : Nat) (w : World) : PutOnly base w w := ⟨rfl, rfl, rfl, rfl, fun _ _ => rfl, fun _ _ _ _ h => h⟩
theorem PutOnly.trans {base : Nat} {a b c : World} (h : PutOnly base a b) (k : PutOnly base b c) : PutOnly base a c :=
  ⟨k.os.trans h.os, k.tape.trans h.tape, k.output.trans h.output, k.size.trans h.size, fun i hi => (k.low i hi).trans (h.low i hi), fun i c e fr hc => k.cells i c e fr (h.cells i c e fr hc)⟩
theorem PutOnly.below {base : Nat} {w w' : World} (h : PutOnly base w w') : Below base w w' := ⟨h.os, h.tape, h.output, by rw [h.size]; exact Nat.le_refl _, h.low⟩
theorem PutOnly.cell {base : Nat} {w w' : World} (h : PutOnly base w w') {a : Addr} {v : Value} (hv : w.cell? a = some v) : w'.cell? a = some v := by
  unfold World.cell? at hv ⊢
  split at hv
  · rename_i c e fr hb
    rw [h.cells _ c e fr hb]
    exact hv
  · cases hv
theorem putOnly_mark {base D : Nat} {w : World} (hb : base ≤ D) (hD : w.heap[D]? = some (.deferred (some []))) : PutOnly base w (w.putObj D (.deferred none)) :=
  ⟨rfl, rfl, rfl, by simp [World.putObj], fun k hk => World.putObj_heap_other (by omega), fun k c e fr hk => by
    rw [World.putObj_heap_other (fun h => by rw [h, hD] at hk; cases hk)]; exact hk⟩
theorem Marks.kept {base : Nat} {w w' : World} : ∀ {ds : List Nat}, Marks base ds w → (∀ D, w.heap[D]? = some (.deferred (some [])) → D ∈ ds → w'.heap[D]? = some (.deferred (some []))) → Marks base ds w'
  | [], _, _ => trivial
  | D :: ds, ⟨h1, h2, h3, h4⟩, hk => ⟨h1, hk D h2 (by simp), h3, h4.kept fun D' hD' hm => hk D' hD' (by simp [hm])⟩
theorem Marks.below {base B : Nat} {w w' : World} {ds : List Nat} (h : Marks base ds w) (hb : Below B w w') (hB : w.heap.size ≤ B) : Marks base ds w' :=
  h.kept fun D hD _ => (hb.block D (by have := (Array.getElem?_eq_some_iff.1 hD).1; omega)).trans hD
theorem Marks.setCell {base : Nat} {w : World} {ds : List Nat} (h : Marks base ds w) {g i : Nat} {c : Array Value} {e : TypeId} {fr : Nat × Nat} (hg : w.heap[g]? = some (.cells c e fr)) (v : Value) : Marks base ds (w.setCell ⟨g, i, none⟩ v) :=
  h.kept fun D hD _ => (Below.heap_setCell _ _ _ _ (fun he => by rw [show D = g from he, hg] at hD; cases hD)).trans hD
theorem Marks.add {base D : Nat} {w : World} {ds : List Nat} (h : Marks base ds w) (hb : base ≤ D) (hD : w.heap[D]? = some (.deferred (some []))) (hn : D ∉ ds) : Marks base (D :: ds) w := ⟨hb, hD, hn, h⟩
theorem Marks.lt {base : Nat} {w : World} : ∀ {ds : List Nat}, Marks base ds w → ∀ D ∈ ds, D < w.heap.size
  | [], _, D, hD => by simp at hD
  | _ :: _, ⟨_, h2, _, h4⟩, D, hD => by
    rcases List.mem_cons.1 hD with rfl | h
    · exact (Array.getElem?_eq_some_iff.1 h2).1
    · exact h4.lt D h
/-- A function that leaves with marks among its deferred calls. -/
theorem leaves_marks {F : Fence} {n : Nat} {P : Program} {fn : Func} {tmps : Array Value} {R : Ending → World → Prop} {base : Nat} : ∀ (ds : List Nat) (w : World), Marks base ds w → (∀ w', PutOnly base w w' → LeavesIn F n P fn tmps R [] .returning w') → LeavesInM F n P fn tmps R (ds.map mark) .returning w
  | [], w, _, h => h w (PutOnly.refl _ _)
  | D :: ds, w, ⟨h1, h2, h3, h4⟩, h => ⟨by simp, .inl ⟨D, _, rfl, run_takeDeferred h2, leaves_marks ds _ (h4.kept fun D' hD' hm => by
      have hne : D' ≠ D := fun he => h3 (by rw [← he]; exact hm)
      rw [World.putObj_heap_other hne]; exact hD') fun w' hw => h w' ((putOnly_mark h1 h2).trans hw)⟩⟩
end Go.Proofs.Ytlfeoofchebbkaa
/- A region that draws its order and only reads, in the body of a range over a function (a round's frame): one walk in the text's order. -/
namespace Go.Proofs.Ytlfeoofchebbkaa
set_option linter.unusedSimpArgs false
set_option linter.unusedVariables false
section
variable {P : Program} {ops : Array Oper} {C : World → Prop} {n lr : Nat}
theorem wpIn_of_quiet_round {o : Oper} {a : Act} {K : Act → Prop} {K' : Act → World → Prop} {Q' : Exit → Act → World → Prop} {w : World} (hd : ∀ c, o.op ≠ .defer c) (hw : C w) (h : ∀ a w', C w' → K a → K' a w') (hh : o.quiet P a C K) : o.wpIn (Fence.wide.inRound lr) n P a w K' Q' := by
  obtain ⟨v, h1, h2⟩ := hh
  have h3 := h1 w hw
  unfold Oper.quietAt at h3
  refine ⟨fun _ _ => trivial, ?_⟩
  rw [Oper.semAt_plain _ _ _ hd]
  generalize (execOp a.eval o).run P w = r at *
  cases r with
  | ok x w' =>
    cases x <;> simp only [Oper.quietUpon] at h3 <;> simp only [Oper.uponIn]
    case value u =>
      obtain ⟨e1, e2⟩ := h3
      rw [e1, e2]
      exact h _ _ hw h2
    case skip =>
      obtain ⟨e1, e2⟩ := h3
      rw [e1, ← e2]
      exact h _ _ hw h2
    case enter f args =>
      obtain ⟨e1, hc⟩ := h3
      rw [e1]
      refine ⟨fun e => (by cases e), callsIn_wide.2 (hc.mono fun e w'' ⟨he, hw''⟩ => by subst he; exact h _ _ hw'' h2)⟩
  | halt x w' => simp only [Oper.quietUpon] at h3
theorem wpOpIn_of_qOp_round (hd : ∀ (i : Nat) (o : Oper), ops[i]? = some o → ∀ c, o.op ≠ .defer c) {i : Nat} {a : Act} {K : Act → Prop} {K' : Act → World → Prop} {Q' : Exit → Act → World → Prop} {w : World} (hC : C w) (h : ∀ a w', C w' → K a → K' a w') (hh : qOp P ops C i K a) : wpOpIn (Fence.wide.inRound lr) n P ops Q' i K' a w := by
  unfold qOp at hh
  unfold wpOpIn
  split
  · rename_i ho; simp only [ho] at hh; exact h _ _ hC hh
  · rename_i o ho
    simp only [ho] at hh
    split
    · rename_i hw; simp only [hw, if_true] at hh; exact wpIn_of_quiet_round (hd i o ho) hC h hh
    · rename_i hw; simp only [hw] at hh; exact ⟨fun _ _ => trivial, h _ _ hC hh⟩
theorem wpAnyIn_of_quiet_round {md : Region.Mode} (hd : ∀ (i : Nat) (o : Oper), ops[i]? = some o → ∀ c, o.op ≠ .defer c) {Q : Act → Prop} {Q' : Exit → Act → World → Prop} (hQ : ∀ a w, C w → Q a → Q' .normal a w) : ∀ (fuel : Nat) (listed : Array Bool) (a : Act) (w : World), C w →
    wpAnyQ P md ops C Q fuel listed a → wpAnyIn (Fence.wide.inRound lr) n P md ops Q' fuel listed a w
  | 0, _, _, _, hw, h => ⟨h.1, hQ _ _ hw h.2⟩
  | fuel + 1, _, _, _, hw, h => ⟨fun h0 => hQ _ _ hw (h.1 h0), fun i hi => wpOpIn_of_qOp_round hd hw (fun a' w' hw' => wpAnyIn_of_quiet_round hd hQ fuel _ a' w' hw') (h.2 i hi)⟩
/-- No operation of the region is a defer statement. -/
def noDefer (l : List Oper) : Bool := l.all fun o => match o.op with | .defer _ => false | _ => true
theorem noDefer_spec {l : List Oper} (h : noDefer l = true) (i : Nat) (o : Oper) (ho : l.toArray[i]? = some o) (c : Call) : o.op ≠ .defer c := by
  intro e
  have := List.all_eq_true.1 h o (by rw [List.getElem?_toArray] at ho; exact List.mem_of_getElem? ho)
  rw [e] at this
  cases this
theorem quiet_round {id : Nat} {Q : Exit → Act → World → Prop} {a : Act} {w : World} {l : List Oper} (hm : P.follows .mixedOrders = true) (hB : Region.lexB .any l.toArray = true) (hd : noDefer l = true)
    (h : wpQuiet P l.toArray (fun w' => ∃ n, w' = w.drewN n) (fun a' => ∀ w', (∃ n, w' = w.drewN n) → Q .normal a' w') l a) : (Code.region id l.toArray true).wpIn (Fence.wide.inRound lr) n P Q a w := by
  simp only [Region.lexB, Bool.and_eq_true] at hB
  refine wpIn_region_any hm (wpAnyIn_of_quiet_round (C := fun w' => ∃ n, w' = w.drewN n) (noDefer_spec hd) (Q := fun a' => ∀ w', (∃ n, w' = w.drewN n) → Q .normal a' w') (fun _ w' hw' h => h w' hw') _ _ _ _ ⟨1, rfl⟩ ?_)
  have := wpAnyQ_lex (C := fun w' => ∃ n, w' = w.drewN n) (md := .any) hB.1 l.toArray.toList 0 (Array.replicate l.toArray.size false) a (by simp) (by simpa using hB.2) (by simpa using h)
  simpa using this
end
end Go.Proofs.Ytlfeoofchebbkaa
/- FillLength: what stands while the counts are found, from the last size down. -/
namespace Go.Proofs.Ytlfeoofchebbkaa
set_option linter.unusedSimpArgs false
set_option linter.unusedVariables false
open Go.RowKit
/-- Plain: of the sizes from m on c are taken; r is left. -/
structure Lp3 (l : List (Int × Int)) (L n m r : Nat) (c : Nat → Nat) : Prop where
  mn : m ≤ n
  rL : r ≤ L
  lt : gz (labF l L m) r < 1000000
  ps : gS l c (n - m) m + r = L
  pn : (gN c (n - m) m : Int) + gz (labF l L m) r = gz (labF l L n) L
  pc : ∀ j, m ≤ j → j < n → c j ≤ stC l j
theorem Lp3.start {l : List (Int × Int)} {L n : Nat} (h : gz (labF l L n) L < 1000000) : Lp3 l L n n L (fun _ => 0) :=
  ⟨Nat.le_refl _, Nat.le_refl _, h, by rw [Nat.sub_self]; show 0 + L = L; omega, by rw [Nat.sub_self]; show ((0 : Nat) : Int) + _ = _; omega, fun j h1 h2 => by omega⟩
theorem Lp3.step {l : List (Int × Int)} {L n m r j : Nat} {c : Nat → Nat} (h : Lp3 l L n (m + 1) r c) (h1 : j ≤ stC l m) (h2 : j * stS l m ≤ r) (h3 : gz (labF l L m) (r - j * stS l m) + (j : Int) = gz (labF l L (m + 1)) r) :
    Lp3 l L n m (r - j * stS l m) (fun i => if i = m then j else c i) := by
  have e : n - m = (n - (m + 1)) + 1 := by have := h.mn; omega
  have hs := h.ps
  have hn := h.pn
  have hlt := h.lt
  refine ⟨by have := h.mn; omega, by have := h.rL; omega, by omega, ?_, ?_, fun i hi1 hi2 => ?_⟩
  · rw [e]
    show (if m = m then j else c m) * stS l m + gS l _ (n - (m + 1)) (m + 1) + _ = L
    rw [if_pos rfl, gS_congr (e := c) _ _ (fun i hi => if_neg (by omega))]
    omega
  · rw [e]
    show ((((if m = m then j else c m) + gN _ (n - (m + 1)) (m + 1) : Nat)) : Int) + _ = _
    rw [if_pos rfl, gN_congr (e := c) _ _ (fun i hi => if_neg (by omega))]
    omega
  · show (if i = m then j else c i) ≤ _
    by_cases e2 : i = m
    · rw [if_pos e2, e2]; exact h1
    · rw [if_neg e2]; exact h.pc i (by omega) hi2
theorem Lp3.some {l : List (Int × Int)} {L n m r : Nat} {c : Nat → Nat} (h : Lp3 l L n (m + 1) r c) (hs : 1 ≤ stS l m) : ∃ j, j ≤ stC l m ∧ j * stS l m ≤ r ∧ gz (labF l L m) (r - j * stS l m) + (j : Int) = gz (labF l L (m + 1)) r :=
  lab_step h.rL hs h.lt
theorem Lp3.done {l : List (Int × Int)} {L n r : Nat} {c : Nat → Nat} (h : Lp3 l L n 0 r c) : (∀ i, i < n → c i ≤ stC l i) ∧ fS l c n = L ∧ (fN c n : Int) = gz (labF l L n) L := by
  have hlt := h.lt
  have hr0 : r = 0 := by
    rw [labF_zero h.rL] at hlt
    by_cases e : r = 0
    · exact e
    · rw [if_neg e] at hlt; omega
  subst hr0
  have hs := h.ps
  have hn := h.pn
  rw [Nat.sub_zero, gS_eq] at hs
  rw [Nat.sub_zero, gN_eq, labF_zero (Nat.zero_le _), if_pos rfl] at hn
  exact ⟨fun i hi => h.pc i (Nat.zero_le _) hi, by omega, by omega⟩
/-- The memory while the counts are found: the row of counts, its box, the rest, the size's number, the marks. -/
structure L3 (W0 W : World) (n cg kb : Nat) (kv : Int) (m r : Nat) (c : Nat → Nat) (ds : List Nat) : Prop where
  B : Below cg W0 W
  z : W0.heap.size = cg
  C : rowG W cg n (fun j => .int .i64 (if m ≤ j then (c j : Int) else 0))
  CB : Blk W (cg + 1) 23 #[.slice (some ⟨cg, 0, none⟩) n n]
  RB : Blk W (cg + 2) 3 #[.int .i64 (r : Int)]
  KB : Blk W kb 3 #[.int .i64 kv]
  kb : cg + 3 ≤ kb
  M : Marks cg ds W
theorem L3.kept {W0 W W' : World} {n cg kb m r : Nat} {kv : Int} {c : Nat → Nat} {ds : List Nat} {row : Option Nat} {T : Nat} (h : L3 W0 W n cg kb kv m r c ds) (hT : ∀ D ∈ ds, D < T) (hc : cg ≤ T) (hg : W.grownBy W' row) (hr : ∀ q, row = some q → T ≤ q ∧ ∃ o : Obj, W.heap[q]? = some o ∧ o.isCells = false) : L3 W0 W' n cg kb kv m r c ds := by
  have hk : ∀ k cs t fr, W.heap[k]? = some (Obj.cells cs t fr) → W'.heap[k]? = W.heap[k]? := fun k cs t fr hkk => hg.block k (Array.getElem?_eq_some_iff.1 hkk).1 (fun e => by
    obtain ⟨_, o, ho, hoc⟩ := hr k e.symm
    rw [hkk] at ho
    injection ho with ho
    rw [← ho] at hoc
    cases hoc)
  obtain ⟨cc, ct, hcc, hcn⟩ := h.C
  exact ⟨h.B.grown hg (by have := h.B.size; have := h.z; omega) (fun q e => Nat.le_trans hc (hr q e).1), h.z, h.C.of_block (hk _ _ _ _ hcc), (hk _ _ _ _ h.CB).trans h.CB, (hk _ _ _ _ h.RB).trans h.RB, (hk _ _ _ _ h.KB).trans h.KB, h.kb,
    h.M.kept fun D hD hm => (hg.block D (Array.getElem?_eq_some_iff.1 hD).1 (fun e => by have := (hr D e.symm).1; have := hT D hm; omega)).trans hD⟩
theorem L3.below {W0 W W' : World} {n cg kb m r : Nat} {kv : Int} {c : Nat → Nat} {ds : List Nat} (h : L3 W0 W n cg kb kv m r c ds) (hb : Below W.heap.size W W') : L3 W0 W' n cg kb kv m r c ds :=
  ⟨h.B.trans (hb.mono (by have := h.B.size; have := h.z; omega)), h.z, h.C.of_block (hb.block _ h.C.lt), (hb.block _ h.CB.lt).trans h.CB, (hb.block _ h.RB.lt).trans h.RB, (hb.block _ h.KB.lt).trans h.KB, h.kb, h.M.below hb (Nat.le_refl _)⟩
/-- The count of a size is stored, and what it leaves. -/
theorem L3.found {W0 W : World} {n cg kb m r j q : Nat} {kv : Int} {c : Nat → Nat} {ds : List Nat} (h : L3 W0 W n cg kb kv (m + 1) r c ds) : L3 W0 ((W.setCell ⟨cg, m, none⟩ (.int .i64 (j : Int))).setCell ⟨cg + 2, 0, none⟩ (.int .i64 (q : Int))) n cg kb kv m q (fun i => if i = m then j else c i) ds := by
  have hkb := h.kb
  obtain ⟨cc, ct, hcc, hcn⟩ := h.C
  have hM1 := h.M.setCell hcc (.int .i64 (j : Int)) (i := m)
  have hRB1 : Blk (W.setCell ⟨cg, m, none⟩ (.int .i64 (j : Int))) (cg + 2) 3 #[.int .i64 (r : Int)] := (Below.heap_setCell _ _ _ _ (by show cg + 2 ≠ cg; omega)).trans h.RB
  refine ⟨(h.B.setCell (p := ⟨cg, m, none⟩) (Nat.le_refl _) _).setCell (p := ⟨cg + 2, 0, none⟩) (by show cg ≤ cg + 2; omega) _, h.z, ?_, ?_, ?_, ?_, h.kb, hM1.setCell hRB1 _⟩
  · refine ((h.C.set m (.int .i64 (j : Int))).setOther (by show cg ≠ cg + 2; omega) _).congr fun i hi => ?_
    by_cases e : i = m
    · subst e; rw [if_pos rfl, if_pos (Nat.le_refl _), if_pos rfl]
    · rw [if_neg e]
      by_cases e2 : m ≤ i
      · rw [if_pos (by omega), if_pos e2, if_neg e]
      · rw [if_neg (by omega), if_neg e2]
  · exact (Below.heap_setCell _ _ _ _ (by show cg + 1 ≠ cg + 2; omega)).trans ((Below.heap_setCell _ _ _ _ (by show cg + 1 ≠ cg; omega)).trans h.CB)
  · exact hRB1.set_ 0 _
  · exact (Below.heap_setCell _ _ _ _ (by show kb ≠ cg + 2; omega)).trans ((Below.heap_setCell _ _ _ _ (by show kb ≠ cg; omega)).trans h.KB)
end Go.Proofs.Ytlfeoofchebbkaa
