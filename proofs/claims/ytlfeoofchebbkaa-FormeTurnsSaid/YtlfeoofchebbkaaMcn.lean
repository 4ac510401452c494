/- The keys of the bill's map. -/
import Derived.Test.YtlfeoofchebbkaaBil
import Derived.DeepKeys4
import Derived.Maps.RangeWalk
import Derived.Maps.OwnOps
import Derived.Maps.Ext
import Derived.WideKeyEntry
import Derived.Maps.Views
namespace Go.Proofs.Ytlfeoofchebbkaa
open Go.RowKit
theorem laid57 : laidOutB Try.prog = true := by kernel_rfl
theorem law57 : WideMaps.KeyLaw Try.prog 57 := deep_law_laid laid57 (m := 2) (by omega) (of_decide_eq_true (by kernel_rfl)) (by kernel_rfl) (by kernel_rfl)
theorem keyed57 : Maps.Keyed Try.prog 57 := Maps.Keyed.of_law law57
theorem pos57 : decide (0 < Try.prog.types.size) = true := by kernel_rfl
theorem size57 : ∃ m, Try.prog.types.size = m + 1 := ⟨Try.prog.types.size - 1, by have := of_decide_eq_true pos57; omega⟩
theorem kt57 : Try.prog.keyType 57 = true := by kernel_rfl
theorem cellsOf57 : Try.prog.cellsOf 57 = 2 := by kernel_rfl
theorem cellsOf3 : Try.prog.cellsOf 3 = 1 := by kernel_rfl
set_option maxRecDepth 100000 in
theorem key57 (a b : Int) (ha : (Lit.int .i64 a).wf = true) (hb : (Lit.int .i64 b).wf = true) : ∃ s, keyOf Try.prog 57 (.agg #[.int .i64 a, .int .i64 b]) = some (.string s) := by
  have hf : (Value.agg #[.int .i64 a, .int .i64 b]).formed Try.prog 57 = true := by
    simp only [Value.formed, Try.underlying57, cellsOf57]; rfl
  obtain ⟨m, hm⟩ := size57
  have hk : Try.prog.keyLits (m + 1 + 1) 57 [.int .i64 a, .int .i64 b] = some [.int .i64 a, .int .i64 b] := by
    unfold Program.keyLits
    simp only [Try.underlying57, cellsOf57, cellsOf3, List.length_cons, List.length_nil, if_true]
    have h1 : ∀ x : Int, (Lit.int .i64 x).wf = true → Try.prog.keyLits (m + 1) 3 [.int .i64 x] = some [.int .i64 x] := fun x hx => by
      unfold Program.keyLits
      simp only [Try.underlying3, hx, and_self, if_true]
    have e : List.range 2 = [0, 1] := rfl
    simp [e, List.mapM_cons, h1 a ha, h1 b hb]
  unfold keyOf
  rw [Try.underlying57]
  simp only [kt57, hf, Bool.and_self, if_true, hm]
  refine ⟨keyBytes [.int .i64 a, .int .i64 b], ?_⟩
  rw [show (Value.agg #[.int .i64 a, .int .i64 b]).cells.toList = [.int .i64 a, .int .i64 b] from rfl, hk]
  rfl
set_option maxRecDepth 100000 in
theorem key57_inv (v : Value) (l : Lit) (h : keyOf Try.prog 57 v = some l) : ∃ p : Int × Int, v = .agg #[.int .i64 p.1, .int .i64 p.2] := by
  obtain ⟨m, hm⟩ := size57
  unfold keyOf at h
  rw [Try.underlying57] at h
  simp only [kt57, Bool.true_and, hm] at h
  split at h
  · rename_i hf
    cases v with
    | agg cs =>
      simp only [Value.formed, Try.underlying57, cellsOf57] at hf
      have hs : cs.size = 2 := by simpa using hf
      obtain ⟨x, y, rfl⟩ : ∃ x y, cs = #[x, y] := ⟨cs[0], cs[1], by
        apply Array.ext
        · simp [hs]
        · intro i h1 h2
          have : i = 0 ∨ i = 1 := by simp at h2; omega
          rcases this with rfl | rfl <;> rfl⟩
      rw [show (Value.agg #[x, y]).cells.toList = [x, y] from rfl] at h
      cases hk : Try.prog.keyLits (m + 1 + 1) 57 [x, y] with
      | none => rw [hk] at h; cases h
      | some ls =>
        unfold Program.keyLits at hk
        simp only [Try.underlying57, cellsOf57, cellsOf3, List.length_cons, List.length_nil, if_true] at hk
        have e : List.range 2 = [0, 1] := rfl
        simp [e, List.mapM_cons] at hk
        have h1 : ∀ z l, Try.prog.keyLits (m + 1) 3 [z] = some l → ∃ n, z = .int .i64 n := fun z l hz => by
          obtain ⟨n, hn, _⟩ := keyLits_int' Try.underlying3 hz
          exact ⟨n, by simpa using hn⟩
        cases hx : Try.prog.keyLits (m + 1) 3 [x] with
        | none => rw [hx] at hk; simp at hk
        | some lx =>
          cases hy : Try.prog.keyLits (m + 1) 3 [y] with
          | none => rw [hx, hy] at hk; simp at hk
          | some ly =>
            obtain ⟨a, rfl⟩ := h1 x lx hx
            obtain ⟨b, rfl⟩ := h1 y ly hy
            exact ⟨(a, b), rfl⟩
    | _ => simp [Value.formed, Try.underlying57] at hf
  · cases h
end Go.Proofs.Ytlfeoofchebbkaa
/- The map of the bill, plainly: what it holds at each key. -/
namespace Go.Proofs.Ytlfeoofchebbkaa
set_option linter.unusedSimpArgs false
set_option linter.unusedVariables false
open Go.RowKit
def pr57 (a b : Int) : Value := .agg #[.int .i64 a, .int .i64 b]
/-- The map holds the numbers. -/
structure MapCnt (D : DataW Unit) (ps : List Piece) : Prop where
  im : Maps.IsMap D
  val : ∀ a b kl, keyOf Try.prog 57 (pr57 a b) = some kl → D.atKey kl (.lit (.int .i64 0)) = .lit (.int .i64 (cntF ps a b))
  has : ∀ a b kl, keyOf Try.prog 57 (pr57 a b) = some kl → (Maps.has D kl = true ↔ 0 < cntF ps a b)
theorem pr57_inj {a b a' b' : Int} (h : pr57 a b = pr57 a' b') : a = a' ∧ b = b' := by
  unfold pr57 at h
  injection h with h
  have := congrArg Array.toList h
  simpa using this
theorem mapCnt_nil : MapCnt (.map []) [] := ⟨Maps.isMap_empty, fun a b kl h => rfl, fun a b kl h => by rw [cntF_nil]; constructor <;> intro h <;> first | cases h | omega⟩
theorem MapCnt.skip {D : DataW Unit} {ps : List Piece} {p : Piece} (h : MapCnt D ps) (hk : p.kind ≠ 2) : MapCnt D (ps ++ [p]) := by
  have e : ∀ a b, cntF (ps ++ [p]) a b = cntF ps a b := fun a b => by rw [cntF_snoc, if_neg (fun h => hk h.1)]; omega
  exact ⟨h.im, fun a b kl hk => by rw [e]; exact h.val a b kl hk, fun a b kl hk => by rw [e]; exact h.has a b kl hk⟩
theorem MapCnt.put {D : DataW Unit} {ps : List Piece} {p : Piece} {kl : Lit} (h : MapCnt D ps) (hk : p.kind = 2) (hkl : keyOf Try.prog 57 (pr57 (max p.w p.h) (min p.w p.h)) = some kl) :
    MapCnt (D.put kl (.lit (.int .i64 (cntF ps (max p.w p.h) (min p.w p.h) + 1)))) (ps ++ [p]) := by
  have hne : ∀ a b kl', keyOf Try.prog 57 (pr57 a b) = some kl' → ¬ (max p.w p.h = a ∧ min p.w p.h = b) → kl' ≠ kl := fun a b kl' h1 h2 e => by
    subst e
    have := pr57_inj (keyed57.inj h1 hkl)
    exact h2 ⟨this.1.symm, this.2.symm⟩
  refine ⟨h.im.put _ _, fun a b kl' h1 => ?_, fun a b kl' h1 => ?_⟩
  · by_cases e : max p.w p.h = a ∧ min p.w p.h = b
    · obtain ⟨rfl, rfl⟩ := e
      rw [hkl] at h1
      cases h1
      rw [Maps.atKey_put_same h.im (keyed57.key hkl), cntF_snoc, if_pos ⟨hk, rfl, rfl⟩]
    · rw [Maps.atKey_put_other (hne a b kl' h1 e), cntF_snoc, if_neg (fun q => e q.2), Int.add_zero]
      exact h.val a b kl' h1
  · by_cases e : max p.w p.h = a ∧ min p.w p.h = b
    · obtain ⟨rfl, rfl⟩ := e
      rw [hkl] at h1
      cases h1
      rw [Maps.has_put_same h.im (keyed57.key hkl), cntF_snoc, if_pos ⟨hk, rfl, rfl⟩]
      have := cntF_nonneg ps (max p.w p.h) (min p.w p.h)
      simp; omega
    · rw [Maps.has_put_other (hne a b kl' h1 e), cntF_snoc, if_neg (fun q => e q.2), Int.add_zero]
      exact h.has a b kl' h1
/-- The rows so far, in the range over the map. -/
structure RowsLeft (D : DataW Unit) (ps : List Piece) (left : Lit → Bool) (l : List Tri) : Prop where
  nd : ∀ i j, i < j → j < l.length → ¬ ((gt3 l i).a = (gt3 l j).a ∧ (gt3 l i).b = (gt3 l j).b)
  cnt : ∀ j, j < l.length → (gt3 l j).n = cntF ps (gt3 l j).a (gt3 l j).b
  pos : ∀ j, j < l.length → 0 < (gt3 l j).n
  cov : ∀ a b kl, keyOf Try.prog 57 (pr57 a b) = some kl → 0 < cntF ps a b → left kl = true ∨ ∃ j, j < l.length ∧ (gt3 l j).a = a ∧ (gt3 l j).b = b
  gone : ∀ j, j < l.length → ∃ kl, keyOf Try.prog 57 (pr57 (gt3 l j).a (gt3 l j).b) = some kl ∧ left kl = false
  sub : ∀ kl, left kl = true → Maps.has D kl = true
theorem RowsLeft.start {D : DataW Unit} {ps : List Piece} (h : MapCnt D ps) : RowsLeft D ps (Maps.has D) [] :=
  ⟨fun _ _ _ h => by simp at h, fun _ h => by simp at h, fun _ h => by simp at h, fun a b kl hk hp => .inl ((h.has a b kl hk).2 hp), fun _ h => by simp at h, fun kl h => h⟩
theorem RowsLeft.step {D : DataW Unit} {ps : List Piece} {left : Lit → Bool} {l : List Tri} {a b c : Int} {kl : Lit} (h : RowsLeft D ps left l) (hm : MapCnt D ps) (hkl : keyOf Try.prog 57 (pr57 a b) = some kl) (hl : left kl = true)
    (hat : D.atKey kl (.lit (.int .i64 0)) = .lit (.int .i64 c)) : RowsLeft D ps (fun z => left z && !z.sameKey kl) (l ++ [⟨a, b, c⟩]) := by
  have hc : c = cntF ps a b := by
    have := hm.val a b kl hkl
    rw [hat] at this
    simpa using this
  have hp : 0 < cntF ps a b := (hm.has a b kl hkl).1 (h.sub kl hl)
  refine ⟨?_, ?_, ?_, ?_, ?_, ?_⟩
  · intro i j hij hj
    rw [List.length_append, List.length_singleton] at hj
    by_cases e : j < l.length
    · rw [gt3_app e, gt3_app (by omega)]; exact h.nd i j hij e
    · have : j = l.length := by omega
      subst this
      rw [gt3_last, gt3_app hij]
      intro q
      obtain ⟨kl', h1, h2⟩ := h.gone i hij
      rw [q.1, q.2] at h1
      have h1 : some kl = some kl' := hkl.symm.trans h1
      cases h1
      rw [hl] at h2; cases h2
  · intro j hj
    rw [List.length_append, List.length_singleton] at hj
    by_cases e : j < l.length
    · rw [gt3_app e]; exact h.cnt j e
    · have : j = l.length := by omega
      subst this
      rw [gt3_last]; exact hc
  · intro j hj
    rw [List.length_append, List.length_singleton] at hj
    by_cases e : j < l.length
    · rw [gt3_app e]; exact h.pos j e
    · have : j = l.length := by omega
      subst this
      rw [gt3_last]; show 0 < c; omega
  · intro a' b' kl' h1 h2
    by_cases e : a = a' ∧ b = b'
    · obtain ⟨rfl, rfl⟩ := e
      exact .inr ⟨l.length, by simp, by rw [gt3_last], by rw [gt3_last]⟩
    · rcases h.cov a' b' kl' h1 h2 with q | ⟨j, hj, e1, e2⟩
      · refine .inl ?_
        have hne : kl' ≠ kl := fun q => by
          subst q
          have := pr57_inj (keyed57.inj h1 hkl)
          exact e ⟨this.1.symm, this.2.symm⟩
        rw [q, Maps.sameKey_ne hne]; rfl
      · exact .inr ⟨j, by simp; omega, by rw [gt3_app hj]; exact e1, by rw [gt3_app hj]; exact e2⟩
  · intro j hj
    rw [List.length_append, List.length_singleton] at hj
    by_cases e : j < l.length
    · rw [gt3_app e]
      obtain ⟨kl', h1, h2⟩ := h.gone j e
      exact ⟨kl', h1, by rw [h2]; rfl⟩
    · have : j = l.length := by omega
      subst this
      rw [gt3_last]
      refine ⟨kl, hkl, ?_⟩
      have : kl.sameKey kl = true := by
        have := keyed57.key hkl
        cases kl <;> simp_all [Lit.sameKey, WideAt.IsKeyLit]
      simp [this]
  · intro z hz
    exact h.sub z (by simp at hz; exact hz.1)
theorem RowsLeft.done {D : DataW Unit} {ps : List Piece} {left : Lit → Bool} {l : List Tri} (h : RowsLeft D ps left l) (hl : ∀ kl, left kl = false) (hw : ∀ a b, 0 < cntF ps a b → ∃ kl, keyOf Try.prog 57 (pr57 a b) = some kl) : RowsOf ps l :=
  ⟨h.nd, h.cnt, h.pos, fun a b hp => by
    obtain ⟨kl, hk⟩ := hw a b hp
    rcases h.cov a b kl hk hp with q | q
    · rw [hl kl] at q; cases q
    · exact q⟩
end Go.Proofs.Ytlfeoofchebbkaa
/- 'm[k]++' in a drawn region: the runs of its operations, in both orders. -/
namespace Go.Proofs.Ytlfeoofchebbkaa
set_option linter.unusedSimpArgs false
set_option linter.unusedVariables false
open Go
/-- The map behind 'the entry is there': what is read at the key does not turn. -/
theorem entry_reads {P : Program} {k e t : TypeId} (K : WideMaps.KeyLaw P k) (ht : P.underlying t = some (.map k e)) (he : P.underlying e = some (.int .i64)) (hz : ∀ u : World, (zeroValue e).run P u = .ok (.int .i64 0) u)
    {W : World} {b n : Nat} {D : DataW Unit} (OM : W.ownsMap P k (plainElem P e) b n D) (hn : n < maxLen) {key : Value} {kl : Lit} (hkl : keyOf P k key = some kl)
    {v0 : Value} {st : Nat} {es1 : Array MapEntry} {clock1 : Nat} (hM : (Instr.mapEntry t (.map (some b)) key).run P W = .ok (.tuple #[v0, goInt st]) (ChangeMaps.setBlock W b (.map es1 clock1))) :
    ∃ D1 : DataW Unit, (ChangeMaps.setBlock W b (.map es1 clock1)).ownsMap P k (plainElem P e) b (n + 1) D1 ∧ D1.atKey kl (.lit (.int .i64 0)) = D.atKey kl (.lit (.int .i64 0)) := by
  have KK := Maps.Keyed.of_law K
  have OM0 := OM
  obtain ⟨es, clock, hbm, F, hes, hD⟩ := OM
  rcases K.find W hkl es.toList F.keys with ⟨h1, h2⟩ | ⟨j, e0, h1, h2, h3⟩
  · have hM' : (Instr.mapEntry t (.map (some b)) key).run P W = .ok (.tuple #[.int .i64 0, goInt clock]) (ChangeMaps.setBlock W b (.map (es.push ⟨key, .int .i64 0, clock⟩) (clock + 1))) := by
      simp [Instr.mapEntry, run_underlying ht, MapKept.run_getObj_map hbm, K.check W false hkl, h1, hz, MapKept.run_setObj_map _ hbm, Result.andThen, ChangeMaps.setBlock]
    have hU : (Instr.mapUpdate t (.map (some b)) key (.int .i64 0)).run P W = .ok () (ChangeMaps.setBlock W b (.map (es.push ⟨key, .int .i64 0, clock⟩) (clock + 1))) := by
      simp [Instr.mapUpdate, run_underlying ht, MapKept.run_getObj_map hbm, K.check W false hkl, h1, MapKept.run_setObj_map _ hbm, Result.andThen, ChangeMaps.setBlock]
    rw [hM'] at hM
    injection hM with _ hM
    obtain ⟨w', hr, ow, _⟩ := OM0.update KK ht hn hkl (plainElem_int (a := 0) he (by decide))
    rw [hU] at hr
    injection hr with _ hr
    rw [← hM, hr]
    refine ⟨_, ow, ?_⟩
    rw [hD, Maps.atKey_put_same ⟨_, rfl⟩ (KK.key hkl)]
    rcases Maps.fit_look false KK ht (hz W) hbm F hkl with ⟨_, _, hat⟩ | ⟨e1, y, m1, m2, _⟩
    · exact (hat _).symm
    · exact absurd m2 (h2 e1 m1)
  · have hj : es[j]? = some e0 := by simpa using h2
    have hsame : es.modify j (fun e => { e with key := key }) = es := by
      apply Array.ext'
      rw [Array.toList_modify, ChangeMaps.modify_eq_set _ _ _ _ h2]
      have : ({ e0 with key := key } : MapEntry) = e0 := by rw [← h3]
      rw [this]
      exact WideElems.set_self _ _ _ h2
    have hM' : (Instr.mapEntry t (.map (some b)) key).run P W = .ok (.tuple #[e0.val, goInt e0.born]) (ChangeMaps.setBlock W b (.map es clock)) := by
      simp [Instr.mapEntry, run_underlying ht, MapKept.run_getObj_map hbm, K.check W false hkl, h1, hj, h3, K.stays W hkl, hsame, MapKept.run_setObj_map _ hbm, Result.andThen, ChangeMaps.setBlock]
    rw [hM'] at hM
    injection hM with _ hM
    rw [← hM]
    exact ⟨D, ⟨es, clock, ChangeMaps.heap_setBlock_same hbm _, F, by omega, hD⟩, rfl⟩
theorem bump_runs {P : Program} {k e t : TypeId} (K : WideMaps.KeyLaw P k) (ht : P.underlying t = some (.map k e)) (he : P.underlying e = some (.int .i64)) (hz : ∀ u : World, (zeroValue e).run P u = .ok (.int .i64 0) u)
    {W : World} {b n : Nat} {D : DataW Unit} (OM : W.ownsMap P k (plainElem P e) b n D) (hn : n + 1 < maxLen) {key : Value} {kl : Lit} (hkl : keyOf P k key = some kl) :
    ∃ (cc : Int) (v0 : Value) (st : Nat) (W1 : World), D.atKey kl (.lit (.int .i64 0)) = .lit (.int .i64 cc) ∧ (Lit.int .i64 cc).wf = true ∧
      (Instr.lookup t (.map (some b)) key false).run P W.drew = .ok (.int .i64 cc) W.drew ∧
      (Instr.mapEntry t (.map (some b)) key).run P W.drew = .ok (.tuple #[v0, .int .i64 st]) W1 ∧
      (Instr.lookup t (.map (some b)) key false).run P W1 = .ok (.int .i64 cc) W1 ∧
      ∀ x : Int, (Lit.int .i64 x).wf = true → ∃ W2, (Instr.entryStore t (.map (some b)) (.int .i64 st) (.int .i64 x)).run P W1 = .ok () W2 ∧
        W2.ownsMap P k (plainElem P e) b (n + 1) (D.put kl (.lit (.int .i64 x))) ∧ W.grownBy W2 (some b) ∧ W2.heap.size = W.heap.size := by
  have KK := Maps.Keyed.of_law K
  have OM0 := OM.drew
  obtain ⟨cc, hlk, hat, hwc⟩ := OM0.lookup_int KK ht he (hz _) hkl
  obtain ⟨es, clock, hbm, F, hes, hD⟩ := OM0
  have OM0 := OM.drew
  obtain ⟨v0, st, es1, clock1, hM, hv0, hS⟩ := WideElems.entry_then_store K ht hz hbm F hkl
  obtain ⟨D1, O1, hat1⟩ := entry_reads K ht he hz OM0 (by omega) hkl hM
  obtain ⟨c1, hlk1, hatc, _⟩ := O1.lookup_int KK ht he (hz _) hkl
  have e1 : c1 = cc := by
    rw [hat1, hat] at hatc
    injection hatc with hatc
    injection hatc with _ hatc
    exact hatc.symm
  subst e1
  refine ⟨c1, v0, st, _, hat, hwc, hlk, hM, hlk1, fun x hx => ?_⟩
  obtain ⟨es', clock', hS1, hU⟩ := hS _ (.int .i64 x) (ChangeMaps.heap_setBlock_same hbm _)
  obtain ⟨w', hr, ow, hg⟩ := OM0.update KK ht (by omega) hkl (plainElem_int he hx)
  rw [hU] at hr
  injection hr with _ hr
  have h1 : (ChangeMaps.setBlock W.drew b (.map es1 clock1)).heap[b]? = some (.map es1 clock1) := ChangeMaps.heap_setBlock_same hbm _
  refine ⟨_, hS1, ?_, ?_, ?_⟩
  · rw [← hr] at ow
    obtain ⟨es2, clock2, q1, q2, q3, q4⟩ := ow
    rw [ChangeMaps.heap_setBlock_same hbm] at q1
    exact ⟨es2, clock2, (ChangeMaps.heap_setBlock_same h1 _).trans q1, q2, q3, q4⟩
  · exact ⟨rfl, rfl, rfl, by simp [ChangeMaps.setBlock], fun i hi hne => by
      rw [ChangeMaps.heap_setBlock_other h1 _ (fun e => hne (by rw [e])), ChangeMaps.heap_setBlock_other hbm _ (fun e => hne (by rw [e]))]; rfl⟩
  · simp [ChangeMaps.setBlock]
end Go.Proofs.Ytlfeoofchebbkaa
