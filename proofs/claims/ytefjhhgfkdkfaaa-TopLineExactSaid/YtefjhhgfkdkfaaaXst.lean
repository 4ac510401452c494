/- The keys of what cannot be made: three numbers. -/
import Derived.Test.YtefjhhgfkdkfaaaFtk
import Derived.DeepKeys4
import Derived.Maps.OwnOps
import Derived.Maps.Ext
import Derived.WideKeyEntry
import Derived.Maps.Views
import Derived.Deep.RegionHeld3
namespace Go.Proofs.Ytefjhhgfkdkfaaa
set_option linter.unusedSimpArgs false
set_option linter.unusedVariables false
open Go.RowKit
theorem laid193 : laidOutB Try.prog = true := by kernel_rfl
theorem law193 : WideMaps.KeyLaw Try.prog 193 := deep_law_laid laid193 (m := 2) (by omega) (of_decide_eq_true (by kernel_rfl)) (by kernel_rfl) (by kernel_rfl)
theorem keyed193 : Maps.Keyed Try.prog 193 := Maps.Keyed.of_law law193
theorem pos193 : decide (0 < Try.prog.types.size) = true := by kernel_rfl
theorem size193 : ∃ m, Try.prog.types.size = m + 1 := ⟨Try.prog.types.size - 1, by have := of_decide_eq_true pos193; omega⟩
theorem kt193 : Try.prog.keyType 193 = true := by kernel_rfl
theorem cellsOf193 : Try.prog.cellsOf 193 = 3 := by kernel_rfl
theorem cellsOf3k : Try.prog.cellsOf 3 = 1 := by kernel_rfl
def st3 (a b c : Int) : Value := .agg #[.int .i64 a, .int .i64 b, .int .i64 c]
theorem st3_inj {a b c a' b' c' : Int} (h : st3 a b c = st3 a' b' c') : a = a' ∧ b = b' ∧ c = c' := by
  unfold st3 at h
  injection h with h
  have := congrArg Array.toList h
  simpa using this
set_option maxRecDepth 100000 in
theorem key193 (a b c : Int) (ha : (Lit.int .i64 a).wf = true) (hb : (Lit.int .i64 b).wf = true) (hc : (Lit.int .i64 c).wf = true) : ∃ s, keyOf Try.prog 193 (st3 a b c) = some (.string s) := by
  have hf : (st3 a b c).formed Try.prog 193 = true := by
    simp only [st3, Value.formed, Try.underlying193, cellsOf193]; rfl
  obtain ⟨m, hm⟩ := size193
  have hk : Try.prog.keyLits (m + 1 + 1) 193 [.int .i64 a, .int .i64 b, .int .i64 c] = some [.int .i64 a, .int .i64 b, .int .i64 c] := by
    unfold Program.keyLits
    simp only [Try.underlying193, cellsOf193, cellsOf3k, List.length_cons, List.length_nil, if_true]
    have h1 : ∀ x : Int, (Lit.int .i64 x).wf = true → Try.prog.keyLits (m + 1) 3 [.int .i64 x] = some [.int .i64 x] := fun x hx => by
      unfold Program.keyLits
      simp only [Try.underlying3, hx, and_self, if_true]
    simp [List.mapM_cons, cellsOf3k, h1 a ha, h1 b hb, h1 c hc]
  unfold keyOf
  rw [Try.underlying193]
  simp only [kt193, hf, Bool.and_self, if_true, hm]
  refine ⟨keyBytes [.int .i64 a, .int .i64 b, .int .i64 c], ?_⟩
  rw [show (st3 a b c).cells.toList = [.int .i64 a, .int .i64 b, .int .i64 c] from rfl, hk]
  rfl
end Go.Proofs.Ytefjhhgfkdkfaaa
/- Plain: just so many spaces that make a width: the first choice. -/
namespace Go.Proofs.Ytefjhhgfkdkfaaa
set_option linter.unusedSimpArgs false
set_option linter.unusedVariables false
/-- The first of n answers that is one. -/
def fsome {α : Type} (g : Nat → Option α) : Nat → Option α
  | 0 => none
  | n + 1 => match fsome g n with
    | some x => some x
    | none => g n
theorem fsome_none {α : Type} {g : Nat → Option α} : ∀ {n : Nat}, (∀ k, k < n → g k = none) → fsome g n = none
  | 0, _ => rfl
  | n + 1, h => by
    unfold fsome
    rw [fsome_none (n := n) fun k hk => h k (by omega)]
    exact h n (by omega)
theorem fsome_hit {α : Type} {g : Nat → Option α} {k : Nat} {x : α} (hx : g k = some x) (h : ∀ j, j < k → g j = none) : ∀ {n : Nat}, k < n → fsome g n = some x
  | 0, hk => absurd hk (Nat.not_lt_zero _)
  | n + 1, hk => by
    unfold fsome
    rcases Nat.lt_or_ge k n with hlt | hge
    · rw [fsome_hit hx h hlt]
    · have e : k = n := by omega
      subst e
      rw [fsome_none h]
      exact hx
theorem fsome_some {α : Type} {g : Nat → Option α} {x : α} : ∀ {n : Nat}, fsome g n = some x → ∃ k, k < n ∧ g k = some x ∧ ∀ j, j < k → g j = none
  | 0, h => by simp [fsome] at h
  | n + 1, h => by
    unfold fsome at h
    cases hq : fsome g n with
    | some y =>
      rw [hq] at h
      obtain ⟨k, h1, h2, h3⟩ := fsome_some hq
      simp only [Option.some.injEq] at h
      subst h
      exact ⟨k, by omega, h2, h3⟩
    | none =>
      rw [hq] at h
      refine ⟨n, by omega, h, fun j hj => ?_⟩
      have : ∀ {m : Nat}, fsome g m = none → ∀ j, j < m → g j = none := by
        intro m
        induction m with
        | zero => intro _ j hj; omega
        | succ m ih =>
          intro hm j hj
          unfold fsome at hm
          cases hp : fsome g m with
          | some y => rw [hp] at hm; cases hm
          | none =>
            rw [hp] at hm
            rcases Nat.lt_or_ge j m with hlt | hge
            · exact ih hp j hlt
            · have e : j = m := by omega
              subst e; exact hm
      exact this hq j hj
theorem fsome_all {α : Type} {g : Nat → Option α} {m : Nat} (h : fsome g m = none) : ∀ j, j < m → g j = none := by
  intro j hj
  cases hg : g j with
  | none => rfl
  | some x =>
    exfalso
    -- the first such place
    have : ∀ n, (∃ k, k < n ∧ k < m ∧ g k ≠ none) → fsome g m ≠ none := by
      intro n
      induction n with
      | zero => rintro ⟨k, hk, _⟩; omega
      | succ n ih =>
        rintro ⟨k, hk, hkm, hgk⟩
        by_cases he : ∃ k, k < n ∧ k < m ∧ g k ≠ none
        · exact ih he
        · have hn : ∀ i, i < k → g i = none := by
            intro i hi
            cases hgi : g i with
            | none => rfl
            | some y => exact absurd ⟨i, by omega, by omega, by rw [hgi]; simp⟩ he
          cases hgk2 : g k with
          | none => exact absurd hgk2 hgk
          | some y => rw [fsome_hit hgk2 hn hkm]; simp
    exact this (j + 1) ⟨j, by omega, hj, by rw [hg]; simp⟩ h
/-- The first counts of just so many spaces that make a width: each space with its limit and its width. -/
def exq : List (Nat × Nat) → Nat → Nat → Option (List Nat)
  | [], s, w => if s = 0 ∧ w = 0 then some [] else none
  | q :: qs, s, w => fsome (fun k => (exq qs (s - k) (w - k * q.2)).map (k :: ·)) (min (min q.1 s) (w / q.2) + 1)
theorem div_le (k u w : Nat) (hu : 0 < u) : k ≤ w / u ↔ k * u ≤ w := Nat.le_div_iff_mul_le hu
def sumN (l : List Nat) : Nat := l.foldr (· + ·) 0
/-- The width of counts of spaces. -/
def widN : List (Nat × Nat) → List Nat → Nat
  | q :: qs, k :: ks => k * q.2 + widN qs ks
  | _, _ => 0
/-- No count is above its limit. -/
def limN : List (Nat × Nat) → List Nat → Prop
  | q :: qs, k :: ks => k ≤ q.1 ∧ limN qs ks
  | [], [] => True
  | _, _ => False
theorem exq_sound : ∀ {qs : List (Nat × Nat)} {s w : Nat} {r : List Nat}, (∀ q ∈ qs, 0 < q.2) → exq qs s w = some r → sumN r = s ∧ widN qs r = w ∧ limN qs r
  | [], s, w, r, _, h => by
    unfold exq at h
    split at h
    · rename_i hc
      injection h with h
      subst h
      exact ⟨hc.1.symm, hc.2.symm, trivial⟩
    · cases h
  | q :: qs, s, w, r, hp, h => by
    unfold exq at h
    obtain ⟨k, h1, h2, -⟩ := fsome_some h
    have hu := hp q (by simp)
    have h3 : k ≤ w / q.2 := by omega
    rw [div_le _ _ _ hu] at h3
    cases he : exq qs (s - k) (w - k * q.2) with
    | none => rw [he] at h2; cases h2
    | some r' =>
      rw [he] at h2
      simp only [Option.map_some, Option.some.injEq] at h2
      subst h2
      obtain ⟨i1, i2, i3⟩ := exq_sound (fun x hx => hp x (by simp [hx])) he
      refine ⟨?_, ?_, ?_, i3⟩
      · show k + sumN r' = s
        omega
      · show k * q.2 + widN qs r' = w
        omega
      · omega
/-- The counts of the fewest spaces that make a width: from least on, n numbers are tried. -/
def fewS (qs : List (Nat × Nat)) (w least n : Nat) : Option (List Nat) := fsome (fun k => exq qs (least + k) w) n
end Go.Proofs.Ytefjhhgfkdkfaaa
/- What cannot be made: a map from three numbers to a truth value. -/
namespace Go.Proofs.Ytefjhhgfkdkfaaa
set_option linter.unusedSimpArgs false
set_option linter.unusedVariables false
open Go.RowKit
open Go.Maps (Keyed)
theorem zero4b (w : World) : (zeroValue 4).run Try.prog w = .ok (.bool false) w := by kernel_rfl
theorem plainElem_bool_inv {H : Type} {P : Program} {e : TypeId} (he : P.underlying e = some .bool) {v : Value} {z : DataW H × List MemPlace} (h : plainElem P e v = some z) : ∃ a, v = .bool a ∧ z = (.lit (.bool a), []) := by
  unfold plainElem at h
  rw [he] at h
  cases v <;> simp at h
  exact ⟨_, rfl, h.symm⟩
/-- 'm[k]' at truth values. -/
theorem ownsMap_lookup_bool {H : Type} {P : Program} {w : World} {t k e : TypeId} {b n : Nat} {D : DataW H} (h : w.ownsMap P k (plainElem P e) b n D) (K : Keyed P k) (ht : P.underlying t = some (.map k e)) (he : P.underlying e = some .bool) (hz : (zeroValue e).run P w = .ok (.bool false) w)
    {key : Value} {kl : Lit} (hkey : keyOf P k key = some kl) : ∃ c, (Instr.lookup t (.map (some b)) key false).run P w = .ok (.bool c) w ∧ D.atKey kl (.lit (.bool false)) = .lit (.bool c) := by
  obtain ⟨v, ps, hrun, hv⟩ := h.lookup K ht hz (plainElem_bool he false) hkey
  obtain ⟨c, rfl, hc⟩ := plainElem_bool_inv he hv
  simp only [Prod.mk.injEq] at hc
  exact ⟨c, hrun, hc.1⟩
theorem wpList_lookup_own_bool {H : Type} {P : Program} (w : World) {ops : Array Oper} {rest : List Oper} {o : Oper} {a : Act} {Q : Exit → Act → World → Prop}
    (hg : o.guard = none) (m x : Operand) (t : TypeId) (hop : o.op = Op.lookup t m x false)
    (k e : TypeId) (K : Keyed P k) (ht : P.underlying t = some (.map k e)) (he : P.underlying e = some .bool) (hz : (zeroValue e).run P w = .ok (.bool false) w) (b n : Nat) (D : DataW H)
    (hm : a.eval m = .map (some b)) (hown : w.ownsMap P k (plainElem P e) b n D) (key : Value) (kl : Lit) (hx : a.eval x = key) (hkey : keyOf P k key = some kl)
    (hK : ∀ c : Bool, D.atKey kl (.lit (.bool false)) = .lit (.bool c) → wpList P ops Q rest (a.put o.dst (.bool c)) w) :
    wpList P ops Q (o :: rest) a w := by
  refine wpList_plain hg fun K' hK' => ?_
  obtain ⟨c, hrun, hat⟩ := ownsMap_lookup_bool hown K ht he hz hkey
  unfold Oper.wp
  simp [execOp, hop, hm, hx, hrun, Result.andThen]
  exact hK' _ _ (hK c hat)
/-- What the map says: nothing, or what truly cannot be made. -/
structure FailM (D : DataW Unit) (qs : List (Nat × Nat)) : Prop where
  im : Maps.IsMap D
  val : ∀ (i s w : Nat) kl, keyOf Try.prog 193 (st3 i s w) = some kl → D.atKey kl (.lit (.bool false)) = .lit (.bool true) → exq (qs.drop i) s w = none
theorem failM_nil (qs : List (Nat × Nat)) : FailM (.map []) qs := ⟨Maps.isMap_empty, fun i s w kl h h2 => by cases h2⟩
set_option maxRecDepth 100000 in
theorem FailM.put {D : DataW Unit} {qs : List (Nat × Nat)} (h : FailM D qs) {i s w : Nat} {kl : Lit} (hk : keyOf Try.prog 193 (st3 i s w) = some kl) (he : exq (qs.drop i) s w = none) : FailM (D.put kl (.lit (.bool true))) qs := by
  refine ⟨h.im.put _ _, fun i' s' w' kl' h1 h2 => ?_⟩
  by_cases e : kl' = kl
  · subst e
    obtain ⟨e1, e2, e3⟩ := st3_inj (keyed193.inj h1 hk)
    have f1 : i' = i := Int.ofNat.inj e1
    have f2 : s' = s := Int.ofNat.inj e2
    have f3 : w' = w := Int.ofNat.inj e3
    rw [f1, f2, f3]
    exact he
  · refine h.val i' s' w' kl' h1 ?_
    rw [← h2]
    exact (Maps.atKey_put_other e _ _).symm
end Go.Proofs.Ytefjhhgfkdkfaaa
/- exactly: where the search has its boxes, and what a step changes. -/
namespace Go.Proofs.Ytefjhhgfkdkfaaa
set_option linter.unusedSimpArgs false
set_option linter.unusedVariables false
open Go.RowKit
/-- What is asked for: the eight cells of a need. -/
@[reducible, go_sem] def ncs (f : Fnt) (v vs vl : Value) (a b : Int) (mv : Value) : Array Value := #[.string f.name, .int .i64 f.body, v, vs, vl, .int .i64 a, .int .i64 b, mv]
/-- The spaces with their limits and widths, and where they lie. -/
structure XP (w0 : World) (f : Fnt) (v vs vl : Value) (qs : List (Nat × Nat)) (sp lim : List Int) : Prop where
  s : SoV w0 f.sorts v
  p : IV w0 sp vs
  l : IV w0 lim vl
  few : f.sorts.length ≤ 120
  sp8 : sp.length ≤ 8
  inF : InF f sp
  lok : CsOk f.sorts.length lim
  qlen : qs.length = sp.length
  qat : ∀ j, j < sp.length → qs[j]? = some ((gz lim (gz sp j).toNat).toNat, (wd f (gz sp j)).toNat)
  wdp : ∀ j, j < sp.length → 1 ≤ wd f (gz sp j) ∧ wd f (gz sp j) ≤ 100000
  asc : ∀ i j, i < j → j < sp.length → gz sp i < gz sp j
/-- The search, at work. -/
structure XS (w0 W : World) (nb ob tb mb gb co : Nat) (f : Fnt) (v vs vl : Value) (a b : Int) (qs : List (Nat × Nat)) (out : List Int) (nn : Nat) (D : DataW Unit) : Prop where
  B : Below w0.heap.size w0 W
  N : Blk W nb 159 (ncs f v vs vl a b (.map (some mb)))
  O : Blk W ob 30 #[.slice (some ⟨gb, 0, none⟩) f.sorts.length co]
  T : Blk W tb 191 #[.func (.func 136) #[] #[.pointer (some ⟨nb, 0, none⟩), .pointer (some ⟨ob, 0, none⟩), .pointer (some ⟨tb, 0, none⟩)]]
  I : IO W w0.heap.size out (.slice (some ⟨gb, 0, none⟩) f.sorts.length co)
  M : W.ownsMap Try.prog 193 (plainElem Try.prog 4) mb nn D
  F : FailM D qs
  len : out.length = f.sorts.length
  hm : w0.heap.size ≤ mb
  hg : w0.heap.size ≤ gb
  hne : gb ≠ mb ∧ nb ≠ gb ∧ nb ≠ mb ∧ ob ≠ gb ∧ ob ≠ mb ∧ tb ≠ gb ∧ tb ≠ mb
section
variable {w0 W W' : World} {nb ob tb mb gb co : Nat} {f : Fnt} {v vs vl : Value} {a b : Int} {qs : List (Nat × Nat)} {out : List Int} {nn : Nat} {D : DataW Unit}
theorem XS.below (h : XS w0 W nb ob tb mb gb co f v vs vl a b qs out nn D) (hb : Below W.heap.size W W') : XS w0 W' nb ob tb mb gb co f v vs vl a b qs out nn D :=
  ⟨h.B.trans (hb.mono h.B.size), h.N.below hb h.N.lt, h.O.below hb h.O.lt, h.T.below hb h.T.lt, h.I.below hb, h.M.kept (grown_of_below hb none) (by simp), h.F, h.len, h.hm, h.hg, h.hne⟩
theorem XS.but (h : XS w0 W nb ob tb mb gb co f v vs vl a b qs out nn D) (hb : But2 gb mb W W') {out' : List Int} {nn' : Nat} {D' : DataW Unit} (hI : IO W' w0.heap.size out' (.slice (some ⟨gb, 0, none⟩) f.sorts.length co)) (hl : out'.length = f.sorts.length)
    (hM : W'.ownsMap Try.prog 193 (plainElem Try.prog 4) mb nn' D') (hF : FailM D' qs) : XS w0 W' nb ob tb mb gb co f v vs vl a b qs out' nn' D' := by
  obtain ⟨n1, n2, n3, n4, n5, n6, n7⟩ := h.hne
  exact ⟨h.B.trans (hb.below h.hg h.hm h.B.size), (hb.block _ h.N.lt n2 n3).trans h.N, (hb.block _ h.O.lt n4 n5).trans h.O, (hb.block _ h.T.lt n6 n7).trans h.T, hI, hM, hF, hl, h.hm, h.hg, h.hne⟩
/-- A count is laid. -/
theorem XS.put (h : XS w0 W nb ob tb mb gb co f v vs vl a b qs out nn D) {q : Nat} (hq : q < f.sorts.length) (x : Int) : XS w0 (W.setCell ⟨gb, q, none⟩ (.int .i64 x)) nb ob tb mb gb co f v vs vl a b qs (out.set q x) nn D := by
  obtain ⟨g, he, -, -, -, -, hp⟩ := h.I.at (i := q) (by rw [h.len]; exact hq)
  injection he with he
  injection he with he
  subst he
  have hg := grown_setCell W gb q (.int .i64 x)
  exact h.but (But2.of_grown hg (.inl rfl)) (hp x) (by rw [List.length_set]; exact h.len) (h.M.kept hg (by intro e; injection e with e; exact h.hne.1 e.symm)) h.F
/-- What cannot be made is noted. -/
theorem XS.ins (h : XS w0 W nb ob tb mb gb co f v vs vl a b qs out nn D) (hg : W.grownBy W' (some mb)) {nn' : Nat} {D' : DataW Unit} (hM : W'.ownsMap Try.prog 193 (plainElem Try.prog 4) mb nn' D') (hF : FailM D' qs) : XS w0 W' nb ob tb mb gb co f v vs vl a b qs out nn' D' :=
  h.but (But2.of_grown hg (.inr rfl)) (h.I.keptG hg (.inr (by rw [ownBlock_some]; intro e; injection e with e; exact h.hne.1 e))) h.len hM hF
end
/-- Counts laid at the spaces. -/
def putR : List Int → List Int → List Nat → List Int
  | out, p :: ps, k :: ks => putR (out.set p.toNat (k : Int)) ps ks
  | out, _, _ => out
/-- How many entries a search of so many spaces makes at most. -/
def cB : Nat → Nat
  | 0 => 0
  | m + 1 => 1 + 91 * cB m
theorem cB_le : ∀ {m : Nat}, m ≤ 8 → cB m ≤ 53000000000000 := by
  intro m hm
  have h : ∀ m, m ≤ 8 → cB m ≤ cB 8 := by
    intro m hm
    rcases (show m = 0 ∨ m = 1 ∨ m = 2 ∨ m = 3 ∨ m = 4 ∨ m = 5 ∨ m = 6 ∨ m = 7 ∨ m = 8 by omega) with rfl | rfl | rfl | rfl | rfl | rfl | rfl | rfl | rfl <;> decide
  have := h m hm
  have h8 : cB 8 ≤ 53000000000000 := by decide
  omega
/-- The answer of the search at a place: whether just so many spaces of those from there on make a width; they are laid, or nothing is. -/
def XPost (w0 W : World) (nb ob tb mb gb co : Nat) (f : Fnt) (v vs vl : Value) (a b : Int) (qs : List (Nat × Nat)) (sp out : List Int) (nn : Nat) (at_ s w : Nat) (e : Ending) (W' : World) : Prop :=
  But2 gb mb W W' ∧ ∃ out' nn' D', XS w0 W' nb ob tb mb gb co f v vs vl a b qs out' nn' D' ∧ nn ≤ nn' ∧ nn' ≤ nn + cB (sp.length - at_) ∧
    ((exq (qs.drop at_) s w = none ∧ e = .returned (.bool false) ∧ out' = out) ∨ ∃ r, exq (qs.drop at_) s w = some r ∧ e = .returned (.bool true) ∧ out' = putR out (sp.drop at_) r)
end Go.Proofs.Ytefjhhgfkdkfaaa
/- exactly's search: the closure that calls itself. -/
namespace Go.Proofs.Ytefjhhgfkdkfaaa
set_option linter.unusedSimpArgs false
set_option linter.unusedVariables false
open Go.RowKit
set_option maxRecDepth 100000 in
set_option maxHeartbeats 4000000 in
theorem try_end {w0 : World} {f : Fnt} {v vs vl : Value} {qs : List (Nat × Nat)} {sp lim : List Int} (hP : XP w0 f v vs vl qs sp lim) {W : World} {nb ob tb mb gb co : Nat} {a b : Int} {out : List Int} {nn : Nat} {D : DataW Unit} (h : XS w0 W nb ob tb mb gb co f v vs vl a b qs out nn D) (s w : Nat) (hs : s ≤ 90) (hw : w ≤ 20000) :
    Calls Try.prog 136 #[.agg #[.int .i64 (sp.length : Int), .int .i64 (s : Int), .int .i64 (w : Int)], .pointer (some ⟨nb, 0, none⟩), .pointer (some ⟨ob, 0, none⟩), .pointer (some ⟨tb, 0, none⟩)] W (XPost w0 W nb ob tb mb gb co f v vs vl a b qs sp out nn sp.length s w) := by
  obtain ⟨As, bs, os, cs, rfl, -, -, -, -⟩ := hP.p.open
  obtain ⟨Av, cv, rfl⟩ := hP.s.shape
  obtain ⟨Al, bl, ol, cl, rfl, -, -, -, -⟩ := hP.l.open
  have hbn := below_new W (.cells #[.int .i64 (sp.length : Int), .int .i64 (s : Int), .int .i64 (w : Int)] 193)
  have hX := h.below hbn
  have hK := Blk.new W 193 #[.int .i64 (sp.length : Int), .int .i64 (s : Int), .int .i64 (w : Int)]
  have k0 := hK.cell 0
  have k1 := hK.cell 1
  have k2 := hK.cell 2
  have kl := hK.lt
  have n3 := hX.N.cell 3
  have nl := hX.N.lt
  have hd : qs.drop sp.length = [] := List.drop_of_length_le (by rw [hP.qlen]; exact Nat.le_refl _)
  have HP : Hid (∀ x : Bool, x = decide (s = 0 ∧ w = 0) → XPost w0 W nb ob tb mb gb co f (.slice Av f.sorts.length cv) (.slice As sp.length cs) (.slice Al lim.length cl) a b qs sp out nn sp.length s w (.returned (.bool x)) (W.alloc (.cells #[.int .i64 (sp.length : Int), .int .i64 (s : Int), .int .i64 (w : Int)] 193))) := (show ∀ x, _ from fun x hx => by
    refine ⟨But2.of_below hbn, out, nn, D, hX, Nat.le_refl _, Nat.le_add_right _ _, ?_⟩
    rw [hd]
    by_cases hc : s = 0 ∧ w = 0
    · right
      refine ⟨[], by unfold exq; rw [if_pos hc], by rw [hx, decide_eq_true hc], ?_⟩
      rw [List.drop_of_length_le (Nat.le_refl _)]
      rfl
    · left
      exact ⟨by unfold exq; rw [if_neg hc], by rw [hx, decide_eq_false hc], rfl⟩)
  have hp8 := hP.sp8
  clear hX hK hbn h hP hd
  generalize sp.length = N at *
  go_enter Try.func136, Try.ntmps136
  go_upto_region 1 with fail
  generalize W.alloc (.cells #[.int .i64 (N : Int), .int .i64 (s : Int), .int .i64 (w : Int)] 193) = Wq at *
  by_cases hs0 : s = 0
  · have hs1 : (s : Int) = 0 := by omega
    by_cases hw0 : w = 0
    · have hw1 : (w : Int) = 0 := by omega
      have HX := Lib.hid (HP.out true (by rw [decide_eq_true ⟨hs0, hw0⟩]))
      clear hs0 hw0
      go_wp2_with fail
      go_ret
      exact HX.out
    · have hw1 : ¬ (w : Int) = 0 := by omega
      have hw2 := beq_false_of_ne hw1
      have HX := Lib.hid (HP.out false (by rw [decide_eq_false (fun h => hw0 h.2)]))
      clear hs0
      go_wp2_with fail
      go_ret
      exact HX.out
  · have hs1 : ¬ (s : Int) = 0 := by omega
    have HX := Lib.hid (HP.out false (by rw [decide_eq_false (fun h => hs0 h.1)]))
    go_wp2_with fail
    go_ret
    exact HX.out
end Go.Proofs.Ytefjhhgfkdkfaaa
