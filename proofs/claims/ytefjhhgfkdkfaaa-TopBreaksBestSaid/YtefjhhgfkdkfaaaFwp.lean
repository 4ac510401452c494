/- The fewest lines, place by place, in a map: plain, and the map in memory. -/
import Derived.Test.YtefjhhgfkdkfaaaWay
import Derived.Test.YtefjhhgfkdkfaaaKno
import Derived.Maps.OwnIn
namespace Go.Proofs.Ytefjhhgfkdkfaaa
set_option linter.unusedSimpArgs false
set_option linter.unusedVariables false
open Go.RowKit Go.Shelf
def hpt (t : Tb) (k : Nat) (pre : List Nat) (j : Nat) : Option Nat := if j ∈ pre then hop t (k + 1) j else hop t k j
theorem hop_some {t : Tb} {k j d m : Nat} (h : t k j = some d) (hk : hop t k k = some m) : hop t (k + 1) j = match hop t k j with | none => some (m + 1) | some x => if m + 1 < x then some (m + 1) else some x := by
  show (match t k j with | none => hop t k j | some _ => match hop t k k with | none => hop t k j | some m => match hop t k j with | none => some (m + 1) | some x => if m + 1 < x then some (m + 1) else some x) = _
  rw [h, hk]
theorem hop_none {t : Tb} {k j : Nat} (h : t k j = none) : hop t (k + 1) j = hop t k j := by
  show (match t k j with | none => hop t k j | some _ => _) = _
  rw [h]
theorem hop_not {t : Tb} {k : Nat} (hk : hop t k k = none) (j : Nat) : hop t (k + 1) j = hop t k j := by
  cases hd : t k j with
  | none => exact hop_none hd
  | some d =>
    show (match t k j with | none => hop t k j | some _ => match hop t k k with | none => hop t k j | some m => match hop t k j with | none => some (m + 1) | some x => if m + 1 < x then some (m + 1) else some x) = _
    rw [hd, hk]
/-- One line more. -/
theorem hpt_new {t : Tb} {k j d m : Nat} {pre : List Nat} (h : t k j = some d) (hk : hop t k k = some m) (hp : hpt t k pre j = none) : hop t (k + 1) j = some (m + 1) := by
  have h1 := hop_some h hk
  unfold hpt at hp
  by_cases e : j ∈ pre
  · rw [if_pos e] at hp
    rw [hp] at h1
    cases hx : hop t k j with
    | none => rw [hx] at h1; cases h1
    | some x =>
      rw [hx] at h1
      by_cases e2 : m + 1 < x
      · simp only [if_pos e2] at h1; cases h1
      · simp only [if_neg e2] at h1; cases h1
  · rw [if_neg e] at hp
    rw [h1, hp]
theorem hpt_less {t : Tb} {k j d m x : Nat} {pre : List Nat} (h : t k j = some d) (hk : hop t k k = some m) (hp : hpt t k pre j = some x) : hop t (k + 1) j = if m + 1 < x then some (m + 1) else some x := by
  have h1 := hop_some h hk
  unfold hpt at hp
  by_cases e : j ∈ pre
  · rw [if_pos e] at hp
    rw [hp] at h1 ⊢
    have hx2 : ¬ m + 1 < x := by
      cases hx : hop t k j with
      | none => rw [hx] at h1; cases h1; omega
      | some y =>
        rw [hx] at h1
        by_cases e2 : m + 1 < y
        · simp only [if_pos e2] at h1; cases h1; omega
        · simp only [if_neg e2] at h1; cases h1; exact e2
    rw [if_neg hx2]
  · rw [if_neg e] at hp
    rw [h1, hp]
theorem hpt_snoc {t : Tb} {k j : Nat} {pre : List Nat} : hpt t k (pre ++ [j]) = fun i => if i = j then hop t (k + 1) j else hpt t k pre i := by
  funext i
  unfold hpt
  by_cases e : i = j
  · subst e; simp
  · simp [e]
theorem hpt_stay {t : Tb} {k j d m x : Nat} {pre : List Nat} (h : t k j = some d) (hk : hop t k k = some m) (hp : hpt t k pre j = some x) (hn : ¬ m + 1 < x) : hpt t k (pre ++ [j]) = hpt t k pre := by
  rw [hpt_snoc]
  funext i
  by_cases e : i = j
  · subst e
    rw [if_pos rfl, hpt_less h hk hp, if_neg hn, hp]
  · rw [if_neg e]
theorem hpt_end {t : Tb} {n D k : Nat} (ht : TbOk t n D) (hk : k < n) : ∀ j, j < n → hpt t k (stp t k (n - 1 - k)) j = hop t (k + 1) j := fun j hj => by
  unfold hpt
  by_cases hp : j ∈ stp t k (n - 1 - k)
  · rw [if_pos hp]
  · rw [if_neg hp]
    symm
    apply hop_none
    cases hd : t k j with
    | none => rfl
    | some d =>
      exfalso
      apply hp
      have := ht.up hd
      rw [stp_mem, hd]
      exact ⟨this.1, by omega, rfl⟩
theorem hpt_nil (t : Tb) (k : Nat) : hpt t k [] = hop t k := by funext i; simp [hpt]
theorem hop_lt {t : Tb} {n D k m : Nat} (ht : TbOk t n D) (hk : k < n) (h : hop t k k = some m) : m < n := by
  obtain ⟨b, c, hp, hl⟩ := hop_path ht k k m h
  have := (hp.lt ht hk).2
  omega
/-- The map of counts in memory. -/
def HopS (W : World) (mb N : Nat) (P : Nat → Option Nat) (c : Nat) : Prop :=
  ∃ D : DataW Unit, W.ownsMap Try.prog 3 (plainElem Try.prog 3) mb c D ∧ Maps.IsMap D ∧ ∀ j, j < N → Maps.has D (.int .i64 (j : Int)) = (P j).isSome ∧ (∀ m, P j = some m → D.atKey (.int .i64 (j : Int)) (.lit (.int .i64 0)) = .lit (.int .i64 (m : Int)))
theorem HopS.kept {W W' : World} {mb N c : Nat} {P : Nat → Option Nat} {row : Option Nat} (h : HopS W mb N P c) (hg : W.grownBy W' row) (hne : some mb ≠ row) : HopS W' mb N P c := by
  obtain ⟨D, h1, h2⟩ := h
  exact ⟨D, h1.kept hg hne, h2⟩
theorem HopS.below {W W' : World} {mb N c : Nat} {P : Nat → Option Nat} (h : HopS W mb N P c) (hb : Below W.heap.size W W') : HopS W' mb N P c := h.kept (grown_of_below hb none) (by simp)
theorem HopS.mono {W : World} {mb N c c' : Nat} {P : Nat → Option Nat} (h : HopS W mb N P c) (hc : c ≤ c') : HopS W mb N P c' := by
  obtain ⟨D, h1, h2⟩ := h
  exact ⟨D, h1.mono hc, h2⟩
theorem HopS.lt {W : World} {mb N c : Nat} {P : Nat → Option Nat} (h : HopS W mb N P c) : mb < W.heap.size := by
  obtain ⟨D, h1, -⟩ := h
  exact h1.lt
theorem HopS.congr {W : World} {mb N c : Nat} {P Q : Nat → Option Nat} (h : HopS W mb N P c) (e : ∀ j, j < N → P j = Q j) : HopS W mb N Q c := by
  obtain ⟨D, h1, h2, h3⟩ := h
  exact ⟨D, h1, h2, fun j hj => by rw [← e j hj]; exact h3 j hj⟩
theorem keyInt (j : Nat) (hj : j ≤ 1000000) : keyOf Try.prog 3 (.int .i64 (j : Int)) = some (.int .i64 (j : Int)) := Maps.keyOf_int_mk Try.underlying3 (by simp [Lit.wf, IntKind.min, IntKind.max, IntKind.signed, IntKind.bits]; omega)
theorem HopS.put {W' : World} {mb N c j m : Nat} {P : Nat → Option Nat} {D : DataW Unit} (h2 : Maps.IsMap D) (h3 : ∀ j, j < N → Maps.has D (.int .i64 (j : Int)) = (P j).isSome ∧ (∀ m, P j = some m → D.atKey (.int .i64 (j : Int)) (.lit (.int .i64 0)) = .lit (.int .i64 (m : Int))))
    (h1 : W'.ownsMap Try.prog 3 (plainElem Try.prog 3) mb c (D.put (.int .i64 (j : Int)) (.lit (.int .i64 (m : Int))))) : HopS W' mb N (fun i => if i = j then some m else P i) c := by
  refine ⟨_, h1, h2.put _ _, fun i hi => ?_⟩
  by_cases e : i = j
  · subst e
    refine ⟨?_, fun m' hm' => ?_⟩
    · show _ = (if i = i then some m else P i).isSome
      rw [Maps.has_put_same h2 (show WideAt.IsKeyLit (.int .i64 _) from trivial), if_pos rfl]; rfl
    · replace hm' : (if i = i then some m else P i) = some m' := hm'
      rw [if_pos rfl] at hm'
      injection hm' with hm'
      rw [Maps.atKey_put_same h2 (show WideAt.IsKeyLit (.int .i64 _) from trivial), hm']
  · have hne : (Lit.int .i64 (i : Int)) ≠ .int .i64 (j : Int) := fun h => by injection h with _ h; omega
    refine ⟨?_, fun m' hm' => ?_⟩
    · show _ = (if i = j then some m else P i).isSome
      rw [Maps.has_put_other hne, if_neg e]; exact (h3 i hi).1
    · replace hm' : (if i = j then some m else P i) = some m' := hm'
      rw [if_neg e] at hm'
      rw [Maps.atKey_put_other hne]; exact (h3 i hi).2 m' hm'
theorem HopS.start {W' : World} {mb N : Nat} {t : Tb} (h1 : W'.ownsMap Try.prog 3 (plainElem (H := Unit) Try.prog 3) mb 1 ((DataW.map []).put (.int .i64 0) (.lit (.int .i64 0)))) : HopS W' mb N (hop t 0) 1 := by
  have := HopS.put (N := N) (j := 0) (m := 0) (P := fun _ => none) (D := .map []) (c := 1) (W' := W') (mb := mb) Maps.isMap_empty (fun j _ => ⟨rfl, fun m hm => by cases hm⟩) h1
  exact this.congr (fun j _ => rfl)
theorem wpList_insert_own {ops : Array Oper} {rest : List Oper} {o : Oper} {a : Act} {Q : Exit → Act → World → Prop} {H : Type} {P : Program} (w : World)
    (hg : o.guard = none) (m x v : Operand) (t : TypeId) (hop : o.op = Op.insert t m x v)
    (k e : TypeId) (K : Maps.Keyed P k) (ht : P.underlying t = some (.map k e)) (R : Value → Option (DataW H × List MemPlace)) (b n : Nat) (D : DataW H)
    (hm : a.eval m = .map (some b)) (hown : w.ownsMap P k R b n D) (hn : n < maxLen) (key val : Value) (kl : Lit) (hx : a.eval x = key) (hv : a.eval v = val) (hkey : keyOf P k key = some kl)
    (d : DataW H) (ps : List MemPlace) (hval : R val = some (d, ps))
    (hK : ∀ w', w'.ownsMap P k R b (n + 1) (D.put kl d) → w.grownBy w' (some b) → wpList P ops Q rest (a.put o.dst undef) w') :
    wpList P ops Q (o :: rest) a w := by
  refine wpList_plain hg fun K' hK' => ?_
  obtain ⟨w', hrun, r1, r2⟩ := hown.update K ht hn hkey hval
  unfold Oper.wp
  simp [execOp, hop, hm, hx, hv, hrun, Result.andThen]
  exact hK' _ _ (hK w' r1 r2)
theorem at_ins {ops : Array Oper} {rest : List Oper} {a : Act} {Q : Exit → Act → World → Prop} {P : Program} {w : World} {d : Option Tmp} {t : TypeId} {m x v : Operand} {ty : TypeId} {pos : String} {af : Array Edge} {g : Option (Nat × Bool)}
    (h : wpList P ops Q ({ dst := d, op := .insert t m x v, type := ty, pos := pos, after := af, guard := g } :: rest) a w) : wpList P ops Q ({ dst := d, op := .insert t m x v, type := ty, pos := pos, after := af, guard := g } :: rest) a w := h
theorem law3 : Maps.Keyed Try.prog 3 := Maps.int_keyed Try.underlying3
/-- Fewest between two rounds. -/
structure FS (W w : World) (ob mb N : Nat) (P : Nat → Option Nat) (c : Nat) (Ds : List Nat) : Prop where
  B : Below w.heap.size w W
  M : HopS W mb N P c
  O : Blk W ob 80 #[.map (some mb)]
  nd : Ds.Nodup
  mks : ∀ D, D ∈ Ds → w.heap.size ≤ D ∧ W.heap[D]? = some (.deferred (some []))
  lo : w.heap.size ≤ mb ∧ w.heap.size ≤ ob ∧ mb ≠ ob
theorem FS.below {W W' w : World} {ob mb N c : Nat} {P : Nat → Option Nat} {Ds : List Nat} (s : FS W w ob mb N P c Ds) (hb : Below W.heap.size W W') : FS W' w ob mb N P c Ds :=
  ⟨s.B.trans (hb.mono s.B.size), s.M.below hb, s.O.below hb s.O.lt, s.nd, fun D hD => ⟨(s.mks D hD).1, (hb.block D (Array.getElem?_eq_some_iff.1 (s.mks D hD).2).1).trans (s.mks D hD).2⟩, s.lo⟩
theorem FS.mono {W w : World} {ob mb N c c' : Nat} {P : Nat → Option Nat} {Ds : List Nat} (s : FS W w ob mb N P c Ds) (hc : c ≤ c') : FS W w ob mb N P c' Ds := ⟨s.B, s.M.mono hc, s.O, s.nd, s.mks, s.lo⟩
theorem FS.congr {W w : World} {ob mb N c : Nat} {P Q : Nat → Option Nat} {Ds : List Nat} (s : FS W w ob mb N P c Ds) (e : ∀ j, j < N → P j = Q j) : FS W w ob mb N Q c Ds := ⟨s.B, s.M.congr e, s.O, s.nd, s.mks, s.lo⟩
/-- The counts have turned, the map alone. -/
theorem FS.put {W W' w : World} {ob mb N c j m : Nat} {P : Nat → Option Nat} {Ds : List Nat} {D : DataW Unit} (s : FS W w ob mb N P c Ds) (h2 : Maps.IsMap D) (h3 : ∀ j, j < N → Maps.has D (.int .i64 (j : Int)) = (P j).isSome ∧ (∀ m, P j = some m → D.atKey (.int .i64 (j : Int)) (.lit (.int .i64 0)) = .lit (.int .i64 (m : Int))))
    (h1 : W'.ownsMap Try.prog 3 (plainElem Try.prog 3) mb (c + 1) (D.put (.int .i64 (j : Int)) (.lit (.int .i64 (m : Int))))) (hg : W.grownBy W' (some mb)) : FS W' w ob mb N (fun i => if i = j then some m else P i) (c + 1) Ds := by
  obtain ⟨D0, ho, -⟩ := s.M
  obtain ⟨es, ck, hmb, -⟩ := ho
  refine ⟨s.B.grown hg s.B.size (fun t ht => by injection ht with ht; rw [← ht]; exact s.lo.1), HopS.put h2 h3 h1, s.O.grown hg (fun e => s.lo.2.2 (by injection e with e; exact e.symm)), s.nd, fun D hD => ⟨(s.mks D hD).1, ?_⟩, s.lo⟩
  have hd := (s.mks D hD).2
  refine (hg.block D (Array.getElem?_eq_some_iff.1 hd).1 (fun e => ?_)).trans hd
  injection e with e
  rw [e, hmb] at hd
  cases hd
end Go.Proofs.Ytefjhhgfkdkfaaa
