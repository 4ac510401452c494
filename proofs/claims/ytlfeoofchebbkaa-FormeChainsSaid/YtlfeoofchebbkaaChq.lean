/- What CheckChain says of the longest chain, and of any chain (plain). -/
import Derived.Test.YtlfeoofchebbkaaChn
import Derived.Test.YtlfeoofchebbkaaLw
namespace Go.Proofs.Ytlfeoofchebbkaa
set_option linter.unusedSimpArgs false
set_option linter.unusedVariables false
open Go.RowKit
open Dir
theorem gz_zl {l : List Nat} {k : Nat} : (gz (zl l) k).toNat = l.getD k 0 := by
  unfold gz zl
  rw [List.getD_eq_getElem?_getD, List.getD_eq_getElem?_getD, List.getElem?_map]
  cases l[k]? <;> simp
theorem zl_len (l : List Nat) : (zl l).length = l.length := by simp [zl]
theorem path_iff {D : Dir} : ∀ {l : List Nat}, l ≠ [] → (D.Path l ↔ (∀ k, k < l.length → l.getD k 0 < D.n) ∧ ∀ k, k + 1 < l.length → D.leads (l.getD k 0) (l.getD (k + 1) 0) = true) := by
  intro l
  induction l with
  | nil => intro h; exact absurd rfl h
  | cons a l ih =>
    intro _
    cases l with
    | nil =>
      constructor
      · intro h
        refine ⟨fun k hk => ?_, fun k hk => by simp at hk⟩
        have : k = 0 := by simpa using hk
        subst this
        exact h
      · intro h
        exact h.1 0 (by simp)
    | cons b l =>
      have ih' := ih (by simp)
      constructor
      · rintro ⟨h1, h2, h3⟩
        obtain ⟨h4, h5⟩ := ih'.1 h3
        refine ⟨fun k hk => ?_, fun k hk => ?_⟩
        · cases k with
          | zero => exact h1
          | succ k => exact h4 k (by simpa using hk)
        · cases k with
          | zero => exact h2
          | succ k => exact h5 k (by simpa using hk)
      · rintro ⟨h1, h2⟩
        exact ⟨h1 0 (by simp), h2 0 (by simp), ih'.2 ⟨fun k hk => h1 (k + 1) (by simpa using hk), fun k hk => h2 (k + 1) (by simpa using hk)⟩⟩
theorem sumTo_len {D : Dir} : ∀ (l m : List Nat), sumTo (l.length + m.length) (fun j => D.s ((l ++ m).getD j 0)) = sumTo l.length (fun j => D.s (l.getD j 0)) + D.len m := by
  intro l m
  induction m generalizing l with
  | nil => simp [Dir.len]
  | cons a m ih =>
    have := ih (l ++ [a])
    rw [List.length_append, List.append_assoc] at this
    simp only [List.cons_append, List.nil_append, List.length_cons, List.length_nil, Nat.zero_add] at *
    rw [show l.length + (m.length + 1) = l.length + 1 + m.length by omega, this]
    show sumTo l.length _ + D.s ((l ++ [a]).getD l.length 0) + _ = _ + (D.s a + D.len m)
    have e1 : (l ++ [a]).getD l.length 0 = a := by simp
    have e2 : sumTo l.length (fun j => D.s ((l ++ [a]).getD j 0)) = sumTo l.length (fun j => D.s (l.getD j 0)) := sumTo_congr fun j hj => by rw [List.getD_eq_getElem?_getD, List.getElem?_append_left hj, ← List.getD_eq_getElem?_getD]
    rw [e1, e2]; omega
theorem chLen_zl {D : Dir} (l : List Nat) : chLen D (zl l) (zl l).length = D.len l := by
  have := sumTo_len (D := D) [] l
  simp only [List.length_nil, Nat.zero_add, List.nil_append, sumTo, Int.zero_add] at this
  rw [← this, zl_len]
  exact sumTo_congr fun j _ => by show D.s (gz (zl l) j).toNat = _; rw [gz_zl]
theorem miss_zl {n : Nat} {l : List Nat} (h : ∀ k, k < l.length → l.getD k 0 < n) : missB n (zl l) = false := by
  unfold missB
  rw [idx_none fun j hj => ?_]
  · decide
  · rw [zl_len] at hj
    have h1 := h j hj
    have h2 : gz (zl l) j = (l.getD j 0 : Nat) := by
      unfold gz zl
      rw [List.getD_eq_getElem?_getD, List.getD_eq_getElem?_getD, List.getElem?_map, List.getElem?_eq_getElem hj]; rfl
    unfold notIn
    rw [h2, win_t.2 (by omega)]; rfl
theorem last_getD : ∀ (l : List Nat), l ≠ [] → l.getLast? = some (l.getD (l.length - 1) 0) := by
  intro l h
  have : 0 < l.length := List.length_pos_iff.2 h
  rw [List.getLast?_eq_getElem?, List.getD_eq_getElem?_getD, List.getElem?_eq_getElem (by omega)]; rfl
/-- The longest chain is confirmed. -/
theorem chain_good' {D : Dir} (wf : D.WF) (fu : D.Full) {l : List Nat} (h : D.IsChain D.maxT (-1) l) : chainC D D.n (zl l) = (D.maxT, 0) := by
  obtain ⟨h1, h2, h3, h4, h5⟩ := chain_whole wf fu h
  obtain ⟨p1, p2⟩ := (path_iff h1).1 h2
  have hl : 0 < l.length := List.length_pos_iff.2 h1
  unfold chainC
  rw [if_neg (by rw [zl_len]; omega), if_neg (by rw [miss_zl p1]; decide), if_pos, chLen_zl, h3]
  refine ⟨fun k hk => ?_, ?_⟩
  · rw [zl_len] at hk
    unfold linkB
    simp only [gz_zl]
    by_cases e : k = 0
    · subst e
      rw [if_pos rfl]
      refine decide_eq_true (h4 _ ?_)
      cases l with
      | nil => exact absurd rfl h1
      | cons a l => rfl
    · rw [if_neg e]
      have := p2 (k - 1) (by omega)
      rwa [show k - 1 + 1 = k by omega] at this
  · rw [gz_zl, zl_len]
    exact h5 _ (by rw [last_getD l h1]; rfl)
/-- No chain is longer. -/
theorem chain_most {D : Dir} (wf : D.WF) {zs : List Int} (h : (chainC D D.n zs).2 = 0) : (chainC D D.n zs).1 ≤ D.maxT := by
  unfold chainC at h ⊢
  by_cases h0 : zs.length = 0
  · rw [if_pos h0] at h; exact absurd h (by decide)
  · rw [if_neg h0] at h ⊢
    by_cases hm : missB D.n zs = true
    · rw [if_pos hm] at h; exact absurd h (by decide)
    · rw [if_neg hm] at h ⊢
      by_cases hg : goodC D zs
      · rw [if_pos hg]
        have hall := missB_f (by simpa using hm)
        obtain ⟨l, rfl⟩ : ∃ l : List Nat, zs = zl l := by
          refine ⟨zs.map Int.toNat, ?_⟩
          unfold zl
          rw [List.map_map]
          refine (List.map_id _).symm.trans (List.map_congr_left fun z hz => ?_)
          obtain ⟨k, hk, rfl⟩ := List.mem_iff_getElem.1 hz
          obtain ⟨z, hz1, _⟩ := hall k hk
          have : gz zs k = zs[k] := by unfold gz; rw [List.getD_eq_getElem?_getD, List.getElem?_eq_getElem hk]; rfl
          show zs[k] = ((zs[k].toNat : Nat) : Int)
          omega
        show chLen D (zl l) (zl l).length ≤ D.maxT
        rw [chLen_zl]
        rw [zl_len] at h0
        have hne : l ≠ [] := fun e => h0 (by rw [e]; rfl)
        refine path_le_maxT wf ((path_iff hne).2 ⟨fun k hk => ?_, fun k hk => ?_⟩)
        · obtain ⟨z, hz1, hz2⟩ := hall k (by rw [zl_len]; exact hk)
          have := gz_zl (l := l) (k := k)
          omega
        · have := hg.1 (k + 1) (by rw [zl_len]; exact hk)
          unfold linkB at this
          rw [if_neg (by omega), gz_zl, gz_zl] at this
          exact this
      · rw [if_neg hg] at h; exact absurd h (by decide)
theorem nodup_le : ∀ (n : Nat) (l : List Nat), l.Nodup → (∀ k ∈ l, k < n) → l.length ≤ n := by
  intro n
  induction n with
  | zero => intro l _ h; cases l with
    | nil => exact Nat.le_refl _
    | cons a l => exact absurd (h a (by simp)) (Nat.not_lt_zero _)
  | succ n ih =>
    intro l hd h
    by_cases hn : n ∈ l
    · have h1 := ih (l.erase n) (hd.erase n) fun k hk => by
        have h2 := (hd.mem_erase_iff).1 hk
        have := h k h2.2
        omega
      rw [List.length_erase_of_mem hn] at h1
      omega
    · have := ih l hd fun k hk => by
        have h1 := h k hk
        have : k ≠ n := fun e => hn (e ▸ hk)
        omega
      omega
theorem path_nodup {D : Dir} (wf : D.WF) : ∀ {l : List Nat}, D.Path l → l.Nodup := by
  intro l
  induction l with
  | nil => intro _; exact List.nodup_nil
  | cons i l ih =>
    intro h
    refine List.nodup_cons.2 ⟨fun hi => ?_, ih (by cases l with
      | nil => trivial
      | cons k l => exact h.2.2)⟩
    have := h.inc wf i hi
    omega
theorem path_short {D : Dir} (wf : D.WF) {l : List Nat} (h : D.Path l) : l.length ≤ D.n := nodup_le _ _ (path_nodup wf h) fun k hk => h.lt k hk
theorem dirOf_wf {f : Forme} {r : Real} (h : Okay f r) (dn : Bool) : (dirOf f r dn).WF ∧ (dirOf f r dn).Full ∧ (dirOf f r dn).n = f.ps.length := by
  cases dn with
  | false => exact ⟨across_wf h.right.toLaid h.ws, across_full h.w h.ws, h.ws.len⟩
  | true => exact ⟨down_wf h.right.toLaid h.hs, down_full h.w h.hs, h.hs.len⟩
/-- The third argument of a law, and its copies. -/
structure LC (w W : World) (zs : List Int) (dn : Bool) (Ac : Option Addr) (bc oc cc : Nat) : Prop where
  P : Blk W (w.heap.size + 1 + 1) 72 #[.slice Ac zs.length cc, .bool dn]
  lc : Lies Ac zs.length w.heap.size bc oc
  zc : ZsAt W bc oc zs
  s : w.heap.size ≤ W.heap.size
theorem LC.step {w W W' : World} {zs : List Int} {dn : Bool} {Ac : Option Addr} {bc oc cc : Nat} (h : LC w W zs dn Ac bc oc cc) (hb : Below W.heap.size W W') : LC w W' zs dn Ac bc oc cc :=
  ⟨h.P.below hb h.P.lt, h.lc, fun j hj => (hb.cell (p := ⟨bc, _, none⟩) (by have := (h.lc (by omega)).2; have := h.s; show bc < _; omega)).trans (h.zc j hj), Nat.le_trans h.s hb.size⟩
structure LX (w W : World) (f : Forme) (r : Real) (zs : List Int) (dn : Bool) (A A1 A2 A3 Ac : Option Addr) (b off c b1 o1 c1 b2 o2 c2 b3 o3 c3 bc oc cc : Nat) : Prop extends LW w W f r A A1 A2 A3 b off c b1 o1 c1 b2 o2 c2 b3 o3 c3, LC w W zs dn Ac bc oc cc
section
variable {w W W' : World} {f : Forme} {r : Real} {zs : List Int} {dn : Bool} {A A1 A2 A3 Ac : Option Addr} {b off c b1 o1 c1 b2 o2 c2 b3 o3 c3 bc oc cc : Nat}
theorem LX.step (h : LX w W f r zs dn A A1 A2 A3 Ac b off c b1 o1 c1 b2 o2 c2 b3 o3 c3 bc oc cc) (hb : Below W.heap.size W W') : LX w W' f r zs dn A A1 A2 A3 Ac b off c b1 o1 c1 b2 o2 c2 b3 o3 c3 bc oc cc :=
  { toLW := h.toLW.step hb, toLC := h.toLC.step hb }
def C8 (w W : World) (f : Forme) (v u1 u2 u3 p1 p2 : Value) : Prop := W.cell? ⟨w.heap.size, 0, none⟩ = some (.int .i64 f.W) ∧ W.cell? ⟨w.heap.size, 1, none⟩ = some (.int .i64 f.H) ∧ W.cell? ⟨w.heap.size, 2, none⟩ = some v ∧
  W.cell? ⟨w.heap.size + 1, 0, none⟩ = some u1 ∧ W.cell? ⟨w.heap.size + 1, 1, none⟩ = some u2 ∧ W.cell? ⟨w.heap.size + 1, 2, none⟩ = some u3 ∧ W.cell? ⟨w.heap.size + 1 + 1, 0, none⟩ = some p1 ∧ W.cell? ⟨w.heap.size + 1 + 1, 1, none⟩ = some p2
theorem LX.cells (h : LX w W f r zs dn A A1 A2 A3 Ac b off c b1 o1 c1 b2 o2 c2 b3 o3 c3 bc oc cc) : C8 w W f (.slice A f.ps.length c) (.slice A1 r.ws.length c1) (.slice A2 r.hs.length c2) (.slice A3 r.ts.length c3) (.slice Ac zs.length cc) (.bool dn) :=
  ⟨h.F.1, h.F.2.1, h.F.2.2, h.T.1, h.T.2.1, h.T.2.2, h.P.cell 0, h.P.cell 1⟩
theorem LX.fr (h : LX w W f r zs dn A A1 A2 A3 Ac b off c b1 o1 c1 b2 o2 c2 b3 o3 c3 bc oc cc) : FR W W.heap.size f r A A1 A2 A3 b off b1 o1 b2 o2 b3 o3 := h.toLW.fr
end
theorem copyI_at (zs : List Int) (A : Option Addr) (b off c B : Nat) (W0 : World) (hA : Lies A zs.length B b off) (hz : ZsAt W0 b off zs) (hm : zs.length ≤ 1000000) : ∀ W, Below B W0 W → B ≤ W.heap.size →
    Calls Try.prog 22 #[.slice A zs.length c] W fun e w' => ∃ v, e = .returned v ∧ IntsV w' zs v ∧ Below W.heap.size W w' := fun W hW hB => by
  refine (copyIntsO_any zs A b off c W (hA.mono hB) (fun j hj => (hW.cell (p := ⟨b, _, none⟩) (hA (by omega)).2).trans (hz j hj)) hm).mono ?_
  rintro e w' ⟨v, rfl, hv, hb⟩
  exact ⟨v, rfl, hv.v (by omega), hb⟩
theorem checkChain_at (f : Forme) (r : Real) (zs : List Int) (dn : Bool) (hnm : NameOk f.ps) (hm : f.ps.length ≤ 1000) (hl : zs.length ≤ 100) :
    ∀ (W : World) (vf vr v : Value), FormeAt W f vf → RealAt W r vr → IntsV W zs v → Calls Try.prog 50 #[vf, vr, .agg #[v, .bool dn]] W fun e w' => e = .returned (.tuple #[.int .i64 (checkC f r zs dn).1, .int .i64 (checkC f r zs dn).2]) ∧ Below W.heap.size W w' := by
  rintro W vf vr v ⟨A', b', c', rfl, h1, h2, h3⟩ ⟨A1, A2, A3, c1, c2, c3, b1, b2, b3, rfl, g1, g2, g3, g4⟩ ⟨A4, b4, c4, rfl, k1, k2, k3, k4⟩
  exact checkChain_any f r zs dn A' A1 A2 A3 A4 b' 0 b1 0 b2 0 b3 0 b4 0 c' c1 c2 c3 c4 W ⟨h1, h2, g1⟩ hnm h3 (by omega) g2 g3 g4 k1 k2 hl
end Go.Proofs.Ytlfeoofchebbkaa
