/- What a forme and sizes are where 'shaped' finds no error; across and down by their directions; CheckReal, LongestAcross, LongestDown. -/
import Derived.Test.YtlfeoofchebbkaaDoorLng
namespace Go.Proofs.YtlfeoofchebbkaaDoor
set_option linter.unusedSimpArgs false
set_option linter.unusedVariables false
open Go.RowKit
theorem Dir.T_le {D : Dir} (wf : D.WF) {M : Int} (hs : ∀ i, i < D.n → D.s i ≤ M) : ∀ (m : Nat) (i : Nat), i < D.n → (D.side - D.b i).toNat < m → D.T i ≤ (D.side - D.b i) * M := by
  intro m
  induction m with
  | zero => intro i _ h; omega
  | succ m ih =>
    intro i hi h
    have h0 := wf.s1 i hi
    have h1 := hs i hi
    have h2 := wf.be1 i hi
    have h3 := wf.e1 i hi
    rw [Dir.T_eq wf i hi]
    have hM : 0 ≤ M := by omega
    have hmx : maxTo D.n (fun k => if D.leads i k then D.T k else 0) ≤ (D.side - D.e i) * M := by
      refine maxTo_le (Int.mul_nonneg (by omega) hM) fun k hk => ?_
      show (if _ then _ else _) ≤ _
      split
      · rename_i hl
        have hb := Dir.leads_b hl
        have := ih k hk (by omega)
        rw [hb] at this; exact this
      · exact Int.mul_nonneg (by omega) hM
    have h4 : (D.side - D.b i) * M = (D.side - D.e i) * M + (D.e i - D.b i) * M := by rw [← Int.add_mul]; congr 1; omega
    have h5 : M ≤ (D.e i - D.b i) * M := by
      have := Int.mul_le_mul_of_nonneg_right (show (1 : Int) ≤ D.e i - D.b i by omega) hM
      omega
    omega
theorem Dir.T_small {D : Dir} (wf : D.WF) (hs : ∀ i, i < D.n → D.s i ≤ 500000) (h0 : 0 ≤ D.side) (h1 : D.side ≤ 4000) (i : Nat) (hi : i < D.n) : D.T i ≤ 1000000000000 := by
  have h2 := Dir.T_le wf hs _ i hi (Nat.lt_succ_self _)
  have h3 := wf.b0 i hi
  have h4 : (D.side - D.b i) * 500000 ≤ 4000 * 500000 := Int.mul_le_mul_of_nonneg_right (by omega) (by omega)
  omega
/-- Sizes that are right but for whether they fit. -/
structure Okay (f : Forme) (r : Real) : Prop where
  right : f.Right
  full : areas f.ps = f.W * f.H
  ws : Sized f r.ws
  hs : Sized f r.hs
  ts : r.ts.length = f.ps.length
  wb : ∀ z ∈ r.ws, z ≤ 480000
  hb : ∀ z ∈ r.hs, z ≤ 480000
  tb : ∀ i, i < r.ts.length → 0 ≤ gz r.ts i ∧ gz r.ts i ≤ 6000
  form : ∀ i, i < f.ps.length → gz r.ts i ≠ 0 → isQ (gp f.ps i).kind = true
theorem gz_get {zs : List Int} {i : Nat} (h : i < zs.length) : gz zs i = zs[i] := by unfold gz; simp [List.getD_eq_getElem?_getD, h]
theorem shaped_zero {f : Forme} {r : Real} (h : (shapedF f r).2 = 0) : Okay f r := by
  unfold shapedF at h
  by_cases h1 : (checkF f).2 ≠ 0
  · rw [if_pos h1] at h; exact absurd h h1
  · rw [if_neg h1] at h
    by_cases h2 : f.W * f.H - areas f.ps ≠ 0
    · rw [if_pos h2] at h; cases h
    · rw [if_neg h2] at h
      by_cases h3 : r.ws.length ≠ f.ps.length ∨ r.hs.length ≠ f.ps.length ∨ r.ts.length ≠ f.ps.length
      · rw [if_pos h3] at h; cases h
      · rw [if_neg h3] at h
        have hz := fstE_zero h
        have l1 : r.ws.length = f.ps.length := by omega
        have l2 : r.hs.length = f.ps.length := by omega
        have l3 : r.ts.length = f.ps.length := by omega
        have hh : ∀ i, i < f.ps.length → (1 ≤ gz r.ws i ∧ gz r.ws i ≤ 480000) ∧ (1 ≤ gz r.hs i ∧ gz r.hs i ≤ 480000) ∧ (0 ≤ gz r.ts i ∧ gz r.ts i ≤ 6000) ∧ (gz r.ts i ≠ 0 → isQ (gp f.ps i).kind = true) := fun i hi => by
          have := hz i hi
          unfold sErr at this
          by_cases a : win (gz r.ws i) 1 480000 = false ∨ win (gz r.hs i) 1 480000 = false ∨ win (gz r.ts i) 0 6000 = false
          · rw [if_pos a] at this; cases this
          · rw [if_neg a] at this
            simp only [not_or, Bool.not_eq_false] at a
            by_cases b : gz r.ts i ≠ 0 ∧ isQ (gp f.ps i).kind = false
            · rw [if_pos b] at this; cases this
            · refine ⟨win_t.1 a.1, win_t.1 a.2.1, win_t.1 a.2.2, fun hne => ?_⟩
              simp only [not_and, Bool.not_eq_false] at b
              exact b hne
        refine ⟨checkF_zero (by omega), by omega, ⟨l1, fun z hz' => ?_⟩, ⟨l2, fun z hz' => ?_⟩, l3, fun z hz' => ?_, fun z hz' => ?_, fun i hi => (hh i (by omega)).2.2.1, fun i hi => (hh i hi).2.2.2⟩
        · obtain ⟨i, hi, rfl⟩ := List.getElem_of_mem hz'; rw [← gz_get hi]; exact (hh i (by omega)).1.1
        · obtain ⟨i, hi, rfl⟩ := List.getElem_of_mem hz'; rw [← gz_get hi]; exact (hh i (by omega)).2.1.1
        · obtain ⟨i, hi, rfl⟩ := List.getElem_of_mem hz'; rw [← gz_get hi]; exact (hh i (by omega)).1.2
        · obtain ⟨i, hi, rfl⟩ := List.getElem_of_mem hz'; rw [← gz_get hi]; exact (hh i (by omega)).2.1.2
/-- A forme and its sizes, as they lie below block B. -/
structure FR (w : World) (B : Nat) (f : Forme) (r : Real) (A A1 A2 A3 : Option Addr) (b off b1 o1 b2 o2 b3 o3 : Nat) : Prop where
  la : Lies A f.ps.length B b off
  ps : PsAt w b off f.ps
  rr : RAt w B r A1 A2 A3 b1 o1 b2 o2 b3 o3
theorem FR.below {B : Nat} {w w' : World} {f : Forme} {r : Real} {A A1 A2 A3 : Option Addr} {b off b1 o1 b2 o2 b3 o3 : Nat} (h : FR w B f r A A1 A2 A3 b off b1 o1 b2 o2 b3 o3) (hb : Below B w w') : FR w' B f r A A1 A2 A3 b off b1 o1 b2 o2 b3 o3 :=
  ⟨h.la, fun j hj => (h.ps j hj).below hb (h.la (by omega)).2, h.rr.below hb⟩
theorem FR.mono {B B' : Nat} {w : World} {f : Forme} {r : Real} {A A1 A2 A3 : Option Addr} {b off b1 o1 b2 o2 b3 o3 : Nat} (h : FR w B f r A A1 A2 A3 b off b1 o1 b2 o2 b3 o3) (hB : B ≤ B') : FR w B' f r A A1 A2 A3 b off b1 o1 b2 o2 b3 o3 :=
  ⟨h.la.mono hB, h.ps, h.rr.mono hB⟩
/-- Sizes as a direction uses them: of the right number, not too great. -/
structure Usable (f : Forme) (zs : List Int) : Prop where
  z : Sized f zs
  b : ∀ z ∈ zs, z ≤ 500000
def DirPost (w : World) (D : Dir) (e : Ending) (w' : World) : Prop :=
  ∃ (dg : Nat) (Aa Ab Az : Option Addr) (ca cb cz ba oa bb ob bz oz : Nat), e = .returned (.pointer (some ⟨dg, 0, none⟩)) ∧ DAt w' w'.heap.size dg D Aa Ab Az ca cb cz ba oa bb ob bz oz ∧ Below w.heap.size w w'
theorem across_dir (f : Forme) (r : Real) (A A1 A2 A3 : Option Addr) (b off b1 o1 b2 o2 b3 o3 c c1 c2 c3 : Nat) (w : World) (h : FR w w.heap.size f r A A1 A2 A3 b off b1 o1 b2 o2 b3 o3) (hf : f.Right) (hw : r.ws.length = f.ps.length) :
    Calls Tryd.prog 28 #[.agg #[.int .i64 f.W, .int .i64 f.H, .slice A f.ps.length c], .agg #[.slice A1 r.ws.length c1, .slice A2 r.hs.length c2, .slice A3 r.ts.length c3]] w (DirPost w (across f r.ws)) := by
  have hfew := hf.few
  refine (across_any f A A1 A2 A3 b off c _ c1 _ c2 _ c3 w h.la h.ps (by omega) (fun i hi => by rw [gp_get hi]; exact hf.inn _ (List.getElem_mem hi)) hf.w2 hf.h2).mono ?_
  rintro e w' ⟨dg, va, vb, rfl, hg, hD, h1, h2, hb⟩
  rw [hw] at hD
  have hr' := h.rr.below hb
  obtain ⟨Aa, Ab, ca, cb, ba, bb, hd⟩ := dat_of (zs := r.ws) hD h1 h2 (by simp) (by simp) hw (by rw [← hw]; exact hr'.l1.mono hb.size) hr'.z1
  exact ⟨dg, Aa, Ab, A1, ca, cb, c1, ba, 0, bb, 0, b1, o1, rfl, hd, hb⟩
theorem down_dir (f : Forme) (r : Real) (A A1 A2 A3 : Option Addr) (b off b1 o1 b2 o2 b3 o3 c c1 c2 c3 : Nat) (w : World) (h : FR w w.heap.size f r A A1 A2 A3 b off b1 o1 b2 o2 b3 o3) (hf : f.Right) (hw : r.hs.length = f.ps.length) :
    Calls Tryd.prog 29 #[.agg #[.int .i64 f.W, .int .i64 f.H, .slice A f.ps.length c], .agg #[.slice A1 r.ws.length c1, .slice A2 r.hs.length c2, .slice A3 r.ts.length c3]] w (DirPost w (down f r.hs)) := by
  have hfew := hf.few
  refine (down_any f A A1 A2 A3 b off c _ c1 _ c2 _ c3 w h.la h.ps (by omega) (fun i hi => by rw [gp_get hi]; exact hf.inn _ (List.getElem_mem hi)) hf.w2 hf.h2).mono ?_
  rintro e w' ⟨dg, va, vb, rfl, hg, hD, h1, h2, hb⟩
  rw [hw] at hD
  have hr' := h.rr.below hb
  obtain ⟨Aa, Ab, ca, cb, ba, bb, hd⟩ := dat_of (zs := r.hs) hD h1 h2 (by simp) (by simp) hw (by rw [← hw]; exact hr'.l2.mono hb.size) hr'.z2
  exact ⟨dg, Aa, Ab, A2, ca, cb, c2, ba, 0, bb, 0, b2, o2, rfl, hd, hb⟩
end Go.Proofs.YtlfeoofchebbkaaDoor
