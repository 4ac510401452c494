/- open: a right paragraph in memory. -/
import Derived.Test.YtefjhhgfkdkfaaaWds
import Derived.Deep.RegionHeld3
namespace Go.Proofs.Ytefjhhgfkdkfaaa
set_option linter.unusedSimpArgs false
set_option linter.unusedVariables false
open Go.RowKit Go.Sort
/-- The cells of a paragraph. -/
@[reducible, go_sem] def gcs (f : Fnt) (v : Value) (r : Rls) (vw vp : Value) : Array Value :=
  #[.string f.name, .int .i64 f.body, v, .int .i64 r.measure, .int .i64 r.indent, .int .i64 r.least, .int .i64 r.most, .int .i64 r.gap, .int .i64 r.hyphen, .int .i64 r.single, .int .i64 r.double, vw, vp]
/-- A right paragraph in memory, its block pb. -/
structure PA (W : World) (pb : Nat) (f : Fnt) (v : Value) (r : Rls) (ws : List PWord) (vw vp : Value) : Prop where
  P : Blk W pb 82 (gcs f v r vw vp)
  S : SoV W f.sorts v
  V : WoV W ws vw
  L : PlV W (places ws) vp
theorem PA.step {W W' : World} {pb : Nat} {f : Fnt} {v : Value} {r : Rls} {ws : List PWord} {vw vp : Value} (h : PA W pb f v r ws vw vp) (hb : Below W.heap.size W W') : PA W' pb f v r ws vw vp :=
  ⟨h.P.below hb h.P.lt, h.S.below hb, h.V.below hb, h.L.below hb⟩
/-- A right paragraph. -/
structure POk (f : Fnt) (r : Rls) (ws : List PWord) : Prop where
  fn : (fnErr f).2 = 0
  ru : RuOk f r
  wo : WsOk f.sorts.length ws
  sp : ∀ i j, i < ws.length → j < (gw ws i).sorts.length → spB f (gz (gw ws i).sorts j) = false
  n : ws.length ≤ 200
  m : (places ws).length ≤ 300
theorem paErr_ok {f : Fnt} {r : Rls} {ws : List PWord} (h : paErr f r ws = 0) : POk f r ws := by
  unfold paErr at h
  by_cases h1 : ruErr f r ≠ 0
  · rw [if_pos h1] at h; exact absurd h h1
  rw [if_neg h1] at h
  have h2 := ruErr_ok (Decidable.not_not.1 h1)
  have h3 := wsErr_ok h
  exact ⟨h2.1, h2.2, h3.2.1, h3.2.2.1, h3.2.2.2.1, h3.2.2.2.2⟩
def OpPost (f : Fnt) (v : Value) (r : Rls) (ws : List PWord) (vw : Value) (w : World) (e : Ending) (w' : World) : Prop :=
  Below w.heap.size w w' ∧ ((paErr f r ws ≠ 0 ∧ e = .returned (.tuple #[.pointer none, .int .i64 (paErr f r ws)])) ∨
    (paErr f r ws = 0 ∧ ∃ pb vp, e = .returned (.tuple #[.pointer (some ⟨pb, 0, none⟩), .int .i64 0]) ∧ (w.heap.size ≤ pb ∧ ∀ k, vp.ownBlock = some k → w.heap.size ≤ k) ∧ PA w' pb f v r ws vw vp))
set_option maxRecDepth 100000 in
set_option maxHeartbeats 4000000 in
theorem open_any (f : Fnt) (v : Value) (r : Rls) (ws : List PWord) (vw : Value) (w : World) (hv : SoV w f.sorts v) (hn : f.name.size ≤ 9223372036854775807) (hw : WoV w ws vw) :
    Calls Try.prog 36 #[.agg (fcs f v), .agg (rcs r), vw] w (OpPost f v r ws vw w) := by
  have HT := Lib.hid (UB.start (r := r) hv hw)
  have HC := Lib.hid (fun W (h : SoV W f.sorts v) => checkRules_any f _ r W h hn)
  have HC2 := Lib.hid (fun W (h : SoV W f.sorts v) (h2 : WoV W ws vw) => checkWords_any f _ ws _ W h hn h2)
  have HD : Hid (paErr f r ws = if ruErr f r ≠ 0 then ruErr f r else (wsErr f ws).2) := rfl
  have HOK : Hid (paErr f r ws = 0 → POk f r ws) := paErr_ok
  have HPB : Hid (∀ (W : World) (x : Int), paErr f r ws = x → x ≠ 0 → Below w.heap.size w W → OpPost f v r ws vw w (.returned (.tuple #[.pointer none, .int .i64 x])) W) := (show ∀ W x, _ from fun W x h h0 hb => ⟨hb, .inl ⟨by rw [h]; exact h0, by rw [h]⟩⟩)
  have HPG : Hid (∀ (W : World) (pb : Nat) (vp : Value), paErr f r ws = 0 → (w.heap.size ≤ pb ∧ ∀ k, vp.ownBlock = some k → w.heap.size ≤ k) → Below w.heap.size w W → PA W pb f v r ws vw vp → OpPost f v r ws vw w (.returned (.tuple #[.pointer (some ⟨pb, 0, none⟩), .int .i64 0])) W) := (show ∀ W pb vp, _ from fun W pb vp h h0 hb hp => ⟨hb, .inr ⟨h, pb, vp, rfl, h0, hp⟩⟩)
  generalize paErr f r ws = rv at *
  obtain ⟨Av, cv, rfl⟩ := hv.shape
  obtain ⟨Aw, cw, rfl, -⟩ := hw.shape
  clear hv hn hw
  have g0 := HT.out.T.F.cell 0
  have g1 := HT.out.T.F.cell 1
  have g2 := HT.out.T.F.cell 2
  have q0 := HT.out.T.R.cell 0
  have q1 := HT.out.T.R.cell 1
  have q2 := HT.out.T.R.cell 2
  have q3 := HT.out.T.R.cell 3
  have q4 := HT.out.T.R.cell 4
  have q5 := HT.out.T.R.cell 5
  have q6 := HT.out.T.R.cell 6
  have q7 := HT.out.T.R.cell 7
  go_enter Try.func36, Try.ntmps36
  go_wp2_with fail
  generalize (w.alloc (.cells (fcs f (.slice Av f.sorts.length cv)) 24)).alloc (.cells (rcs r) 26) = W0 at *
  refine (HC.out _ HT.out.T.S).mono ?_
  rintro e W1 ⟨rfl, hb⟩
  have H1 := Lib.hid (HT.out.step hb)
  clear hb HT HC g0 g1 g2 q0 q1 q2 q3 q4 q5 q6 q7
  have g0 := H1.out.T.F.cell 0
  have g1 := H1.out.T.F.cell 1
  have g2 := H1.out.T.F.cell 2
  have q0 := H1.out.T.R.cell 0
  have q1 := H1.out.T.R.cell 1
  have q2 := H1.out.T.R.cell 2
  have q3 := H1.out.T.R.cell 3
  have q4 := H1.out.T.R.cell 4
  have q5 := H1.out.T.R.cell 5
  have q6 := H1.out.T.R.cell 6
  have q7 := H1.out.T.R.cell 7
  obtain ⟨ev, hev⟩ : ∃ x, ruErr f r = x := ⟨_, rfl⟩
  rw [hev] at HD ⊢
  clear hev
  by_cases he : ev = 0
  rotate_left
  · have heb := bne_t he
    have HFIN : Hid (rv = ev) := by show _ = _; rw [HD.out, if_pos he]
    have HNE := Lib.hid he
    clear he
    go_wp2_with fail
    go_ret2
    exact HPB.out _ _ HFIN.out HNE.out H1.out.T.B
  have heb := bne_f he
  have HD2 : Hid (rv = (wsErr f ws).2) := by show _ = _; rw [HD.out, if_neg (fun h => h he)]
  clear he HD
  go_wp2_with fail
  refine (HC2.out _ H1.out.T.S H1.out.V).mono ?_
  rintro e W2 ⟨rfl, hb⟩
  have H2 := Lib.hid (H1.out.step hb)
  clear hb H1 HC2 g0 g1 g2 q0 q1 q2 q3 q4 q5 q6 q7
  have g0 := H2.out.T.F.cell 0
  have g1 := H2.out.T.F.cell 1
  have g2 := H2.out.T.F.cell 2
  have q0 := H2.out.T.R.cell 0
  have q1 := H2.out.T.R.cell 1
  have q2 := H2.out.T.R.cell 2
  have q3 := H2.out.T.R.cell 3
  have q4 := H2.out.T.R.cell 4
  have q5 := H2.out.T.R.cell 5
  have q6 := H2.out.T.R.cell 6
  have q7 := H2.out.T.R.cell 7
  obtain ⟨ev2, hev⟩ : ∃ x, (wsErr f ws).2 = x := ⟨_, rfl⟩
  obtain ⟨ev1, hev1⟩ : ∃ x, (wsErr f ws).1 = x := ⟨_, rfl⟩
  rw [hev] at HD2 ⊢
  rw [hev1]
  clear hev hev1
  by_cases he : ev2 = 0
  rotate_left
  · have heb := bne_t he
    have HNE := Lib.hid he
    clear he
    go_wp2_with fail
    go_ret2
    exact HPB.out _ _ HD2.out HNE.out H2.out.T.B
  have heb2 := bne_f he
  have HZ : Hid (rv = 0) := by show _ = _; rw [HD2.out, he]
  clear he HD2
  have HPK := Lib.hid (HOK.out HZ.out)
  have hws := H2.out.T.F.lt
  have hws1 := H2.out.T.R.lt
  have hbw := H2.out.T.B.size
  have HPL := Lib.hid (fun W (h : Below W2.heap.size W2 W) => placesOf_any f.sorts.length ws (.slice Aw ws.length cw) W (H2.out.V.below h) HPK.out.wo HPK.out.n)
  have h0 : Below W2.heap.size W2 W2.drew := (Below.refl _ _).drew
  have H0 := Lib.hid h0
  have HKS : Hid (∀ W, Below W2.heap.size W2 W → (W.cell? ⟨w.heap.size, 0, none⟩ = some (.string f.name) ∧ W.cell? ⟨w.heap.size, 1, none⟩ = some (.int .i64 f.body) ∧ W.cell? ⟨w.heap.size, 2, none⟩ = some (.slice Av f.sorts.length cv) ∧ W.cell? ⟨w.heap.size + 1, 0, none⟩ = some (.int .i64 r.measure) ∧ W.cell? ⟨w.heap.size + 1, 1, none⟩ = some (.int .i64 r.indent) ∧ W.cell? ⟨w.heap.size + 1, 2, none⟩ = some (.int .i64 r.least) ∧ W.cell? ⟨w.heap.size + 1, 3, none⟩ = some (.int .i64 r.most) ∧ W.cell? ⟨w.heap.size + 1, 4, none⟩ = some (.int .i64 r.gap) ∧ W.cell? ⟨w.heap.size + 1, 5, none⟩ = some (.int .i64 r.hyphen) ∧ W.cell? ⟨w.heap.size + 1, 6, none⟩ = some (.int .i64 r.single) ∧ W.cell? ⟨w.heap.size + 1, 7, none⟩ = some (.int .i64 r.double))) := (show ∀ W, _ from fun W hW => by
    have hh := H2.out.T.step hW
    exact ⟨hh.F.cell 0, hh.F.cell 1, hh.F.cell 2, hh.R.cell 0, hh.R.cell 1, hh.R.cell 2, hh.R.cell 3, hh.R.cell 4, hh.R.cell 5, hh.R.cell 6, hh.R.cell 7⟩)
  have hS0 := HKS.out W2.drew h0
  clear h0 g0 g1 g2 q0 q1 q2 q3 q4 q5 q6 q7
  go_wp2_with fail
  go_region_held3 (fun W => (W.cell? ⟨w.heap.size, 0, none⟩ = some (.string f.name) ∧ W.cell? ⟨w.heap.size, 1, none⟩ = some (.int .i64 f.body) ∧ W.cell? ⟨w.heap.size, 2, none⟩ = some (.slice Av f.sorts.length cv) ∧ W.cell? ⟨w.heap.size + 1, 0, none⟩ = some (.int .i64 r.measure) ∧ W.cell? ⟨w.heap.size + 1, 1, none⟩ = some (.int .i64 r.indent) ∧ W.cell? ⟨w.heap.size + 1, 2, none⟩ = some (.int .i64 r.least) ∧ W.cell? ⟨w.heap.size + 1, 3, none⟩ = some (.int .i64 r.most) ∧ W.cell? ⟨w.heap.size + 1, 4, none⟩ = some (.int .i64 r.gap) ∧ W.cell? ⟨w.heap.size + 1, 5, none⟩ = some (.int .i64 r.hyphen) ∧ W.cell? ⟨w.heap.size + 1, 6, none⟩ = some (.int .i64 r.single) ∧ W.cell? ⟨w.heap.size + 1, 7, none⟩ = some (.int .i64 r.double)))
    (first
      | exact hS0
      | exact HKS.out _ hb4
      | go_keep)
    ((go_at_call 80; (with_reducible refine (HPL.out _ H0.out).mono ?_); rintro e w4 ⟨vp, rfl, hpv, hb4', hown⟩; obtain ⟨Ap, cp, rfl, -, -⟩ := hpv.shape; have hb4 : Below W2.heap.size W2 w4 := H0.out.trans (hb4'.mono H0.out.size)))
  generalize hwn : w4.heap.size = pb at *
  have HA := Lib.hid ((H2.out.step hb4).T.B)
  have HS4 := Lib.hid ((H2.out.step hb4).T.S)
  have HV4 := Lib.hid ((H2.out.step hb4).V)
  have HL4 := Lib.hid hpv
  have HZ4 : Hid (w.heap.size ≤ pb) := by show _ ≤ _; have := HA.out.size; omega
  have HWN := Lib.hid hwn
  have HOW : Hid (∀ k, (Value.slice Ap (places ws).length cp).ownBlock = some k → w.heap.size ≤ k) := (show ∀ k, _ from fun k hk => by have h1 := hown k hk; have h2 := H2.out.T.B.size; simp at h1; omega)
  clear hwn hb4 hb4' hpv hS0 hown
  go_wp2_with fail
  go_ret2
  refine HPG.out _ pb (.slice Ap (places ws).length cp) HZ.out ⟨HZ4.out, HOW.out⟩ ?_ ?_
  · exact HA.out.alloc HA.out.size _
  · have hbn := below_new w4 (.cells (gcs f (.slice Av f.sorts.length cv) r (.slice Aw ws.length cw) (.slice Ap (places ws).length cp)) 82)
    have hPB := Blk.new w4 82 (gcs f (.slice Av f.sorts.length cv) r (.slice Aw ws.length cw) (.slice Ap (places ws).length cp))
    rw [HWN.out] at hPB
    exact ⟨hPB, HS4.out.below hbn, HV4.out.below hbn, HL4.out.below hbn⟩
end Go.Proofs.Ytefjhhgfkdkfaaa
