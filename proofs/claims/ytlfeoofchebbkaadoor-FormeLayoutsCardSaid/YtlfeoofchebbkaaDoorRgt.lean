/- What a right forme is; how many points are not covered; sizes of the right number and range. -/
import Derived.Test.YtlfeoofchebbkaaDoorChf
namespace Go.Proofs.YtlfeoofchebbkaaDoor
set_option linter.unusedSimpArgs false
set_option linter.unusedVariables false
open Go.RowKit
theorem idx_neg {pr : Nat → Bool} {n : Nat} (h : ¬ 0 ≤ idx pr n) : ∀ j, j < n → pr j = false := by
  induction n with
  | zero => intro j hj; omega
  | succ n ih =>
    simp only [idx] at h
    intro j hj
    by_cases h1 : idx pr n = -1
    · rw [if_pos h1] at h
      by_cases h2 : pr n = true
      · rw [if_pos h2] at h; omega
      · by_cases e : j = n
        · subst e; simpa using h2
        · exact ih (by omega) j (by omega)
    · rw [if_neg h1] at h
      exfalso
      have : ∀ m, idx pr m = -1 ∨ 0 ≤ idx pr m := by
        intro m
        induction m with
        | zero => left; rfl
        | succ m ih =>
          simp only [idx]
          by_cases a : idx pr m = -1
          · rw [if_pos a]; by_cases b : pr m = true
            · rw [if_pos b]; right; omega
            · rw [if_neg b]; left; rfl
          · rw [if_neg a]; exact ih
      rcases this n with h3 | h3
      · exact h1 h3
      · exact h h3
theorem fstE_zero {g : Nat → Int} {n : Nat} (h : (fstE g n).2 = 0) : ∀ j, j < n → g j = 0 := by
  induction n with
  | zero => intro j hj; omega
  | succ n ih =>
    simp only [fstE] at h
    intro j hj
    by_cases h1 : (fstE g n).2 = 0
    · rw [if_pos h1] at h
      by_cases h2 : g n = 0
      · by_cases e : j = n
        · subst e; exact h2
        · exact ih h1 j (by omega)
      · rw [if_neg h2] at h; exact absurd h h2
    · rw [if_neg h1] at h; exact absurd h h1
theorem gp_get {ps : List Piece} {i : Nat} (h : i < ps.length) : gp ps i = ps[i] := by unfold gp; simp [List.getD_eq_getElem?_getD, h]
/-- What a right forme is. -/
structure Forme.Right (f : Forme) : Prop extends f.Laid where
  few : f.ps.length ≤ 60
  kind : ∀ p ∈ f.ps, 1 ≤ p.kind ∧ p.kind ≤ 4
  nm : ∀ p ∈ f.ps, isNm p.name = true
  diff : ∀ i j, j < i → i < f.ps.length → nmEq (gp f.ps j).name (gp f.ps i).name = false
theorem pErr_zero {f : Forme} {i : Nat} (h : pErr f i = 0) : isNm (gp f.ps i).name = true ∧ (∀ j, j < i → nmEq (gp f.ps j).name (gp f.ps i).name = false) ∧ win (gp f.ps i).kind 1 4 = true ∧
    insB (gp f.ps i).x (gp f.ps i).w f.W = true ∧ insB (gp f.ps i).y (gp f.ps i).h f.H = true ∧ ∀ j, j < i → meetB (gp f.ps i) (gp f.ps j) = false := by
  unfold pErr at h
  by_cases h1 : isNm (gp f.ps i).name = false
  · rw [if_pos h1] at h; omega
  · rw [if_neg h1] at h
    by_cases h2 : 0 ≤ idx (fun j => nmEq (gp f.ps j).name (gp f.ps i).name) i
    · rw [if_pos h2] at h; omega
    · rw [if_neg h2] at h
      by_cases h3 : win (gp f.ps i).kind 1 4 = false
      · rw [if_pos h3] at h; omega
      · rw [if_neg h3] at h
        by_cases h4 : insB (gp f.ps i).x (gp f.ps i).w f.W = false ∨ insB (gp f.ps i).y (gp f.ps i).h f.H = false
        · rw [if_pos h4] at h; omega
        · rw [if_neg h4] at h
          by_cases h5 : 0 ≤ idx (fun j => meetB (gp f.ps i) (gp f.ps j)) i
          · rw [if_pos h5] at h; omega
          · rw [not_or] at h4
            exact ⟨by simpa using h1, idx_neg h2, by simpa using h3, by simpa using h4.1, by simpa using h4.2, idx_neg h5⟩
theorem insB_t {b s d : Int} (h : insB b s d = true) : 1 ≤ s ∧ 0 ≤ b ∧ b < d ∧ s ≤ d - b := by unfold insB at h; exact of_decide_eq_true h
theorem checkF_zero {f : Forme} (h : (checkF f).2 = 0) : f.Right := by
  unfold checkF at h
  by_cases h1 : win f.W 1 4000 = false ∨ win f.H 1 4000 = false
  · rw [if_pos h1] at h; cases h
  · rw [if_neg h1] at h
    rw [not_or] at h1
    by_cases h2 : 60 < f.ps.length
    · rw [if_pos h2] at h; cases h
    · rw [if_neg h2] at h
      have hz := fstE_zero h
      obtain ⟨w1, w2⟩ := win_t.1 (by simpa using h1.1 : win f.W 1 4000 = true)
      obtain ⟨w3, w4⟩ := win_t.1 (by simpa using h1.2 : win f.H 1 4000 = true)
      have hin : ∀ i, i < f.ps.length → (gp f.ps i).inn f.W f.H := fun i hi => by
        obtain ⟨_, _, _, a, b, _⟩ := pErr_zero (hz i hi)
        have := insB_t a
        have := insB_t b
        unfold Piece.inn; omega
      refine ⟨⟨w1, w2, w3, w4, fun p hp => ?_, ?_⟩, by omega, fun p hp => ?_, fun p hp => ?_, fun i j hj hi => (pErr_zero (hz i hi)).2.1 j hj⟩
      · obtain ⟨i, hi, rfl⟩ := List.getElem_of_mem hp
        rw [← gp_get hi]; exact hin i hi
      · rw [List.pairwise_iff_getElem]
        intro i j hi hj hij
        have hm := (pErr_zero (hz j hj)).2.2.2.2.2 i hij
        have a := hin i hi
        have b := hin j hj
        rw [gp_get hi] at hm a
        rw [gp_get hj] at hm b
        unfold meetB at hm
        have hm := of_decide_eq_false hm
        unfold Piece.inn at a b
        unfold Piece.meet
        rw [IntWalk.wrap64_in _ (by omega), IntWalk.wrap64_in _ (by omega), IntWalk.wrap64_in _ (by omega), IntWalk.wrap64_in _ (by omega)] at hm
        omega
      · obtain ⟨i, hi, rfl⟩ := List.getElem_of_mem hp
        have := win_t.1 (pErr_zero (hz i hi)).2.2.1
        rw [gp_get hi] at this; exact this
      · obtain ⟨i, hi, rfl⟩ := List.getElem_of_mem hp
        have := (pErr_zero (hz i hi)).1
        rw [gp_get hi] at this; exact this
theorem areas_take {ps : List Piece} {k : Nat} (h : k < ps.length) : areas (ps.take (k + 1)) = areas (ps.take k) + (gp ps k).w * (gp ps k).h := by
  rw [List.take_succ_eq_append_getElem h]
  have e : gp ps k = ps[k] := by unfold gp; simp [List.getD_eq_getElem?_getD, h]
  rw [e]
  generalize ps.take k = l
  induction l with
  | nil => simp [areas]
  | cons p l ih => simp only [List.cons_append, areas, ih]; omega
theorem areas_nonneg {W H : Int} : ∀ {ps : List Piece}, (∀ p ∈ ps, p.inn W H) → 0 ≤ areas ps := by
  intro ps
  induction ps with
  | nil => intro _; exact Int.le_refl _
  | cons p ps ih =>
    intro h
    have h1 := ih fun q hq => h q (by simp [hq])
    obtain ⟨a, b, _⟩ := h p (by simp)
    have := Int.mul_nonneg (show 0 ≤ p.w by omega) (show 0 ≤ p.h by omega)
    simp only [areas]; omega
theorem Forme.Laid.take {f : Forme} (h : f.Laid) (k : Nat) : ({ f with ps := f.ps.take k } : Forme).Laid where
  w1 := h.w1
  w2 := h.w2
  h1 := h.h1
  h2 := h.h2
  inn p hp := h.inn p (List.mem_of_mem_take hp)
  apart := h.apart.sublist (List.take_sublist _ _)
theorem area_bound {W H : Int} (h1 : 1 ≤ W) (h2 : W ≤ 4000) (h3 : 1 ≤ H) (h4 : H ≤ 4000) : 0 ≤ W * H ∧ W * H ≤ 16000000 := by
  have a := Int.mul_le_mul h2 h4 (by omega) (by omega)
  have b := Int.mul_nonneg (show 0 ≤ W by omega) (show 0 ≤ H by omega)
  omega
set_option maxHeartbeats 1000000 in
theorem uncovered_any (f : Forme) (A : Option Addr) (b off c : Nat) (w : World) (hA : Lies A f.ps.length w.heap.size b off) (hps : PsAt w b off f.ps) (hf : f.Laid) (hc : f.ps.length ≤ c) (hm : f.ps.length ≤ 1000000) :
    Calls Tryd.prog 26 #[.agg #[.int .i64 f.W, .int .i64 f.H, .slice A f.ps.length c]] w fun e w' => e = .returned (.int .i64 (f.W * f.H - areas f.ps)) ∧ Below w.heap.size w w' := by
  have hb0 := area_bound hf.w1 hf.w2 hf.h1 hf.h2
  have hpre : ∀ k, 0 ≤ areas (f.ps.take k) ∧ areas (f.ps.take k) ≤ f.W * f.H := fun k => ⟨areas_nonneg (hf.take k).inn, (hf.take k).areas_le⟩
  have hst := fun k (h : k < f.ps.length) => areas_take h
  have hsm : ∀ k, k < f.ps.length → 1 ≤ (gp f.ps k).w ∧ 1 ≤ (gp f.ps k).h := fun k h => by
    have e : gp f.ps k = f.ps[k] := by unfold gp; simp [List.getD_eq_getElem?_getD, h]
    obtain ⟨h1, h2, _⟩ := hf.inn _ (List.getElem_mem h)
    rw [e]; exact ⟨h1, h2⟩
  have hall : f.ps.take f.ps.length = f.ps := List.take_length
  generalize hn : f.ps.length = n at *
  have HN := Lib.hid hn
  have HALL := Lib.hid hall
  clear hn hall
  generalize hM : f.W * f.H = M at *
  have HM := Lib.hid hM
  clear hM
  have hmul : IntKind.i64.wrap (f.W * f.H) = M := by rw [HM.out, IntKind.wrap_i64]; omega
  go_enter Tryd.func26, Tryd.ntmps26
  go_wp2_with fail
  have hB : Below w.heap.size w (w.alloc (Obj.cells #[Value.int IntKind.i64 f.W, Value.int IntKind.i64 f.H, Value.slice A n c] 28)) := below_new _ _
  generalize w.alloc (Obj.cells #[Value.int IntKind.i64 f.W, Value.int IntKind.i64 f.H, Value.slice A n c] 28) = W0 at *
  clear hmul
  go_loopg [3, 14] n (fun gg s3 s14 wr => ∃ k : Nat, k ≤ n ∧ n - k ≤ gg ∧ s14 = .int .i64 k ∧ s3 = .int .i64 (M - areas (f.ps.take k)) ∧ Aside (Below w.heap.size w wr))
  case atStart => exact ⟨0, Nat.zero_le _, by omega, rfl, by simp [areas], hB⟩
  case round =>
    obtain ⟨k, hk, hg, rfl, rfl, BW⟩ := hrel
    by_cases hlt : k < n
    · have hltz : (k : Int) < (n : Int) := by omega
      obtain ⟨rfl, hb⟩ := hA (by omega)
      obtain ⟨c0, c1, c2, c3, c4, c5⟩ := (hps k (by have := HN.out; omega)).below BW.out hb
      have h1 := hst k hlt
      have h2 := hpre k
      have h3 := hpre (k + 1)
      have h4 := hsm k hlt
      clear hst hpre hsm hps hA hB
      generalize gp f.ps k = y at *
      have h5 := Int.mul_nonneg (show 0 ≤ y.w by omega) (show 0 ≤ y.h by omega)
      generalize hm2 : y.w * y.h = m2 at *
      generalize areas (f.ps.take k) = a at *
      have H1 := Lib.hid h1
      rw [h1] at h3
      clear h1
      have HM2 := Lib.hid hm2
      clear hm2
      have hmul : IntKind.i64.wrap (y.w * y.h) = m2 := by rw [HM2.out, IntKind.wrap_i64]; omega
      obtain ⟨h21, h22⟩ := h2
      obtain ⟨h31, h32⟩ := h3
      obtain ⟨h41, h42⟩ := h4
      go_wp2
      go_roundg (n - (k + 1))
      case measure => omega
      case rel =>
        refine ⟨k + 1, by omega, by omega, by go_num, ?_, BW.out.alloc BW.out.size _⟩
        rw [H1.out]; congr 1; omega
    · have hltz : ¬ (k : Int) < (n : Int) := by omega
      have he : k = n := by omega
      subst he
      go_wp2
      go_ret
      exact ⟨ret_int (by rw [HALL.out]), BW.out⟩

def isQ (k : Int) : Bool := k == 3 || k == 4
theorem isQuoin_any (p : Piece) (w : World) : Calls Tryd.prog 53 #[.agg (pcs p)] w fun e w' => e = .returned (.bool (isQ p.kind)) ∧ Below w.heap.size w w' := by
  go_enter Tryd.func53, Tryd.ntmps53
  go_wp2
  all_goals go_ret
  all_goals exact ⟨ret_bool (by unfold isQ; simp [*]), below_new _ _⟩

/-- The sizes, as they lie: three slices. -/
structure RAt (w : World) (B : Nat) (r : Real) (A1 A2 A3 : Option Addr) (b1 o1 b2 o2 b3 o3 : Nat) : Prop where
  l1 : Lies A1 r.ws.length B b1 o1
  l2 : Lies A2 r.hs.length B b2 o2
  l3 : Lies A3 r.ts.length B b3 o3
  z1 : ZsAt w b1 o1 r.ws
  z2 : ZsAt w b2 o2 r.hs
  z3 : ZsAt w b3 o3 r.ts
theorem RAt.below {B : Nat} {w w' : World} {r : Real} {A1 A2 A3 : Option Addr} {b1 o1 b2 o2 b3 o3 : Nat} (h : RAt w B r A1 A2 A3 b1 o1 b2 o2 b3 o3) (hb : Below B w w') : RAt w' B r A1 A2 A3 b1 o1 b2 o2 b3 o3 where
  l1 := h.l1
  l2 := h.l2
  l3 := h.l3
  z1 j hj := (hb.cell (p := ⟨b1, _, none⟩) (h.l1 (by omega)).2).trans (h.z1 j hj)
  z2 j hj := (hb.cell (p := ⟨b2, _, none⟩) (h.l2 (by omega)).2).trans (h.z2 j hj)
  z3 j hj := (hb.cell (p := ⟨b3, _, none⟩) (h.l3 (by omega)).2).trans (h.z3 j hj)
theorem RAt.mono {B B' : Nat} {w : World} {r : Real} {A1 A2 A3 : Option Addr} {b1 o1 b2 o2 b3 o3 : Nat} (h : RAt w B r A1 A2 A3 b1 o1 b2 o2 b3 o3) (hB : B ≤ B') : RAt w B' r A1 A2 A3 b1 o1 b2 o2 b3 o3 :=
  { h with l1 := h.l1.mono hB, l2 := h.l2.mono hB, l3 := h.l3.mono hB }

def sErr (f : Forme) (r : Real) (i : Nat) : Int :=
  if win (gz r.ws i) 1 480000 = false ∨ win (gz r.hs i) 1 480000 = false ∨ win (gz r.ts i) 0 6000 = false then 2
  else if gz r.ts i ≠ 0 ∧ isQ (gp f.ps i).kind = false then 3
  else 0
def shapedF (f : Forme) (r : Real) : Int × Int :=
  if (checkF f).2 ≠ 0 then (0, (checkF f).2)
  else if f.W * f.H - areas f.ps ≠ 0 then (0, 14)
  else if r.ws.length ≠ f.ps.length ∨ r.hs.length ≠ f.ps.length ∨ r.ts.length ≠ f.ps.length then (0, 10)
  else fstE (sErr f r) f.ps.length
/-- Three cells of slices. -/
def TAt (w : World) (b : Nat) (u v x : Value) : Prop := w.cell? ⟨b, 0, none⟩ = some u ∧ w.cell? ⟨b, 1, none⟩ = some v ∧ w.cell? ⟨b, 2, none⟩ = some x
theorem TAt.below {B : Nat} {w w' : World} {b : Nat} {u v x : Value} (h : TAt w b u v x) (hb : Below B w w') (hB : b < B) : TAt w' b u v x := by
  obtain ⟨h0, h1, h2⟩ := h
  exact ⟨(hb.cell (p := ⟨b, _, none⟩) hB).trans h0, (hb.cell (p := ⟨b, _, none⟩) hB).trans h1, (hb.cell (p := ⟨b, _, none⟩) hB).trans h2⟩
end Go.Proofs.YtlfeoofchebbkaaDoor
