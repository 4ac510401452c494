/- Turning, plainly: a turned or mirrored forme is right; four turns, two mirrors are none; the bill of a turned forme. -/
import Derived.Test.YtlfeoofchebbkaaTnp
import Derived.Test.YtlfeoofchebbkaaBil
namespace Go.Proofs.Ytlfeoofchebbkaa
set_option linter.unusedSimpArgs false
set_option linter.unusedVariables false
open Go.RowKit
theorem idxN {pr : Nat → Bool} {n : Nat} (h : ∀ j, j < n → pr j = false) : ¬ 0 ≤ idx pr n := by rw [idx_none h]; omega
theorem right_pErr {f : Forme} (h : f.Right) {i : Nat} (hi : i < f.ps.length) : pErr f i = 0 := by
  have hmem : ∀ j, j < f.ps.length → gp f.ps j ∈ f.ps := fun j hj => by rw [gp_get hj]; exact List.getElem_mem _
  have hin := h.inn _ (hmem i hi)
  have hin' := hin
  unfold Piece.inn at hin'
  have hW := h.w2
  have hH := h.h2
  unfold pErr
  rw [h.nm _ (hmem i hi), if_neg (by decide), if_neg (idxN fun j hj => h.diff i j hj hi), win_t.2 (h.kind _ (hmem i hi)), if_neg (by decide),
    show insB (gp f.ps i).x (gp f.ps i).w f.W = true by unfold insB; rw [decide_eq_true_eq]; omega, show insB (gp f.ps i).y (gp f.ps i).h f.H = true by unfold insB; rw [decide_eq_true_eq]; omega, if_neg (by decide), if_neg]
  refine idxN fun j hj => ?_
  have hj' : j < f.ps.length := by omega
  have hpw := List.pairwise_iff_getElem.1 h.apart j i hj' hi hj
  rw [← gp_get hj', ← gp_get hi] at hpw
  have hjn := h.inn _ (hmem j hj')
  unfold Piece.inn at hjn
  unfold Piece.meet at hpw
  unfold meetB
  rw [decide_eq_false_iff_not, IntWalk.wrap64_in _ (by omega), IntWalk.wrap64_in _ (by omega), IntWalk.wrap64_in _ (by omega), IntWalk.wrap64_in _ (by omega)]
  omega
theorem right_check {f : Forme} (h : f.Right) : (checkF f).2 = 0 := by
  unfold checkF
  rw [if_neg (show ¬ (win f.W 1 4000 = false ∨ win f.H 1 4000 = false) by rw [win_t.2 ⟨h.w1, h.w2⟩, win_t.2 ⟨h.h1, h.h2⟩]; decide), if_neg (by have := h.few; omega), fstE_none fun j hj => right_pErr h hj]
theorem gp_mapG (ps : List Piece) (g : Piece → Piece) {i : Nat} (hi : i < ps.length) : gp (ps.map g) i = g (gp ps i) := by
  rw [gp_get (by simpa using hi), gp_get hi, List.getElem_map]
theorem right_map {f g : Forme} (h : f.Right) (hl : g.Laid) (m : Piece → Piece) (hg : g.ps = f.ps.map m) (hn : ∀ p, (m p).name = p.name) (hk : ∀ p, 1 ≤ p.kind ∧ p.kind ≤ 4 → 1 ≤ (m p).kind ∧ (m p).kind ≤ 4) : g.Right where
  toLaid := hl
  few := by rw [hg, List.length_map]; exact h.few
  kind := fun p hp => by
    rw [hg] at hp
    obtain ⟨q, hq, rfl⟩ := List.mem_map.1 hp
    exact hk q (h.kind q hq)
  nm := fun p hp => by
    rw [hg] at hp
    obtain ⟨q, hq, rfl⟩ := List.mem_map.1 hp
    rw [hn]; exact h.nm q hq
  diff := fun i j hj hi => by
    rw [hg] at hi ⊢
    rw [List.length_map] at hi
    rw [gp_mapG _ _ hi, gp_mapG _ _ (show j < f.ps.length by omega), hn, hn]
    exact h.diff i j hj hi
def turnF (f : Forme) : Forme := f.swapK.mirror
theorem turnF_ps (f : Forme) : (turnF f).ps = f.ps.map (turnP f.H) := turn_ps f
theorem turnF_len (f : Forme) : (turnF f).ps.length = f.ps.length := by rw [turnF_ps, List.length_map]
theorem mirror_len (f : Forme) : f.mirror.ps.length = f.ps.length := by simp [Forme.mirror]
theorem turn_right {f : Forme} (h : f.Right) : (turnF f).Right :=
  right_map h h.toLaid.swapK.mirror (turnP f.H) (turn_ps f) (fun _ => rfl) fun p hp => by
    unfold turnP
    simp only
    split <;> omega
theorem mirror_right {f : Forme} (h : f.Right) : f.mirror.Right :=
  right_map h h.toLaid.mirror (fun p => { p with x := f.W - p.x - p.w }) rfl (fun _ => rfl) fun p hp => hp
theorem piece_ext {p q : Piece} (h1 : p.name = q.name) (h2 : p.kind = q.kind) (h3 : p.x = q.x) (h4 : p.y = q.y) (h5 : p.w = q.w) (h6 : p.h = q.h) : p = q := by
  cases p; cases q; simp_all
theorem forme_ext {f g : Forme} (h1 : f.W = g.W) (h2 : f.H = g.H) (h3 : f.ps = g.ps) : f = g := by
  cases f; cases g; simp_all
theorem mirror_mirror (f : Forme) : f.mirror.mirror = f := by
  refine forme_ext rfl rfl ?_
  show (f.ps.map _).map _ = f.ps
  rw [List.map_map]
  refine (List.map_congr_left fun p _ => ?_).trans (List.map_id _)
  refine piece_ext rfl rfl ?_ rfl rfl rfl
  show f.W - (f.W - p.x - p.w) - p.w = p.x
  omega
theorem turn4 {f : Forme} (h : f.Right) : turnF (turnF (turnF (turnF f))) = f := by
  refine forme_ext rfl rfl ?_
  rw [turnF_ps, turnF_ps, turnF_ps, turnF_ps, List.map_map, List.map_map, List.map_map]
  refine (List.map_congr_left fun p hp => ?_).trans (List.map_id _)
  have hk := h.kind p hp
  have e1 : (turnF (turnF (turnF f))).H = f.W := rfl
  have e2 : (turnF (turnF f)).H = f.H := rfl
  have e3 : (turnF f).H = f.W := rfl
  rw [e1, e2, e3]
  refine piece_ext rfl ?_ ?_ ?_ rfl rfl
  · simp only [Function.comp, turnP]
    by_cases e : 3 ≤ p.kind
    · simp only [if_pos e, if_pos (show 3 ≤ 7 - p.kind by omega)]
      simp only [show (7 : Int) - (7 - p.kind) = p.kind by omega, if_pos e, if_pos (show 3 ≤ 7 - p.kind by omega)]
      rfl
    · simp only [if_neg e]
      rfl
  · show f.W - (f.W - p.x - p.w) - p.w = p.x
    omega
  · show f.H - (f.H - p.y - p.h) - p.h = p.y
    omega
theorem turn_cnt (f : Forme) (hr : f.Right) (a b : Int) : cntF f.ps a b = cntF (turnF f).ps a b := by
  refine cntF_turn (turnF_len f).symm (fun j hj => ?_) a b
  rw [turnF_ps, gp_mapG _ _ hj]
  have hk := hr.kind _ (show gp f.ps j ∈ f.ps by rw [gp_get hj]; exact List.getElem_mem _)
  generalize gp f.ps j = p at *
  refine ⟨?_, ?_, ?_⟩
  · unfold turnP
    simp only
    split <;> omega
  · show max p.w p.h = max p.h p.w
    omega
  · show min p.w p.h = min p.h p.w
    omega
theorem name_map {f g : Forme} (h : NameOk f.ps) (m : Piece → Piece) (hg : g.ps = f.ps.map m) (hn : ∀ p, (m p).name = p.name) : NameOk g.ps := fun j hj => by
  rw [hg] at hj ⊢
  rw [List.length_map] at hj
  rw [gp_mapG _ _ hj, hn]
  exact h j hj
theorem turn_names {f : Forme} (h : NameOk f.ps) : NameOk (turnF f).ps := name_map h (turnP f.H) (turn_ps f) fun _ => rfl
theorem mirror_names {f : Forme} (h : NameOk f.ps) : NameOk f.mirror.ps := name_map h (fun p => { p with x := f.W - p.x - p.w }) rfl fun _ => rfl
end Go.Proofs.Ytlfeoofchebbkaa
