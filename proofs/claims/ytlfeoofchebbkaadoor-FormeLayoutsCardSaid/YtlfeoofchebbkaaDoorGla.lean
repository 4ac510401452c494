/- What is laid out of a right grid is a right forme, full, of so many pieces. -/
import Derived.Test.YtlfeoofchebbkaaDoorGsp
namespace Go.Proofs.YtlfeoofchebbkaaDoor
set_option linter.unusedSimpArgs false
set_option linter.unusedVariables false
open Go.RowKit
namespace Grid
theorem sumTo_left (f : Nat → Int) : ∀ n, sumTo (n + 1) f = f 0 + sumTo n fun i => f (i + 1)
  | 0 => by simp [sumTo]
  | n + 1 => by
    rw [sumTo, sumTo_left f n, sumTo]
    omega
theorem sumL_to : ∀ l : List Int, sumL l = sumTo l.length (gz l)
  | [] => rfl
  | x :: r => by
    rw [sumL, sumL_to r, List.length_cons, sumTo_left]
    rfl
variable {g : Grid}
theorem xAt_to (g : Grid) : ∀ k, g.xAt k = sumTo k (gz g.acr) + sumTo k (gz g.cols)
  | 0 => rfl
  | k + 1 => by
    rw [xAt, xAt_to g k, sumTo, sumTo]
    omega
theorem yAt_to (g : Grid) : ∀ k, g.yAt k = sumTo k (gz g.dwn) + sumTo k (gz g.rows)
  | 0 => rfl
  | k + 1 => by
    rw [yAt, yAt_to g k, sumTo, sumTo]
    omega
theorem Good.xend (h : g.Good) : g.xAt g.cols.length + gz g.acr g.cols.length = g.right := by
  have e1 := sumL_to g.acr
  have e2 := sumL_to g.cols
  rw [h.la, sumTo] at e1
  have := xAt_to g g.cols.length
  have := h.sw
  unfold right
  omega
theorem Good.yend (h : g.Good) : g.yAt g.rows.length + gz g.dwn g.rows.length = g.bottom := by
  have e1 := sumL_to g.dwn
  have e2 := sumL_to g.rows
  rw [h.ld, sumTo] at e1
  have := yAt_to g g.rows.length
  have := h.sh
  unfold bottom
  omega
theorem Good.x0 (h : g.Good) : ∀ k, k ≤ g.cols.length → 0 ≤ g.xAt k ∧ (k : Int) ≤ g.xAt k
  | 0, _ => ⟨Int.le_refl _, Int.le_refl _⟩
  | k + 1, hk => by
    have := h.x0 k (by omega)
    have := h.ra k (by omega)
    have := h.rc k (by omega)
    simp only [xAt]
    omega
theorem Good.y0 (h : g.Good) : ∀ k, k ≤ g.rows.length → 0 ≤ g.yAt k ∧ (k : Int) ≤ g.yAt k
  | 0, _ => ⟨Int.le_refl _, Int.le_refl _⟩
  | k + 1, hk => by
    have := h.y0 k (by omega)
    have := h.rd k (by omega)
    have := h.rr k (by omega)
    simp only [yAt]
    omega
theorem Good.xle (h : g.Good) : ∀ d k, k + d = g.cols.length → g.xAt k + gz g.acr k ≤ g.right
  | 0, k, hk => by
    have : k = g.cols.length := by omega
    subst this
    exact Int.le_of_eq h.xend
  | d + 1, k, hk => by
    have h1 := h.xle d (k + 1) (by omega)
    have := h.ra (k + 1) (by omega)
    have := h.rc k (by omega)
    simp only [xAt] at h1
    omega
theorem Good.yle (h : g.Good) : ∀ d k, k + d = g.rows.length → g.yAt k + gz g.dwn k ≤ g.bottom
  | 0, k, hk => by
    have : k = g.rows.length := by omega
    subst this
    exact Int.le_of_eq h.yend
  | d + 1, k, hk => by
    have h1 := h.yle d (k + 1) (by omega)
    have := h.rd (k + 1) (by omega)
    have := h.rr k (by omega)
    simp only [yAt] at h1
    omega
theorem Good.right1 (h : g.Good) : 1 ≤ g.right := by
  have := h.x0 g.cols.length (Nat.le_refl _)
  have := h.xend
  have := h.ra g.cols.length (Nat.le_refl _)
  have := h.nc
  omega
theorem Good.bottom1 (h : g.Good) : 1 ≤ g.bottom := by
  have := h.y0 g.rows.length (Nat.le_refl _)
  have := h.yend
  have := h.rd g.rows.length (Nat.le_refl _)
  have := h.nr
  omega
theorem ff_all : (List.range 61).all (fun i => (List.range 61).all fun j => i == j || !nmEq (fN i) (fN j)) = true := by kernel_rfl
theorem pp_all : (List.range 61).all (fun i => (List.range 61).all fun j => i == j || !nmEq (pN i) (pN j)) = true := by kernel_rfl
theorem fp_all : (List.range 61).all (fun i => (List.range 61).all fun j => !nmEq (fN i) (pN j) && !nmEq (pN i) (fN j)) = true := by kernel_rfl
theorem nq_all : (List.range 61).all (fun i => !nmEq (fN i) ⟨#[113, 97]⟩ && !nmEq (fN i) ⟨#[113, 100]⟩ && (!nmEq (pN i) ⟨#[113, 97]⟩ && !nmEq (pN i) ⟨#[113, 100]⟩) && (isNm (fN i) && isNm (pN i))) = true := by kernel_rfl
theorem qq_all : (!nmEq ⟨#[113, 97]⟩ ⟨#[113, 100]⟩ && (isNm ⟨#[113, 97]⟩ && isNm ⟨#[113, 100]⟩)) = true := by kernel_rfl
theorem ff {i j : Nat} (hi : i ≤ 60) (hj : j ≤ 60) (h : i ≠ j) : nmEq (fN i) (fN j) = false := by
  have := List.all_eq_true.1 (List.all_eq_true.1 ff_all i (List.mem_range.2 (by omega))) j (List.mem_range.2 (by omega))
  simpa [h] using this
theorem pp {i j : Nat} (hi : i ≤ 60) (hj : j ≤ 60) (h : i ≠ j) : nmEq (pN i) (pN j) = false := by
  have := List.all_eq_true.1 (List.all_eq_true.1 pp_all i (List.mem_range.2 (by omega))) j (List.mem_range.2 (by omega))
  simpa [h] using this
theorem fp {i j : Nat} (hi : i ≤ 60) (hj : j ≤ 60) : nmEq (fN i) (pN j) = false ∧ nmEq (pN i) (fN j) = false := by
  have := List.all_eq_true.1 (List.all_eq_true.1 fp_all i (List.mem_range.2 (by omega))) j (List.mem_range.2 (by omega))
  simpa using this
theorem nq {i : Nat} (hi : i ≤ 60) : (nmEq (fN i) ⟨#[113, 97]⟩ = false ∧ nmEq (fN i) ⟨#[113, 100]⟩ = false) ∧ (nmEq (pN i) ⟨#[113, 97]⟩ = false ∧ nmEq (pN i) ⟨#[113, 100]⟩ = false) ∧ isNm (fN i) = true ∧ isNm (pN i) = true := by
  have := List.all_eq_true.1 nq_all i (List.mem_range.2 (by omega))
  simp only [Bool.and_eq_true, Bool.not_eq_true'] at this
  exact ⟨this.1.1, this.1.2, this.2⟩
/-- The pieces so far: before row y; or in it, left of x; none reaches below c. -/
structure Inv (g : Grid) (s : Lay) (y x c : Int) : Prop where
  inn : ∀ p ∈ s.ps, 1 ≤ p.w ∧ 1 ≤ p.h ∧ 0 ≤ p.x ∧ 0 ≤ p.y ∧ p.x + p.w ≤ g.right ∧ p.y + p.h ≤ c ∧ (p.y + p.h ≤ y ∨ p.x + p.w ≤ x)
  apart : s.ps.Pairwise fun p q => ¬ p.meet q
  nms : ∀ p ∈ s.ps, (p.kind = 2 ∧ ∃ k, 1 ≤ k ∧ k ≤ s.nf ∧ p.name = fN k) ∨ (p.kind = 1 ∧ ∃ k, 1 ≤ k ∧ k ≤ s.np ∧ p.name = pN k)
  dif : s.ps.length ≤ 60 → s.ps.Pairwise fun p q => nmEq p.name q.name = false
  len : s.ps.length = s.np + s.nf
theorem inv_nil (g : Grid) (y x c : Int) : Inv g ⟨[], 0, 0⟩ y x c := ⟨fun p h => (by cases h), .nil, fun p h => (by cases h), fun _ => .nil, rfl⟩
theorem Inv.mono {s : Lay} {y x x' c c' : Int} (h : Inv g s y x c) (hx : x ≤ x') (hc : c ≤ c') : Inv g s y x' c' :=
  ⟨fun p hp => by
    obtain ⟨a1, a2, a3, a4, a5, a6, a7⟩ := h.inn p hp
    exact ⟨a1, a2, a3, a4, a5, by omega, by omega⟩, h.apart, h.nms, h.dif, h.len⟩
theorem Inv.next {s : Lay} {y x c : Int} (h : Inv g s y x c) : Inv g s c 0 c :=
  ⟨fun p hp => by
    obtain ⟨a1, a2, a3, a4, a5, a6, a7⟩ := h.inn p hp
    exact ⟨a1, a2, a3, a4, a5, a6, .inl a6⟩, h.apart, h.nms, h.dif, h.len⟩
theorem Inv.addF {s : Lay} {y x c w h : Int} (hi : Inv g s y x c) (h1 : 1 ≤ w) (h2 : 1 ≤ h) (h3 : 0 ≤ x) (h4 : 0 ≤ y) (h5 : x + w ≤ g.right) (h6 : y + h ≤ c) :
    Inv g ⟨s.ps ++ [⟨fN (s.nf + 1), 2, x, y, w, h⟩], s.np, s.nf + 1⟩ y (x + w) c := by
  refine ⟨fun p hp => ?_, ?_, fun p hp => ?_, fun hl => ?_, ?_⟩
  · rcases List.mem_append.1 hp with hp | hp
    · obtain ⟨a1, a2, a3, a4, a5, a6, a7⟩ := hi.inn p hp
      exact ⟨a1, a2, a3, a4, a5, a6, by omega⟩
    · obtain rfl := List.mem_singleton.1 hp
      exact ⟨h1, h2, h3, h4, h5, h6, .inr (Int.le_refl _)⟩
  · refine List.pairwise_append.2 ⟨hi.apart, List.pairwise_singleton _ _, fun p hp q hq => ?_⟩
    obtain rfl := List.mem_singleton.1 hq
    obtain ⟨a1, a2, a3, a4, a5, a6, a7⟩ := hi.inn p hp
    unfold Piece.meet
    simp only
    omega
  · rcases List.mem_append.1 hp with hp | hp
    · rcases hi.nms p hp with ⟨a, k, b1, b2, b3⟩ | ⟨a, k, b1, b2, b3⟩
      · exact .inl ⟨a, k, b1, by simp only; omega, b3⟩
      · exact .inr ⟨a, k, b1, b2, b3⟩
    · obtain rfl := List.mem_singleton.1 hp
      exact .inl ⟨rfl, s.nf + 1, by omega, Nat.le_refl _, rfl⟩
  · simp only [List.length_append, List.length_singleton] at hl
    have hlen := hi.len
    refine List.pairwise_append.2 ⟨hi.dif (by omega), List.pairwise_singleton _ _, fun p hp q hq => ?_⟩
    obtain rfl := List.mem_singleton.1 hq
    rcases hi.nms p hp with ⟨a, k, b1, b2, b3⟩ | ⟨a, k, b1, b2, b3⟩
    · rw [b3]; exact ff (by omega) (by omega) (by omega)
    · rw [b3]; exact (fp (by omega) (by omega)).2
  · have := hi.len
    simp only [List.length_append, List.length_singleton]
    omega
theorem Inv.addP {s : Lay} {y x c w h : Int} (hi : Inv g s y x c) (h1 : 1 ≤ w) (h2 : 1 ≤ h) (h3 : 0 ≤ x) (h4 : 0 ≤ y) (h5 : x + w ≤ g.right) (h6 : y + h ≤ c) :
    Inv g (s.page x y w h) y (x + w) c := by
  unfold Lay.page
  refine ⟨fun p hp => ?_, ?_, fun p hp => ?_, fun hl => ?_, ?_⟩
  · rcases List.mem_append.1 hp with hp | hp
    · obtain ⟨a1, a2, a3, a4, a5, a6, a7⟩ := hi.inn p hp
      exact ⟨a1, a2, a3, a4, a5, a6, by omega⟩
    · obtain rfl := List.mem_singleton.1 hp
      exact ⟨h1, h2, h3, h4, h5, h6, .inr (Int.le_refl _)⟩
  · refine List.pairwise_append.2 ⟨hi.apart, List.pairwise_singleton _ _, fun p hp q hq => ?_⟩
    obtain rfl := List.mem_singleton.1 hq
    obtain ⟨a1, a2, a3, a4, a5, a6, a7⟩ := hi.inn p hp
    unfold Piece.meet
    simp only
    omega
  · rcases List.mem_append.1 hp with hp | hp
    · rcases hi.nms p hp with ⟨a, k, b1, b2, b3⟩ | ⟨a, k, b1, b2, b3⟩
      · exact .inl ⟨a, k, b1, b2, b3⟩
      · exact .inr ⟨a, k, b1, by simp only; omega, b3⟩
    · obtain rfl := List.mem_singleton.1 hp
      exact .inr ⟨rfl, s.np + 1, by omega, Nat.le_refl _, rfl⟩
  · simp only [List.length_append, List.length_singleton] at hl
    have hlen := hi.len
    refine List.pairwise_append.2 ⟨hi.dif (by omega), List.pairwise_singleton _ _, fun p hp q hq => ?_⟩
    obtain rfl := List.mem_singleton.1 hq
    rcases hi.nms p hp with ⟨a, k, b1, b2, b3⟩ | ⟨a, k, b1, b2, b3⟩
    · rw [b3]; exact (fp (by omega) (by omega)).1
    · rw [b3]; exact pp (by omega) (by omega) (by omega)
  · have := hi.len
    simp only [List.length_append, List.length_singleton]
    omega
theorem Inv.fill {s : Lay} {y x c w h : Int} (hi : Inv g s y x c) (h1 : 0 ≤ w) (h3 : 0 ≤ x) (h4 : 0 ≤ y) (h5 : x + w ≤ g.right) (h6 : y + h ≤ c) : Inv g (s.fill x y w h) y (x + w) c := by
  unfold Lay.fill
  by_cases e : 0 < w ∧ 0 < h
  · rw [if_pos e]; exact hi.addF (by omega) (by omega) h3 h4 h5 h6
  · rw [if_neg e]; exact hi.mono (by omega) (Int.le_refl _)
theorem Inv.cells (hg : g.Good) {s : Lay} {y h : Int} (hi : Inv g s y 0 (y + h)) (h2 : 1 ≤ h) (h4 : 0 ≤ y) : ∀ k, k ≤ g.cols.length → Inv g (g.cells s y h k) y (g.xAt k) (y + h)
  | 0, _ => hi
  | k + 1, hk => by
    have h1 := Inv.cells hg hi h2 h4 k (by omega)
    have h3 := hg.x0 k (by omega)
    have h5 := hg.ra k (by omega)
    have h6 := hg.rc k (by omega)
    have h7 := hg.xle (g.cols.length - k) k (by omega)
    have h8 := hg.xle (g.cols.length - (k + 1)) (k + 1) (by omega)
    have h9 := hg.ra (k + 1) hk
    simp only [xAt] at h8
    have := (h1.fill (w := gz g.acr k) (h := h) h5.1 h3.1 h4 h7 (Int.le_refl _)).addP (w := gz g.cols k) h6.1 h2 (by omega) h4 (by omega) (Int.le_refl _)
    rw [Grid.cells, xAt, ← Int.add_assoc]
    exact this
theorem Inv.row (hg : g.Good) {s : Lay} {y h : Int} (hi : Inv g s y 0 (y + h)) (h2 : 1 ≤ h) (h4 : 0 ≤ y) : Inv g (g.row s y h) (y + h) 0 (y + h) := by
  have h1 := Inv.cells hg hi h2 h4 _ (Nat.le_refl _)
  have h3 := hg.x0 _ (Nat.le_refl _)
  have h5 := hg.ra _ (Nat.le_refl _)
  exact (h1.fill (w := gz g.acr g.cols.length) (h := h) h5.1 h3.1 h4 (Int.le_of_eq hg.xend) (Int.le_refl _)).next
theorem inv_lays (hg : g.Good) : ∀ i, i ≤ g.rows.length → Inv g (g.lays i) (g.yAt i) 0 (g.yAt i)
  | 0, _ => inv_nil _ _ _ _
  | i + 1, hi => by
    have h1 := inv_lays hg i (by omega)
    have h3 := hg.y0 i (by omega)
    have h5 := hg.rd i (by omega)
    have h6 := hg.rr i (by omega)
    have h7 := (h1.mono (Int.le_refl 0) (show g.yAt i ≤ g.yAt i + gz g.dwn i by omega)).fill (w := g.right) (h := gz g.dwn i) (by have := hg.right1; omega) (Int.le_refl 0) h3.1 (by omega) (Int.le_refl _)
    have h8 := (h7.next.mono (Int.le_refl 0) (show g.yAt i + gz g.dwn i ≤ g.yAt i + gz g.dwn i + gz g.rows i by omega)).row hg h6.1 (by omega)
    exact h8
theorem inv_last (hg : g.Good) : Inv g g.last g.bottom 0 g.bottom := by
  have h1 := inv_lays hg _ (Nat.le_refl _)
  have h3 := hg.y0 _ (Nat.le_refl _)
  have h5 := hg.rd _ (Nat.le_refl _)
  have h6 := hg.yend
  have h7 := (h1.mono (Int.le_refl 0) (show g.yAt g.rows.length ≤ g.bottom by omega)).fill (w := g.right) (h := gz g.dwn g.rows.length) (by have := hg.right1; omega) (Int.le_refl 0) h3.1 (by omega) (Int.le_of_eq h6)
  exact h7.next
theorem forme_right (hg : g.Good) (hl : g.all.length ≤ 60) : g.forme.Right := by
  have hi := inv_last hg
  have hr := hg.right1
  have hb := hg.bottom1
  have hq := hg.q1
  have hW : g.right = g.W - g.q := rfl
  have hH : g.bottom = g.H - g.q := rfl
  have hlen : g.all.length = g.last.ps.length + 2 := by simp [all]
  have hlp := hi.len
  have hq2 : ∀ p ∈ g.all, p ∈ g.last.ps ∨ p = g.qa ∨ p = g.qd := fun p hp => by
    rcases List.mem_append.1 hp with h | h
    · exact .inl h
    · rcases List.mem_cons.1 h with h | h
      · exact .inr (.inl h)
      · exact .inr (.inr (List.mem_singleton.1 h))
  obtain ⟨z1, z2, z3⟩ : nmEq ⟨#[113, 97]⟩ ⟨#[113, 100]⟩ = false ∧ isNm ⟨#[113, 97]⟩ = true ∧ isNm ⟨#[113, 100]⟩ = true := by
    have := qq_all
    simpa only [Bool.and_eq_true, Bool.not_eq_true'] using this
  have hap : g.all.Pairwise fun p q => ¬ p.meet q := by
    refine List.pairwise_append.2 ⟨hi.apart, ?_, fun p hp q hqm => ?_⟩
    · refine List.pairwise_cons.2 ⟨fun q hqm => ?_, List.pairwise_singleton _ _⟩
      obtain rfl := List.mem_singleton.1 hqm
      unfold Piece.meet qa qd
      simp only
      omega
    · obtain ⟨a1, a2, a3, a4, a5, a6, a7⟩ := hi.inn p hp
      rcases List.mem_cons.1 hqm with rfl | h
      · unfold Piece.meet qa
        simp only
        omega
      · obtain rfl := List.mem_singleton.1 h
        unfold Piece.meet qd
        simp only
        omega
  have hdf : g.all.Pairwise fun p q => nmEq p.name q.name = false := by
    refine List.pairwise_append.2 ⟨hi.dif (by omega), ?_, fun p hp q hqm => ?_⟩
    · refine List.pairwise_cons.2 ⟨fun q hqm => ?_, List.pairwise_singleton _ _⟩
      obtain rfl := List.mem_singleton.1 hqm
      exact z1
    · rcases hi.nms p hp with ⟨a, k, b1, b2, b3⟩ | ⟨a, k, b1, b2, b3⟩
      · obtain ⟨⟨c1, c2⟩, -⟩ := nq (i := k) (by omega)
        rw [b3]
        rcases List.mem_cons.1 hqm with rfl | h
        · exact c1
        · obtain rfl := List.mem_singleton.1 h
          exact c2
      · obtain ⟨-, ⟨c1, c2⟩, -⟩ := nq (i := k) (by omega)
        rw [b3]
        rcases List.mem_cons.1 hqm with rfl | h
        · exact c1
        · obtain rfl := List.mem_singleton.1 h
          exact c2
  refine { w1 := hg.w1, w2 := hg.w2, h1 := hg.h1, h2 := hg.h2, inn := fun p hp => ?_, apart := hap, few := hl, kind := fun p hp => ?_, nm := fun p hp => ?_, diff := fun i j hj hi2 => ?_ }
  · show p.inn g.W g.H
    unfold Piece.inn
    rcases hq2 p hp with h | rfl | rfl
    · obtain ⟨a1, a2, a3, a4, a5, a6, a7⟩ := hi.inn p h
      omega
    · unfold qa; simp only; omega
    · unfold qd; simp only; have := hg.w1; omega
  · rcases hq2 p hp with h | rfl | rfl
    · rcases hi.nms p h with ⟨a, -⟩ | ⟨a, -⟩ <;> omega
    · unfold qa; simp only; omega
    · unfold qd; simp only; omega
  · rcases hq2 p hp with h | rfl | rfl
    · rcases hi.nms p h with ⟨a, k, b1, b2, b3⟩ | ⟨a, k, b1, b2, b3⟩
      · rw [b3]; exact (nq (i := k) (by omega)).2.2.1
      · rw [b3]; exact (nq (i := k) (by omega)).2.2.2
    · exact z2
    · exact z3
  · have hi3 : i < g.all.length := hi2
    have := List.pairwise_iff_getElem.1 hdf j i (by omega) hi3 hj
    show nmEq (gp g.all j).name (gp g.all i).name = false
    rw [gp_get hi3, gp_get (show j < g.all.length by omega)]
    exact this
theorem areas_app (l m : List Piece) : areas (l ++ m) = areas l + areas m := by
  induction l with
  | nil => simp [areas]
  | cons p l ih => simp only [List.cons_append, areas, ih]; omega
theorem area_fill (s : Lay) {x y w h : Int} (hw : 0 ≤ w) (hh : 0 ≤ h) : areas (s.fill x y w h).ps = areas s.ps + w * h := by
  unfold Lay.fill
  by_cases e : 0 < w ∧ 0 < h
  · rw [if_pos e, areas_app]; simp [areas]
  · rw [if_neg e]
    have : w = 0 ∨ h = 0 := by omega
    rcases this with rfl | rfl <;> simp
theorem area_page (s : Lay) (x y w h : Int) : areas (s.page x y w h).ps = areas s.ps + w * h := by
  unfold Lay.page
  rw [areas_app]; simp [areas]
theorem area_cells (hg : g.Good) (s : Lay) (y : Int) {h : Int} (hh : 1 ≤ h) : ∀ k, k ≤ g.cols.length → areas (g.cells s y h k).ps = areas s.ps + g.xAt k * h
  | 0, _ => by simp [cells, xAt]
  | k + 1, hk => by
    have h5 := hg.ra k (by omega)
    rw [cells, area_page, area_fill _ h5.1 (by omega), area_cells hg s y hh k (by omega), xAt, Int.add_mul, Int.add_mul]
    omega
theorem area_row (hg : g.Good) (s : Lay) (y : Int) {h : Int} (hh : 1 ≤ h) : areas (g.row s y h).ps = areas s.ps + g.right * h := by
  have h5 := hg.ra _ (Nat.le_refl g.cols.length)
  rw [row, area_fill _ h5.1 (by omega), area_cells hg s y hh _ (Nat.le_refl _), ← hg.xend, Int.add_mul]
  omega
theorem area_lays (hg : g.Good) : ∀ i, i ≤ g.rows.length → areas (g.lays i).ps = g.right * g.yAt i
  | 0, _ => by simp [lays, yAt, areas]
  | i + 1, hi => by
    have h5 := hg.rd i (by omega)
    have h6 := hg.rr i (by omega)
    have hr := hg.right1
    rw [lays, area_row hg _ _ h6.1, area_fill _ (by omega) h5.1, area_lays hg i (by omega), yAt, Int.mul_add, Int.mul_add]
theorem forme_area (hg : g.Good) : areas g.forme.ps = g.forme.W * g.forme.H := by
  have h5 := hg.rd _ (Nat.le_refl g.rows.length)
  have hr := hg.right1
  show areas g.all = g.W * g.H
  rw [all, areas_app, last, area_fill _ (by omega) h5.1, area_lays hg _ (Nat.le_refl _), ← Int.mul_add, hg.yend]
  show _ + (g.q * g.bottom + (g.W * g.q + 0)) = _
  rw [show g.right = g.W - g.q from rfl, show g.bottom = g.H - g.q from rfl]
  simp only [Int.sub_mul, Int.mul_sub]
  omega
/-- How many of the first k numbers are not 0. -/
def gapN (l : List Int) : Nat → Nat
  | 0 => 0
  | k + 1 => gapN l k + if gz l k = 0 then 0 else 1
theorem len_fill (s : Lay) {x y w h : Int} (hw : 0 ≤ w) (hh : 0 ≤ h) : (s.fill x y w h).ps.length = s.ps.length + if w = 0 ∨ h = 0 then 0 else 1 := by
  unfold Lay.fill
  by_cases e : 0 < w ∧ 0 < h
  · rw [if_pos e, if_neg (by omega)]; simp
  · rw [if_neg e, if_pos (by omega)]; rfl
theorem len_page (s : Lay) (x y w h : Int) : (s.page x y w h).ps.length = s.ps.length + 1 := by
  unfold Lay.page; simp
theorem len_cells (hg : g.Good) (s : Lay) (y : Int) {h : Int} (hh : 1 ≤ h) : ∀ k, k ≤ g.cols.length → (g.cells s y h k).ps.length = s.ps.length + (k + gapN g.acr k)
  | 0, _ => rfl
  | k + 1, hk => by
    have h5 := hg.ra k (by omega)
    rw [cells, len_page, len_fill _ h5.1 (by omega), len_cells hg s y hh k (by omega), gapN]
    by_cases e : gz g.acr k = 0
    · rw [if_pos (.inl e), if_pos e]; omega
    · rw [if_neg (by omega), if_neg e]; omega
theorem len_row (hg : g.Good) (s : Lay) (y : Int) {h : Int} (hh : 1 ≤ h) : (g.row s y h).ps.length = s.ps.length + (g.cols.length + gapN g.acr g.acr.length) := by
  have h5 := hg.ra _ (Nat.le_refl g.cols.length)
  rw [row, len_fill _ h5.1 (by omega), len_cells hg s y hh _ (Nat.le_refl _), hg.la, gapN]
  by_cases e : gz g.acr g.cols.length = 0
  · rw [if_pos (.inl e), if_pos e]; omega
  · rw [if_neg (by omega), if_neg e]; omega
theorem len_lays (hg : g.Good) : ∀ i, i ≤ g.rows.length → (g.lays i).ps.length = i * (g.cols.length + gapN g.acr g.acr.length) + gapN g.dwn i
  | 0, _ => by simp [lays, gapN]
  | i + 1, hi => by
    have h5 := hg.rd i (by omega)
    have h6 := hg.rr i (by omega)
    have hr := hg.right1
    rw [lays, len_row hg _ _ h6.1, len_fill _ (by omega) h5.1, len_lays hg i (by omega), gapN, Nat.succ_mul]
    by_cases e : gz g.dwn i = 0
    · rw [if_pos (.inr e), if_pos e]; omega
    · rw [if_neg (by omega), if_neg e]; omega
theorem len_all (hg : g.Good) : g.all.length = g.rows.length * (g.cols.length + gapN g.acr g.acr.length) + gapN g.dwn g.dwn.length + 2 := by
  have h5 := hg.rd _ (Nat.le_refl g.rows.length)
  have hr := hg.right1
  rw [all, List.length_append, last, len_fill _ (by omega) h5.1, len_lays hg _ (Nat.le_refl _), hg.ld, gapN]
  show _ + 2 = _
  by_cases e : gz g.dwn g.rows.length = 0
  · rw [if_pos (.inr e), if_pos e]; omega
  · rw [if_neg (by omega), if_neg e]; omega
end Grid
end Go.Proofs.YtlfeoofchebbkaaDoor
