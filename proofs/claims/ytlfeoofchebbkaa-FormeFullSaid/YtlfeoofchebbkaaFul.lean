/- FormeFull: a forme has no gap just if each row, and each column, adds up. -/
import Derived.Test.YtlfeoofchebbkaaRwa
namespace Go.Proofs.Ytlfeoofchebbkaa
set_option linter.unusedSimpArgs false
set_option linter.unusedVariables false
open Go.RowKit
theorem rowAt_at (f : Forme) (hnm : NameOk f.ps) (hm : f.ps.length ≤ 1000) (hs : (checkF f).2 = 0) : ∀ (W : World) (vf : Value) (k : Nat), FormeAt W f vf → (k : Int) < f.H → Calls Try.prog 60 #[vf, .int .i64 k] W (LinePost (rowL f k) 0 W) := by
  rintro W vf k ⟨A', b', c', rfl, h1, h2, h3⟩ hk
  exact rowAt_ok f k A' b' 0 c' W h1 h2 hnm h3 hm hs (win_t.2 (by omega))
theorem colAt_at (f : Forme) (hnm : NameOk f.ps) (hm : f.ps.length ≤ 1000) (hs : (checkF f).2 = 0) : ∀ (W : World) (vf : Value) (k : Nat), FormeAt W f vf → (k : Int) < f.W → Calls Try.prog 61 #[vf, .int .i64 k] W (LinePost (colL f k) 0 W) := by
  rintro W vf k ⟨A', b', c', rfl, h1, h2, h3⟩ hk
  exact colAt_ok f k A' b' 0 c' W h1 h2 hnm h3 hm hs (win_t.2 (by omega))
def sumT (l : List Nat) (v : Nat → Int) (i : Nat) : Int := ((l.take i).map v).sum
theorem sumT_succ {l : List Nat} {v : Nat → Int} {i : Nat} (h : i < l.length) : sumT l v (i + 1) = sumT l v i + v (gn l i) := by
  unfold sumT
  rw [List.take_succ_eq_append_getElem h, List.map_append, List.sum_append, gn_get h]; simp
theorem sumT_bd {l : List Nat} {v : Nat → Int} (hv : ∀ j, j < l.length → 0 ≤ v (gn l j) ∧ v (gn l j) ≤ 4000) : ∀ i, i ≤ l.length → 0 ≤ sumT l v i ∧ sumT l v i ≤ 4000 * i := by
  intro i
  induction i with
  | zero => intro _; simp [sumT]
  | succ i ih =>
    intro h
    have := ih (by omega)
    have := hv i (by omega)
    rw [sumT_succ (by omega)]
    omega
theorem sumT_all (l : List Nat) (v : Nat → Int) : sumT l v l.length = (l.map v).sum := by simp [sumT]
theorem aloS_len (ps : List Piece) (is : Piece → Bool) (ord : Piece → Int) : (aloS ps is ord).length ≤ ps.length := by
  rw [(aloS_perm ps is ord).length_eq, ← alK_all]
  exact alK_len _ _ _
/-- The first k rows, and columns, add up. -/
def rowsB (f : Forme) (k : Nat) : Bool := decide (∀ j : Nat, j < k → rowSum f.ps j = f.W)
def colsB (f : Forme) (k : Nat) : Bool := decide (∀ j : Nat, j < k → colSum f.ps j = f.H)
theorem rowsB_succ (f : Forme) (k : Nat) : rowsB f (k + 1) = (rowsB f k && (rowSum f.ps k == f.W)) := by
  unfold rowsB
  rw [Bool.eq_iff_iff]
  simp only [decide_eq_true_eq, Bool.and_eq_true, beq_iff_eq]
  constructor
  · intro h; exact ⟨fun j hj => h j (by omega), h k (by omega)⟩
  · rintro ⟨h1, h2⟩ j hj
    by_cases e : j = k
    · subst e; exact h2
    · exact h1 j (by omega)
theorem colsB_succ (f : Forme) (k : Nat) : colsB f (k + 1) = (colsB f k && (colSum f.ps k == f.H)) := by
  unfold colsB
  rw [Bool.eq_iff_iff]
  simp only [decide_eq_true_eq, Bool.and_eq_true, beq_iff_eq]
  constructor
  · intro h; exact ⟨fun j hj => h j (by omega), h k (by omega)⟩
  · rintro ⟨h1, h2⟩ j hj
    by_cases e : j = k
    · subst e; exact h2
    · exact h1 j (by omega)
theorem full_bools {f : Forme} (h : f.Laid) : (rowsB f f.H.toNat == ((gapF f).2.2 == 12)) = true ∧ (colsB f f.W.toNat == rowsB f f.H.toNat) = true := by
  obtain ⟨h1, h2⟩ := h.full_law
  have e1 : (∀ j : Nat, j < f.H.toNat → rowSum f.ps j = f.W) ↔ (∀ y : Int, 0 ≤ y → y < f.H → rowSum f.ps y = f.W) :=
    ⟨fun g y a b => by have := g y.toNat (by omega); rwa [Int.toNat_of_nonneg a] at this, fun g j hj => g j (by omega) (by omega)⟩
  have e2 : (∀ j : Nat, j < f.W.toNat → colSum f.ps j = f.H) ↔ (∀ x : Int, 0 ≤ x → x < f.W → colSum f.ps x = f.H) :=
    ⟨fun g y a b => by have := g y.toNat (by omega); rwa [Int.toNat_of_nonneg a] at this, fun g j hj => g j (by omega) (by omega)⟩
  unfold rowsB colsB
  constructor
  · rw [beq_iff_eq, Bool.eq_iff_iff, decide_eq_true_eq, beq_iff_eq, e1, h1]
  · rw [beq_iff_eq, Bool.eq_iff_iff, decide_eq_true_eq, decide_eq_true_eq, e1, e2, h2]
theorem row_sum {f : Forme} (h : f.Laid) (k : Nat) : sumT (rowL f k) (fun i => (gp f.ps i).w) (rowL f k).length = rowSum f.ps k := by
  rw [sumT_all, rowL, sum_aloS (isRow k) (fun p => p.w), sumB_row _ _ fun p hp => (h.inn p hp).1]
theorem col_sum {f : Forme} (h : f.Laid) (k : Nat) : sumT (colL f k) (fun i => (gp f.ps i).h) (colL f k).length = colSum f.ps k := by
  rw [sumT_all, colL, sum_aloS (isCol k) (fun p => p.h), sumB_col _ _ fun p hp => (h.inn p hp).2.1]
/-- What a loop over a row of numbers of pieces reads. -/
theorem line_facts {W0 : World} {l : List Nat} {v : Value} (h : IntsV W0 (zl l) v) : ∃ A' b' c', v = .slice A' l.length c' ∧ l.length ≤ c' ∧ (∀ W i, Below W0.heap.size W0 W → i < l.length → A' = some ⟨b', 0, none⟩ ∧ W.cell? ⟨b', i, none⟩ = some (.int .i64 (gn l i : Int))) := by
  obtain ⟨A', b', c', rfl, h1, h2, h3, h4⟩ := h
  have e : (zl l).length = l.length := by simp [zl]
  rw [e] at h1 h3 h4 ⊢
  refine ⟨A', b', c', rfl, h3, fun W i hW hi => ?_⟩
  obtain ⟨hA, hb⟩ := h1 (by omega)
  refine ⟨hA, (hW.cell (p := ⟨b', i, none⟩) hb).trans ?_⟩
  have := h2 i (by omega)
  rw [Nat.zero_add] at this
  rw [this]
  simp [gz, zl, gn, List.getD_eq_getElem?_getD, List.getElem?_eq_getElem hi]
set_option maxRecDepth 100000 in
set_option maxHeartbeats 8000000 in
theorem full_any (f : Forme) (A : Option Addr) (b off c : Nat) (w : World) (hA : Lies A f.ps.length w.heap.size b off) (hps : PsAt w b off f.ps) (hc : f.ps.length ≤ c) (hm : c ≤ maxLen) :
    Calls Try.prog 14 #[.agg #[.int .i64 f.W, .int .i64 f.H, .slice A f.ps.length c]] w fun e w' => e = .returned (.bool true) ∧ Below w.heap.size w w' := by
  have hBx := below_new w (Obj.cells #[Value.int IntKind.i64 f.W, Value.int IntKind.i64 f.H, Value.slice A f.ps.length c] 37)
  have hHL : LF w _ f A b off c := ⟨hBx, FAt_new w 37 f (Value.slice A f.ps.length c), hA, fun j hj => (hps j hj).below hBx (hA (by omega)).2, by simp⟩
  unfold maxLen at hm
  go_enter Try.func14, Try.ntmps14
  go_wp2_with fail
  generalize w.alloc (Obj.cells #[Value.int IntKind.i64 f.W, Value.int IntKind.i64 f.H, Value.slice A f.ps.length c] 37) = W0 at *
  have HL0 := Lib.hid hHL
  clear hHL hBx hA hps
  refine (awake_any _).mono ?_
  rintro e W1 ⟨rfl, e1⟩
  have HL := Lib.hid (HL0.out.step e1)
  clear HL0 e1
  obtain ⟨a0, a1, a2⟩ := HL.out.F
  go_wp2_with fail
  refine (light_any f A b off c W1 HL.out.l HL.out.ps (by omega)).mono ?_
  rintro e W2 ⟨rfl, e1⟩
  have HL2 := Lib.hid (HL.out.step e1)
  clear HL e1 a0 a1 a2
  obtain ⟨a0, a1, a2⟩ := HL2.out.F
  have HLT := Lib.hid (fun h => lightB_t (f := f) h)
  generalize lightB f = lb at *
  cases lb with
  | false =>
    go_wp2_with fail
    go_ret
    exact ⟨rfl, HL2.out.B⟩
  | true =>
    obtain ⟨hnm, hlen⟩ := HLT.out rfl
    have HNM := Lib.hid hnm
    clear hnm HLT
    by_cases hw60 : 60 < f.W
    · go_wp2_with fail
      go_ret
      exact ⟨rfl, HL2.out.B⟩
    · by_cases hh60 : 60 < f.H
      · go_wp2_with fail
        go_ret
        exact ⟨rfl, HL2.out.B⟩
      · have HCF2 := Lib.hid (copyF_at f A b off c W2.heap.size W2 HL2.out.l HL2.out.ps (by omega))
        have H40 := Lib.hid (checkForme_at f HNM.out (by omega))
        go_wp2_with fail
        refine (HCF2.out _ (Below.refl _ _) (Nat.le_refl _)).mono ?_
        rintro e W3 ⟨vf, rfl, hf1, b1⟩
        have HL3 := Lib.hid (HL2.out.step b1)
        have H40' := Lib.hid (H40.out W3 vf hf1)
        clear HL2 b1 hf1 HCF2 H40 a0 a1 a2
        go_wp2_with fail
        refine H40'.out.mono ?_
        rintro e W4 ⟨rfl, b1⟩
        have HL4 := Lib.hid (HL3.out.step b1)
        clear HL3 b1 H40'
        obtain ⟨a0, a1, a2⟩ := HL4.out.F
        by_cases hs : (checkF f).2 = 0
        · have HLD := Lib.hid (checkF_zero hs).toLaid
          have z1 := HLD.out.w1
          have z2 := HLD.out.h1
          have H41 := Lib.hid (gapRight_at f HNM.out (by omega) hs)
          have HROW := Lib.hid (rowAt_at f HNM.out (by omega) hs)
          have HCOL := Lib.hid (colAt_at f HNM.out (by omega) hs)
          have HFB := Lib.hid (full_bools HLD.out)
          have HCF4 := Lib.hid (copyF_at f A b off c W4.heap.size W4 HL4.out.l HL4.out.ps (by omega))
          rw [hs]
          clear hs
          generalize (gapF f) = gp3 at *
          obtain ⟨gx, gy, ge⟩ := gp3
          dsimp only at H41 HFB
          go_wp2_with fail
          refine (HCF4.out _ (Below.refl _ _) (Nat.le_refl _)).mono ?_
          rintro e W5 ⟨vf, rfl, hf1, b1⟩
          have HL5' := Lib.hid (HL4.out.step b1)
          have H41' := Lib.hid (H41.out W5 vf hf1)
          clear HL4 b1 hf1 HCF4 H41 a0 a1 a2
          go_wp2_with fail
          refine H41'.out.mono ?_
          rintro e W6 ⟨rfl, b1⟩
          have HL6 := Lib.hid ((HL5'.out.step b1).step (below_new _ (Obj.cells #[Value.int IntKind.i64 gx, Value.int IntKind.i64 gy] 57)))
          clear HL5' b1 H41'
          go_wp2_with fail
          generalize W6.alloc (Obj.cells #[Value.int IntKind.i64 gx, Value.int IntKind.i64 gy] 57) = W7 at *
          have HL5 := Lib.hid HL6.out
          clear HL6
          go_loopg [7, 9] f.H.toNat (fun gg sr sy wr => ∃ kr : Nat, (kr : Int) ≤ f.H ∧ f.H.toNat - kr ≤ gg ∧ sy = .int .i64 kr ∧ sr = .bool (rowsB f kr) ∧ Hid (LF w wr f A b off c))
          case atStart => exact ⟨0, by omega, by omega, rfl, by show Value.bool true = .bool (rowsB f 0); congr 1, HL5.out⟩
          case round =>
            obtain ⟨kr, hk, hgk, rfl, rfl, HL⟩ := hrel
            have HK := Lib.hid hgk
            clear hgk
            obtain ⟨a0, a1, a2⟩ := HL.out.F
            by_cases hlt : (kr : Int) < f.H
            · have HCF := Lib.hid (copyF_at f A b off c wr.heap.size wr HL.out.l HL.out.ps (by omega))
              have HB1 := Lib.hid (rowsB_succ f kr)
              have HSU := Lib.hid (row_sum HLD.out kr)
              have hll := aloS_len f.ps (isRow kr) fun p => p.x
              have HLL : Hid ((rowL f kr).length ≤ f.ps.length) := hll
              have HME : Hid (∀ j, j < (rowL f kr).length → gn (rowL f kr) j < f.ps.length) := (show ∀ j, _ from fun j hj => by have h := List.getElem_mem hj; rw [← gn_get hj] at h; exact (mem_aloS.1 h).1)
              clear hll
              generalize rowsB f kr = rb at *
              go_wp2_with fail
              refine (HCF.out _ (Below.refl _ _) (Nat.le_refl _)).mono ?_
              rintro e w1 ⟨vf, rfl, hf1, b1⟩
              have HL1 := Lib.hid (HL.out.step b1)
              have HR1 := Lib.hid (HROW.out w1 vf kr hf1 hlt)
              clear HL a0 a1 a2 b1 hf1 HCF
              go_wp2_with fail
              refine HR1.out.mono ?_
              rintro e w2 ⟨v, rfl, hv, b2⟩
              have HL2 := Lib.hid (HL1.out.step b2)
              obtain ⟨A', b', c', rfl, hcc, hcl⟩ := line_facts hv
              have HCL := Lib.hid hcl
              clear HL1 b2 HR1 hv hcl
              generalize rowL f kr = l at *
              have hm1 := HLL.out
              obtain ⟨a0, a1, a2⟩ := HL2.out.F
              go_wp2_with fail
              go_loopg [12, 13] l.length (fun gg sn si wr2 => ∃ i : Nat, i ≤ l.length ∧ l.length - i ≤ gg ∧ si = .int .i64 i ∧ sn = .int .i64 (sumT l (fun i => (gp f.ps i).w) i) ∧ Hid (LF w wr2 f A b off c) ∧ Hid (Below w2.heap.size w2 wr2))
              case atStart => exact ⟨0, by omega, by omega, rfl, rfl, HL2.out, Below.refl _ _⟩
              case round =>
                obtain ⟨i, hi, hgi, rfl, rfl, HL3, HB3⟩ := hrel
                clear a0 a1 a2
                obtain ⟨a0, a1, a2⟩ := HL3.out.F
                by_cases hil : i < l.length
                · have hilz : (i : Int) < (l.length : Int) := by omega
                  have hi0 : (0 : Int) ≤ (i : Int) := by omega
                  obtain ⟨hA1, d1⟩ := HCL.out wr i HB3.out hil
                  subst hA1
                  have hu := HME.out i hil
                  obtain ⟨hA2, hb⟩ := HL3.out.la (by omega)
                  obtain ⟨-, -, p2, p3, p4, p5⟩ := HL3.out.ps (gn l i) hu
                  rw [hA2] at a2
                  have HSS := Lib.hid (sumT_succ (v := fun i => (gp f.ps i).w) hil)
                  have hbd := sumT_bd (l := l) (v := fun i => (gp f.ps i).w) (fun j hj => by have := HLD.out.sml (HME.out j hj); obtain ⟨s1, s2, s3, s4, s5, s6, s7, s8⟩ := this; exact ⟨by omega, by omega⟩) i (by omega)
                  have hsm := HLD.out.sml hu
                  obtain ⟨s1, s2, s3, s4, s5, s6, s7, s8⟩ := hsm
                  have HVI : Hid (∀ j, j = gn l i → (gp f.ps j).w = (gp f.ps (gn l i)).w) := fun j e => by rw [e]
                  have HEI : Hid (∀ q, q = i → gn l q = gn l i) := fun q e => by rw [e]
                  clear hA2
                  generalize hgu : gn l i = u at *
                  generalize (gp f.ps u) = pu at *
                  generalize sumT l (fun i => (gp f.ps i).w) i = sm at *
                  have hu0 : (0 : Int) ≤ (u : Int) := by omega
                  have huz : (u : Int) < (f.ps.length : Int) := by omega
                  have hup : (u : Int) ≤ (f.ps.length : Int) - 1 := by omega
                  have ew : IntKind.i64.wrap ((f.ps.length : Int) - 1) = (f.ps.length : Int) - 1 := IntWalk.i64_in _ (by omega)
                  have es : IntKind.i64.wrap (sm + pu.w) = sm + pu.w := IntWalk.i64_in _ (by omega)
                  have HQ : Hid (win (u : Int) 0 ((f.ps.length : Int) - 1) = true) := win_t.2 (by omega)
                  have HWI : Hid (∀ W, Calls Try.prog 49 #[.int .i64 u, .int .i64 0, .int .i64 ((f.ps.length : Int) - 1)] W fun e w' => e = .returned (.bool true) ∧ W = w') := (show ∀ W, _ from fun W => by have := withinB_any u 0 ((f.ps.length : Int) - 1) W; rwa [HQ.out] at this)
                  clear hgu s1 s2 s3 s4 s5 s6 s7 s8 hup
                  go_wp2_with fail
                  go_quiet ((go_at_call 49; exact Calls.quiet_of_same ((HWI.out _).mono fun _ _ ⟨h1, h2⟩ => ⟨h1, h2.symm⟩)))
                  go_wp2_with fail
                  go_quiet (fail)
                  clear ew es
                  go_wp2_with fail
                  go_roundg (l.length - (i + 1))
                  case measure => omega
                  case rel => exact ⟨i + 1, by omega, by omega, by go_num, by rw [HSS.out], HL3.out.step ⟨rfl, rfl, rfl, Nat.le_refl _, fun _ _ => rfl⟩, ⟨HB3.out.os, HB3.out.tape, HB3.out.output, HB3.out.size, HB3.out.block⟩⟩
                · have hilz : ¬ (i : Int) < (l.length : Int) := by omega
                  have he : i = l.length := by omega
                  subst he
                  rw [HSU.out]
                  have HB1' := Lib.hid HB1.out
                  generalize rowSum f.ps kr = sm at *
                  cases rb with
                  | false =>
                    go_wp2_with fail
                    go_roundg (f.H.toNat - (kr + 1))
                    case measure => have := HK.out; omega
                    case rel => exact ⟨kr + 1, by omega, by omega, by go_num, by rw [HB1.out]; rfl, HL3.out⟩
                  | true =>
                    go_wp2_with fail
                    go_roundg (f.H.toNat - (kr + 1))
                    case measure => have := HK.out; omega
                    case rel => exact ⟨kr + 1, by omega, by omega, by go_num, by rw [HB1.out]; simp, HL3.out⟩
            · have hkk : kr = f.H.toNat := by omega
              have HKkr := Lib.hid hkk
              clear hkk
              clear HK
              go_wp2_with fail

              go_loopg [8, 14] f.W.toNat (fun gg sr sy wr => ∃ kc : Nat, (kc : Int) ≤ f.W ∧ f.W.toNat - kc ≤ gg ∧ sy = .int .i64 kc ∧ sr = .bool (colsB f kc) ∧ Hid (LF w wr f A b off c))
              case atStart => exact ⟨0, by omega, by omega, rfl, by show Value.bool true = .bool (colsB f 0); congr 1, HL.out⟩
              case round =>
                obtain ⟨kc, hk, hgk, rfl, rfl, HL⟩ := hrel
                have HK := Lib.hid hgk
                clear hgk
                obtain ⟨a0, a1, a2⟩ := HL.out.F
                by_cases hlt : (kc : Int) < f.W
                · have HCF := Lib.hid (copyF_at f A b off c wr.heap.size wr HL.out.l HL.out.ps (by omega))
                  have HB1 := Lib.hid (colsB_succ f kc)
                  have HSU := Lib.hid (col_sum HLD.out kc)
                  have hll := aloS_len f.ps (isCol kc) fun p => p.y
                  have HLL : Hid ((colL f kc).length ≤ f.ps.length) := hll
                  have HME : Hid (∀ j, j < (colL f kc).length → gn (colL f kc) j < f.ps.length) := (show ∀ j, _ from fun j hj => by have h := List.getElem_mem hj; rw [← gn_get hj] at h; exact (mem_aloS.1 h).1)
                  clear hll
                  generalize colsB f kc = rb at *
                  go_wp2_with fail
                  refine (HCF.out _ (Below.refl _ _) (Nat.le_refl _)).mono ?_
                  rintro e w1 ⟨vf, rfl, hf1, b1⟩
                  have HL1 := Lib.hid (HL.out.step b1)
                  have HR1 := Lib.hid (HCOL.out w1 vf kc hf1 hlt)
                  clear HL a0 a1 a2 b1 hf1 HCF
                  go_wp2_with fail
                  refine HR1.out.mono ?_
                  rintro e w2 ⟨v, rfl, hv, b2⟩
                  have HL2 := Lib.hid (HL1.out.step b2)
                  obtain ⟨A', b', c', rfl, hcc, hcl⟩ := line_facts hv
                  have HCL := Lib.hid hcl
                  clear HL1 b2 HR1 hv hcl
                  generalize colL f kc = l at *
                  have hm1 := HLL.out
                  obtain ⟨a0, a1, a2⟩ := HL2.out.F
                  go_wp2_with fail
                  go_loopg [17, 18] l.length (fun gg sn si wr2 => ∃ i : Nat, i ≤ l.length ∧ l.length - i ≤ gg ∧ si = .int .i64 i ∧ sn = .int .i64 (sumT l (fun i => (gp f.ps i).h) i) ∧ Hid (LF w wr2 f A b off c) ∧ Hid (Below w2.heap.size w2 wr2))
                  case atStart => exact ⟨0, by omega, by omega, rfl, rfl, HL2.out, Below.refl _ _⟩
                  case round =>
                    obtain ⟨i, hi, hgi, rfl, rfl, HL3, HB3⟩ := hrel
                    clear a0 a1 a2
                    obtain ⟨a0, a1, a2⟩ := HL3.out.F
                    by_cases hil : i < l.length
                    · have hilz : (i : Int) < (l.length : Int) := by omega
                      have hi0 : (0 : Int) ≤ (i : Int) := by omega
                      obtain ⟨hA1, d1⟩ := HCL.out wr i HB3.out hil
                      subst hA1
                      have hu := HME.out i hil
                      obtain ⟨hA2, hb⟩ := HL3.out.la (by omega)
                      obtain ⟨-, -, p2, p3, p4, p5⟩ := HL3.out.ps (gn l i) hu
                      rw [hA2] at a2
                      have HSS := Lib.hid (sumT_succ (v := fun i => (gp f.ps i).h) hil)
                      have hbd := sumT_bd (l := l) (v := fun i => (gp f.ps i).h) (fun j hj => by have := HLD.out.sml (HME.out j hj); obtain ⟨s1, s2, s3, s4, s5, s6, s7, s8⟩ := this; exact ⟨by omega, by omega⟩) i (by omega)
                      have hsm := HLD.out.sml hu
                      obtain ⟨s1, s2, s3, s4, s5, s6, s7, s8⟩ := hsm
                      have HVI : Hid (∀ j, j = gn l i → (gp f.ps j).h = (gp f.ps (gn l i)).h) := fun j e => by rw [e]
                      have HEI : Hid (∀ q, q = i → gn l q = gn l i) := fun q e => by rw [e]
                      clear hA2
                      generalize hgu : gn l i = u at *
                      generalize (gp f.ps u) = pu at *
                      generalize sumT l (fun i => (gp f.ps i).h) i = sm at *
                      have hu0 : (0 : Int) ≤ (u : Int) := by omega
                      have huz : (u : Int) < (f.ps.length : Int) := by omega
                      have hup : (u : Int) ≤ (f.ps.length : Int) - 1 := by omega
                      have ew : IntKind.i64.wrap ((f.ps.length : Int) - 1) = (f.ps.length : Int) - 1 := IntWalk.i64_in _ (by omega)
                      have es : IntKind.i64.wrap (sm + pu.h) = sm + pu.h := IntWalk.i64_in _ (by omega)
                      have HQ : Hid (win (u : Int) 0 ((f.ps.length : Int) - 1) = true) := win_t.2 (by omega)
                      have HWI : Hid (∀ W, Calls Try.prog 49 #[.int .i64 u, .int .i64 0, .int .i64 ((f.ps.length : Int) - 1)] W fun e w' => e = .returned (.bool true) ∧ W = w') := (show ∀ W, _ from fun W => by have := withinB_any u 0 ((f.ps.length : Int) - 1) W; rwa [HQ.out] at this)
                      clear hgu s1 s2 s3 s4 s5 s6 s7 s8 hup
                      go_wp2_with fail
                      go_quiet ((go_at_call 49; exact Calls.quiet_of_same ((HWI.out _).mono fun _ _ ⟨h1, h2⟩ => ⟨h1, h2.symm⟩)))
                      go_wp2_with fail
                      go_quiet (fail)
                      clear ew es
                      go_wp2_with fail
                      go_roundg (l.length - (i + 1))
                      case measure => omega
                      case rel => exact ⟨i + 1, by omega, by omega, by go_num, by rw [HSS.out], HL3.out.step ⟨rfl, rfl, rfl, Nat.le_refl _, fun _ _ => rfl⟩, ⟨HB3.out.os, HB3.out.tape, HB3.out.output, HB3.out.size, HB3.out.block⟩⟩
                    · have hilz : ¬ (i : Int) < (l.length : Int) := by omega
                      have he : i = l.length := by omega
                      subst he
                      rw [HSU.out]
                      have HB1' := Lib.hid HB1.out
                      generalize colSum f.ps kc = sm at *
                      cases rb with
                      | false =>
                        go_wp2_with fail
                        go_roundg (f.W.toNat - (kc + 1))
                        case measure => have := HK.out; omega
                        case rel => exact ⟨kc + 1, by omega, by omega, by go_num, by rw [HB1.out]; rfl, HL3.out⟩
                      | true =>
                        go_wp2_with fail
                        go_roundg (f.W.toNat - (kc + 1))
                        case measure => have := HK.out; omega
                        case rel => exact ⟨kc + 1, by omega, by omega, by go_num, by rw [HB1.out]; simp, HL3.out⟩
                · have hkk : kc = f.W.toNat := by omega
                  have HKkc := Lib.hid hkk
                  clear hkk
                  have hfb := HFB.out
                  rw [← HKkr.out, ← HKkc.out] at hfb
                  generalize rowsB f kr = r1 at *
                  generalize colsB f kc = r2 at *
                  obtain ⟨hf1, hf2⟩ := hfb
                  obtain rfl : r2 = r1 := beq_iff_eq.1 hf2
                  have hf3 := beq_iff_eq.1 hf1
                  clear hf1 hf2 HFB
                  cases r2 with
                  | true =>
                    have hg12 := hf3.symm
                    clear hf3
                    go_wp2_with fail
                    go_ret
                    exact ⟨rfl, HL.out.B⟩
                  | false =>
                    have hg12 := hf3.symm
                    clear hf3
                    go_wp2_with fail
                    go_ret
                    exact ⟨rfl, HL.out.B⟩
        · have hsb := bne_t hs
          go_wp2_with fail
          go_ret
          exact ⟨rfl, HL4.out.B⟩
end Go.Proofs.Ytlfeoofchebbkaa
