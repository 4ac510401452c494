/- FormePoints: PieceAt, RowAt and ColumnAt return what the document specifies, or the errors. -/
import Derived.Test.YtlfeoofchebbkaaRwa
namespace Go.Proofs.Ytlfeoofchebbkaa
set_option linter.unusedSimpArgs false
set_option linter.unusedVariables false
open Go.RowKit
/-- What a loop over a row of numbers of pieces reads. -/
theorem line_facts2 {W0 : World} {l : List Nat} {v : Value} (h : IntsV W0 (zl l) v) : ∃ A' b' c', v = .slice A' l.length c' ∧ l.length ≤ c' ∧ (∀ W i, Below W0.heap.size W0 W → i < l.length → A' = some ⟨b', 0, none⟩ ∧ W.cell? ⟨b', i, none⟩ = some (.int .i64 (gn l i : Int))) := by
  obtain ⟨A', b', c', rfl, h1, h2, h3, h4⟩ := h
  have e : (zl l).length = l.length := by simp [zl]
  rw [e] at h1 h3 h4 ⊢
  refine ⟨A', b', c', rfl, h3, fun W i hW hi => ?_⟩
  obtain ⟨hA, hb⟩ := h1 (by omega)
  refine ⟨hA, (hW.cell (p := ⟨b', i, none⟩) hb).trans ?_⟩
  have := h2 i (by omega)
  rw [Nat.zero_add] at this
  rw [this]
  simp [gz, zl, gn, List.getD_eq_getElem?_getD, List.getElem?_eq_getElem hi]
def ptF (f : Forme) (x y : Int) : Int × Int := if (checkF f).2 ≠ 0 then (0, (checkF f).2) else if win x 0 (f.W - 1) = false ∨ win y 0 (f.H - 1) = false then (0, 2) else if atF f x y < 0 then (0, 12) else (atF f x y, 0)
set_option maxHeartbeats 4000000 in
theorem piece59_any (f : Forme) (x y : Int) (A : Option Addr) (b off c : Nat) (w : World) (hA : Lies A f.ps.length w.heap.size b off) (hps : PsAt w b off f.ps) (hnm : NameOk f.ps) (hc : f.ps.length ≤ c) (hm : f.ps.length ≤ 1000) :
    Calls Try.prog 59 #[.agg #[.int .i64 f.W, .int .i64 f.H, .slice A f.ps.length c], .int .i64 x, .int .i64 y] w fun e w' => e = .returned (.tuple #[.int .i64 (ptF f x y).1, .int .i64 (ptF f x y).2]) ∧ Below w.heap.size w w' := by
  have hcall := fun W (hb : Below w.heap.size w W) => check_any f A b off c W (hA.mono hb.size) (fun j hj => (hps j hj).below hb (hA (by omega)).2) hnm hc (by omega)
  have hB := below_new w (Obj.cells #[Value.int IntKind.i64 f.W, Value.int IntKind.i64 f.H, Value.slice A f.ps.length c] 37)
  have hF := FAt_new w 37 f (Value.slice A f.ps.length c)
  have hz : w.heap.size < (w.alloc (Obj.cells #[Value.int IntKind.i64 f.W, Value.int IntKind.i64 f.H, Value.slice A f.ps.length c] 37)).heap.size := by simp
  by_cases hs : (checkF f).2 = 0
  · have hL := (checkF_zero hs).toLaid
    have z1 := hL.w1; have z2 := hL.w2; have z3 := hL.h1; have z4 := hL.h2
    have hat := fun W (hb : Below w.heap.size w W) => at_any f x y A b off c W (hA.mono hb.size) (fun j hj => (hps j hj).below hb (hA (by omega)).2) (fun j hj => hL.sml hj) (by omega)
    have HP : Hid (ptF f x y = if win x 0 (f.W - 1) = false ∨ win y 0 (f.H - 1) = false then (0, 2) else if atF f x y < 0 then (0, 12) else (atF f x y, 0)) := by show ptF f x y = _; unfold ptF; rw [if_neg (by simp [hs])]
    rw [hs] at hcall
    generalize ptF f x y = pt at *
    generalize atF f x y = at' at *
    generalize f.ps.length = n at *
    have HAT := Lib.hid hat
    clear hs hA hps hnm hL hat
    have e1 : IntKind.i64.wrap (f.W - 1) = f.W - 1 := IntWalk.i64_in _ (by omega)
    have e2 : IntKind.i64.wrap (f.H - 1) = f.H - 1 := IntWalk.i64_in _ (by omega)
    have HW1 := Lib.hid (fun W => within_any x 0 (f.W - 1) W)
    have HW2 := Lib.hid (fun W => within_any y 0 (f.H - 1) W)
    generalize hq1 : win x 0 (f.W - 1) = q1 at *
    generalize hq2 : win y 0 (f.H - 1) = q2 at *
    clear hq1 hq2
    go_enter Try.func59, Try.ntmps59
    go_wp2_with fail
    generalize w.alloc (Obj.cells #[Value.int IntKind.i64 f.W, Value.int IntKind.i64 f.H, Value.slice A n c] 37) = W0 at *
    have HF := Lib.hid hF
    have HB := Lib.hid hB
    refine (hcall _ hB).mono ?_
    rintro e w1 ⟨rfl, b1⟩
    obtain ⟨a0, a1, a2⟩ := HF.out.below b1 hz
    have HB1 := Lib.hid (HB.out.trans (b1.mono HB.out.size))
    clear hcall b1 hB hF
    go_wp2_with fail
    refine (HW1.out _).mono ?_
    rintro e w2 ⟨rfl, rfl⟩
    cases q1 with
    | false =>
      go_wp2_with fail
      go_ret2
      obtain rfl : pt = (0, 2) := by have := HP.out; simpa using this
      exact ⟨rfl, HB1.out⟩
    | true =>
      go_wp2_with fail
      refine (HW2.out _).mono ?_
      rintro e w2 ⟨rfl, rfl⟩
      cases q2 with
      | false =>
        go_wp2_with fail
        go_ret2
        obtain rfl : pt = (0, 2) := by have := HP.out; simpa using this
        exact ⟨rfl, HB1.out⟩
      | true =>
        have HP' : Hid (pt = if at' < 0 then (0, 12) else (at', 0)) := by show pt = _; have := HP.out; simpa using this
        clear HP
        have HA1 := Lib.hid (HAT.out w1 HB1.out)
        go_wp2_with fail
        refine HA1.out.mono ?_
        rintro e w2 ⟨rfl, b2⟩
        have HB2 := Lib.hid (HB1.out.trans (b2.mono HB1.out.size))
        clear b2 HA1 a0 a1 a2
        by_cases hn : at' < 0
        · go_wp2_with fail
          go_ret2
          obtain rfl : pt = (0, 12) := by rw [HP'.out, if_pos (by assumption)]
          exact ⟨rfl, HB2.out⟩
        · go_wp2_with fail
          go_ret2
          obtain rfl : pt = (at', 0) := by rw [HP'.out, if_neg (by omega)]
          exact ⟨rfl, HB2.out⟩
  · have HP : Hid (ptF f x y = (0, (checkF f).2)) := by show ptF f x y = _; unfold ptF; rw [if_pos hs]
    have hsb := bne_t hs
    generalize ptF f x y = pt at *
    generalize (checkF f).2 = s at *
    generalize f.ps.length = n at *
    clear hs hA hps hnm
    go_enter Try.func59, Try.ntmps59
    go_wp2_with fail
    generalize w.alloc (Obj.cells #[Value.int IntKind.i64 f.W, Value.int IntKind.i64 f.H, Value.slice A n c] 37) = W0 at *
    have HB := Lib.hid hB
    refine (hcall _ hB).mono ?_
    rintro e w1 ⟨rfl, b1⟩
    have HB1 := Lib.hid (HB.out.trans (b1.mono HB.out.size))
    clear hcall b1 hB hF
    go_wp2_with fail
    go_ret2
    obtain rfl : pt = (0, s) := HP.out
    exact ⟨rfl, HB1.out⟩
/-- Whether a list of numbers of pieces has a number. -/
def hasB (l : List Nat) (x : Int) : Bool := decide (x ∈ zl l)
theorem has_any (l : List Nat) (x : Int) (v : Value) (w : World) (hv : IntsV w (zl l) v) :
    Calls Try.prog 65 #[v, .int .i64 x] w fun e w' => e = .returned (.bool (hasB l x)) ∧ w = w' := by
  have hlen : l.length ≤ 9223372036854775807 := by obtain ⟨_, _, _, _, _, _, _, h⟩ := hv; simpa [zl] using h
  obtain ⟨A', b', c', rfl, hcc, hcl⟩ := line_facts2 hv
  have HCL := Lib.hid hcl
  have HH : Hid (hasB l x = decide (x ∈ zl l)) := rfl
  generalize hasB l x = hb at *
  clear hcl hv
  go_enter Try.func65, Try.ntmps65
  go_wp2_with fail
  go_loopg [5] l.length (fun gg s5 wr => ∃ k : Nat, k ≤ l.length ∧ l.length - k ≤ gg ∧ s5 = .int .i64 k ∧ Hid (∀ j, j < k → (gn l j : Int) ≠ x) ∧ w = wr)
  case atStart => exact ⟨0, by omega, by omega, rfl, fun j hj => absurd hj (Nat.not_lt_zero _), rfl⟩
  case round =>
    obtain ⟨k, hk, hgk, rfl, HJ, rfl⟩ := hrel
    by_cases hlt : k < l.length
    · have hltz : (k : Int) < (l.length : Int) := by omega
      have hk0 : (0 : Int) ≤ (k : Int) := by omega
      obtain ⟨rfl, d1⟩ := HCL.out w k (Below.refl _ _) hlt
      have HI : Hid (∀ j, j = k → gn l j = gn l k) := fun j e => by rw [e]
      have HM : Hid ((gn l k : Int) ∈ zl l) := by
        show _ ∈ _
        rw [gn_get hlt]
        exact List.mem_map.2 ⟨_, List.getElem_mem hlt, rfl⟩
      generalize gn l k = u at *
      by_cases hx : (u : Int) = x
      · have hxb : ((u : Int) == x) = true := by simp [hx]
        have HX := Lib.hid hx
        clear hx
        go_wp2_with fail
        go_ret
        exact ⟨ret_bool (by rw [HH.out]; exact (decide_eq_true (by rw [← HX.out]; exact HM.out)).symm), rfl⟩
      · have hxb : ((u : Int) == x) = false := by simp [hx]
        have HX := Lib.hid hx
        clear hx
        go_wp2_with fail
        go_roundg (l.length - (k + 1))
        case measure => omega
        case rel => exact ⟨k + 1, by omega, by omega, by go_num, (show ∀ j, _ from fun j hj => by
          by_cases e : j = k
          · rw [HI.out j e]; exact HX.out
          · exact HJ.out j (by omega)), rfl⟩
    · have hltz : ¬ (k : Int) < (l.length : Int) := by omega
      have hke : k = l.length := by omega
      have HKE := Lib.hid hke
      clear hke
      go_wp2_with fail
      go_ret
      refine ⟨ret_bool ?_, rfl⟩
      rw [HH.out]
      refine (decide_eq_false fun hm => ?_).symm
      obtain ⟨i, hi, he⟩ := List.mem_map.1 hm
      obtain ⟨j, hj, hji⟩ := List.mem_iff_getElem.1 hi
      refine HJ.out j (by rw [HKE.out]; exact hj) ?_
      rw [gn_get hj, hji, he]
theorem aloS_swap {f : Forme} (h : f.Laid) (x : Int) : aloS f.swapK.ps (isRow x) (fun p => p.x) = colL f x := by
  have hI : aloI f.swapK.ps (isRow x) = aloI f.ps (isCol x) := by
    unfold aloI Forme.swapK
    rw [List.length_map]
    refine List.filter_congr fun i hi => ?_
    have hi' : i < f.ps.length := List.mem_range.1 hi
    rw [gp_map _ _ hi']
    unfold isRow isCol covB swapP
    dsimp only
    rw [Bool.and_comm]
  refine (aloS_uniq (h.swapK.row_inj x) ?_ ?_).symm
  · rw [hI]; exact aloS_perm _ _ _
  · have hs := aloS_sorted f.ps (isCol x) fun p => p.y
    refine List.Pairwise.imp_of_mem ?_ hs
    intro i k hi hk hik
    have hi' := (mem_aloS.1 hi).1
    have hk' := (mem_aloS.1 hk).1
    show (gp (f.ps.map swapP) i).x ≤ (gp (f.ps.map swapP) k).x
    rw [gp_map _ _ hi', gp_map _ _ hk']
    exact hik
set_option maxHeartbeats 4000000 in
theorem refCol_any (f : Forme) (x : Int) (A : Option Addr) (b off c : Nat) (w : World) (hA : Lies A f.ps.length w.heap.size b off) (hps : PsAt w b off f.ps) (hs : (checkF f).2 = 0) (hm : f.ps.length ≤ 1000) :
    Calls Try.prog 63 #[.agg #[.int .i64 f.W, .int .i64 f.H, .slice A f.ps.length c], .int .i64 x] w (AlongPost (colL f x) w) := by
  have hR := checkF_zero hs
  have hB := below_new w (Obj.cells #[Value.int IntKind.i64 f.W, Value.int IntKind.i64 f.H, Value.slice A f.ps.length c] 37)
  have hml : f.swapK.ps.length = f.ps.length := by simp [Forme.swapK]
  have HSW := Lib.hid (fun W (hb : Below w.heap.size w W) => swapped_any f A b off c W (hA.mono hb.size) (fun j hj => (hps j hj).below hb (hA (by omega)).2) (fun i hi => by rw [gp_get hi]; exact hR.kind _ (List.getElem_mem hi)) (by omega))
  have HRR : Hid (∀ W v B, PsOwn W B f.swapK.ps v → Calls Try.prog 62 #[.agg #[.int .i64 f.swapK.W, .int .i64 f.swapK.H, v], .int .i64 x] W (AlongPost (colL f x) W)) := (show ∀ W v B, _ from fun W v B hv => by
    obtain ⟨A', b', c', rfl, h1, h2, h3, -⟩ := hv
    rw [← aloS_swap hR.toLaid]
    exact refRow_any f.swapK x A' b' 0 c' W h2 h3 (fun j hj => ⟨hR.toLaid.swapK.sml hj, (hR.toLaid.swapK.inn _ (pmem hj)).1⟩) (by omega) (hR.toLaid.swapK.row_inj x))
  have HP : Hid (∀ W w' e, Below w.heap.size w W → AlongPost (colL f x) W e w' → AlongPost (colL f x) w e w') := (show ∀ W w' e, _ from fun W w' e hb h => by
    obtain ⟨v, he, hv, hb2⟩ := h
    exact ⟨v, he, hv, hb.trans (hb2.mono hb.size)⟩)
  generalize hsk : f.swapK = sk at *
  have HSK := Lib.hid hsk
  clear hsk hA hps hR hml hs
  generalize colL f x = res at *
  go_enter Try.func63, Try.ntmps63
  go_wp2_with fail
  generalize w.alloc (Obj.cells #[Value.int IntKind.i64 f.W, Value.int IntKind.i64 f.H, Value.slice A f.ps.length c] 37) = W0 at *
  have HB := Lib.hid hB
  refine (HSW.out _ hB).mono ?_
  rintro e w1 ⟨v, rfl, hv, b1⟩
  have HB1 := Lib.hid (HB.out.trans (b1.mono HB.out.size))
  have HC := Lib.hid (HRR.out w1 v _ hv)
  clear hv b1 HRR HSW
  go_wp2_with fail
  refine HC.out.mono ?_
  rintro e w2 ⟨v2, rfl, hv2, b2⟩
  have HF := Lib.hid (HP.out w1 w2 _ HB1.out ⟨v2, rfl, hv2, b2⟩)
  clear hv2 b2
  go_wp2_with fail
  go_ret
  exact HF.out
def rowR (f : Forme) (y : Int) : List Nat × Int := if (checkF f).2 ≠ 0 then ([], (checkF f).2) else if win y 0 (f.H - 1) = true then (rowL f y, 0) else ([], 2)
def colR (f : Forme) (x : Int) : List Nat × Int := if (checkF f).2 ≠ 0 then ([], (checkF f).2) else if win x 0 (f.W - 1) = true then (colL f x, 0) else ([], 2)
theorem rowR_at (f : Forme) (y : Int) (hnm : NameOk f.ps) (hm : f.ps.length ≤ 1000) : ∀ (W : World) (vf : Value), FormeAt W f vf → Calls Try.prog 60 #[vf, .int .i64 y] W (LinePost (rowR f y).1 (rowR f y).2 W) := by
  rintro W vf ⟨A', b', c', rfl, h1, h2, h3⟩
  unfold rowR
  by_cases hs : (checkF f).2 = 0
  · rw [if_neg (by simp [hs])]
    cases hy : win y 0 (f.H - 1) with
    | true => rw [if_pos rfl]; exact rowAt_ok f y A' b' 0 c' W h1 h2 hnm h3 hm hs hy
    | false => rw [if_neg (by simp)]; exact rowAt_out f y A' b' 0 c' W h1 h2 hnm h3 hm hs hy
  · rw [if_pos hs]; exact rowAt_bad f y A' b' 0 c' W h1 h2 hnm h3 hm hs
theorem colR_at (f : Forme) (x : Int) (hnm : NameOk f.ps) (hm : f.ps.length ≤ 1000) : ∀ (W : World) (vf : Value), FormeAt W f vf → Calls Try.prog 61 #[vf, .int .i64 x] W (LinePost (colR f x).1 (colR f x).2 W) := by
  rintro W vf ⟨A', b', c', rfl, h1, h2, h3⟩
  unfold colR
  by_cases hs : (checkF f).2 = 0
  · rw [if_neg (by simp [hs])]
    cases hy : win x 0 (f.W - 1) with
    | true => rw [if_pos rfl]; exact colAt_ok f x A' b' 0 c' W h1 h2 hnm h3 hm hs hy
    | false => rw [if_neg (by simp)]; exact colAt_out f x A' b' 0 c' W h1 h2 hnm h3 hm hs hy
  · rw [if_pos hs]; exact colAt_bad f x A' b' 0 c' W h1 h2 hnm h3 hm hs
theorem piece_at (f : Forme) (x y : Int) (hnm : NameOk f.ps) (hm : f.ps.length ≤ 1000) : ∀ (W : World) (vf : Value), FormeAt W f vf → Calls Try.prog 59 #[vf, .int .i64 x, .int .i64 y] W fun e w' => e = .returned (.tuple #[.int .i64 (ptF f x y).1, .int .i64 (ptF f x y).2]) ∧ Below W.heap.size W w' := by
  rintro W vf ⟨A', b', c', rfl, h1, h2, h3⟩
  exact piece59_any f x y A' b' 0 c' W h1 h2 hnm h3 hm
/-- What the law compares. -/
def PFx (f : Forme) (x y c n er sa sb : Int) (la lb : List Nat) (row col : Bool) (want : Int) : Prop :=
  (c ≠ 0 ∧ er = c ∧ sa = c ∧ sb = c ∧ n = 0 ∧ la = [] ∧ lb = []) ∨
  (c = 0 ∧ (row = true → sa = 0 ∧ la = rowL f y) ∧ (row = false → sa = 2 ∧ la = []) ∧ (col = true → sb = 0 ∧ lb = colL f x) ∧ (col = false → sb = 2 ∧ lb = []) ∧ ((row = false ∨ col = false) → er = 2 ∧ n = 0) ∧
    (row = true → col = true → (want < 0 ∧ er = 12 ∧ n = 0) ∨ (¬ want < 0 ∧ er = 0 ∧ n = want ∧ hasB la n = true ∧ hasB lb n = true)))
theorem hasB_t {l : List Nat} {k : Nat} (h : k ∈ l) : hasB l (k : Int) = true := decide_eq_true (List.mem_map.2 ⟨k, h, rfl⟩)
theorem pfx (f : Forme) (x y : Int) : PFx f x y (checkF f).2 (ptF f x y).1 (ptF f x y).2 (rowR f y).2 (colR f x).2 (rowR f y).1 (colR f x).1 (win y 0 (f.H - 1)) (win x 0 (f.W - 1)) (atF f x y) := by
  by_cases hs : (checkF f).2 = 0
  · right
    have hL := (checkF_zero hs).toLaid
    have e1 : ptF f x y = if win x 0 (f.W - 1) = false ∨ win y 0 (f.H - 1) = false then (0, 2) else if atF f x y < 0 then (0, 12) else (atF f x y, 0) := by unfold ptF; rw [if_neg (by simp [hs])]
    have e2 : rowR f y = if win y 0 (f.H - 1) = true then (rowL f y, 0) else ([], 2) := by unfold rowR; rw [if_neg (by simp [hs])]
    have e3 : colR f x = if win x 0 (f.W - 1) = true then (colL f x, 0) else ([], 2) := by unfold colR; rw [if_neg (by simp [hs])]
    rw [e1, e2, e3]
    refine ⟨hs, fun h => by rw [if_pos h]; exact ⟨rfl, rfl⟩, fun h => by rw [if_neg (by simp [h])]; exact ⟨rfl, rfl⟩, fun h => by rw [if_pos h]; exact ⟨rfl, rfl⟩, fun h => by rw [if_neg (by simp [h])]; exact ⟨rfl, rfl⟩, fun h => by rw [if_pos h.symm]; exact ⟨rfl, rfl⟩, fun h1 h2 => ?_⟩
    rw [if_neg (by simp [h1, h2]), if_pos h1, if_pos h2]
    by_cases hn : atF f x y < 0
    · left; rw [if_pos hn]; exact ⟨hn, rfl, rfl⟩
    · right
      rw [if_neg hn]
      obtain ⟨k, hk, hkl, hcov⟩ := atF_nonneg hn
      obtain ⟨s1, s2, -⟩ := hL.inn _ (pmem hkl)
      unfold Piece.cov at hcov
      refine ⟨hn, rfl, rfl, ?_, ?_⟩
      · show hasB _ (atF f x y) = true
        rw [hk]
        exact hasB_t (mem_aloS.2 ⟨hkl, (row_iff s1).2 (by omega)⟩)
      · show hasB _ (atF f x y) = true
        rw [hk]
        exact hasB_t (mem_aloS.2 ⟨hkl, (col_iff s2).2 (by omega)⟩)
  · left
    unfold ptF rowR colR
    rw [if_pos hs, if_pos hs, if_pos hs]
    exact ⟨hs, rfl, rfl, rfl, rfl, rfl, rfl⟩
set_option maxRecDepth 100000 in
set_option maxHeartbeats 8000000 in
theorem points_any (f : Forme) (x y : Int) (A : Option Addr) (b off c : Nat) (w : World) (hA : Lies A f.ps.length w.heap.size b off) (hps : PsAt w b off f.ps) (hc : f.ps.length ≤ c) (hm : c ≤ maxLen) :
    Calls Try.prog 13 #[.agg #[.int .i64 f.W, .int .i64 f.H, .slice A f.ps.length c], .int .i64 x, .int .i64 y] w fun e w' => e = .returned (.bool true) ∧ Below w.heap.size w w' := by
  have hBx := below_new w (Obj.cells #[Value.int IntKind.i64 f.W, Value.int IntKind.i64 f.H, Value.slice A f.ps.length c] 37)
  have hHL : LF w _ f A b off c := ⟨hBx, FAt_new w 37 f (Value.slice A f.ps.length c), hA, fun j hj => (hps j hj).below hBx (hA (by omega)).2, by simp⟩
  unfold maxLen at hm
  go_enter Try.func13, Try.ntmps13
  go_wp2_with fail
  generalize w.alloc (Obj.cells #[Value.int IntKind.i64 f.W, Value.int IntKind.i64 f.H, Value.slice A f.ps.length c] 37) = W0 at *
  have HL0 := Lib.hid hHL
  clear hHL hBx hA hps
  refine (awake_any _).mono ?_
  rintro e W1 ⟨rfl, e1⟩
  have HL1 := Lib.hid (HL0.out.step e1)
  clear HL0 e1
  obtain ⟨a0, a1, a2⟩ := HL1.out.F
  go_wp2_with fail
  refine (light_any f A b off c W1 HL1.out.l HL1.out.ps (by omega)).mono ?_
  rintro e W2 ⟨rfl, e1⟩
  have HL := Lib.hid (HL1.out.step e1)
  clear HL1 e1 a0 a1 a2
  obtain ⟨a0, a1, a2⟩ := HL.out.F
  have HLT := Lib.hid (fun h => lightB_t (f := f) h)
  generalize lightB f = lb0 at *
  cases lb0 with
  | false =>
    go_wp2_with fail
    go_ret
    exact ⟨rfl, HL.out.B⟩
  | true =>
    obtain ⟨hnm, hlen⟩ := HLT.out rfl
    have HNM := Lib.hid hnm
    clear hnm HLT
    have H59 := Lib.hid (piece_at f x y HNM.out (by omega))
    have H60 := Lib.hid (rowR_at f y HNM.out (by omega))
    have H61 := Lib.hid (colR_at f x HNM.out (by omega))
    have HPF := Lib.hid (pfx f x y)
    have HRF : Hid (∀ W, LF w W f A b off c → Calls Try.prog 43 #[.agg #[.int .i64 f.W, .int .i64 f.H, .slice A f.ps.length c]] W fun e w' => e = .returned (.tuple #[.int .i64 (checkF f).1, .int .i64 (checkF f).2]) ∧ Below W.heap.size W w') := (show ∀ W, _ from fun W hW => refForme_any f A b off c W hW.l hW.ps HNM.out hc (by omega))
    have HOKS : Hid ((checkF f).2 = 0 → f.Laid) := (show _ → _ from fun h => (checkF_zero h).toLaid)
    have HOKR : Hid ((checkF f).2 = 0 → (∀ W, LF w W f A b off c → Calls Try.prog 62 #[.agg #[.int .i64 f.W, .int .i64 f.H, .slice A f.ps.length c], .int .i64 y] W (AlongPost (rowL f y) W)) ∧ (∀ W, LF w W f A b off c → Calls Try.prog 63 #[.agg #[.int .i64 f.W, .int .i64 f.H, .slice A f.ps.length c], .int .i64 x] W (AlongPost (colL f x) W)) ∧
        (∀ W, LF w W f A b off c → Calls Try.prog 64 #[.agg #[.int .i64 f.W, .int .i64 f.H, .slice A f.ps.length c], .int .i64 x, .int .i64 y] W fun e w' => e = .returned (.int .i64 (atF f x y)) ∧ Below W.heap.size W w')) := (show _ → _ from fun h =>
      have hl := (checkF_zero h).toLaid
      ⟨fun W hW => refRow_any f y A b off c W hW.l hW.ps (fun j hj => ⟨hl.sml hj, (hl.inn _ (pmem hj)).1⟩) (by omega) (hl.row_inj y), fun W hW => refCol_any f x A b off c W hW.l hW.ps h (by omega), fun W hW => pieceAt_any f x y A b off c W hW.l hW.ps (fun j hj => hl.sml hj) (by omega)⟩)
    generalize atF f x y = want at *
    generalize ptF f x y = pt at *
    generalize rowR f y = ra at *
    generalize colR f x = rb at *
    obtain ⟨n, er⟩ := pt
    obtain ⟨la, sa⟩ := ra
    obtain ⟨lb, sb⟩ := rb
    dsimp only at H59 H60 H61 HPF
    generalize checkF f = cq at *
    obtain ⟨c1, c2⟩ := cq
    dsimp only at HRF HOKS HOKR HPF
    have HCF1 := Lib.hid (copyF_at f A b off c W2.heap.size W2 HL.out.l HL.out.ps (by omega))
    go_wp2_with fail
    refine (HCF1.out _ (Below.refl _ _) (Nat.le_refl _)).mono ?_
    rintro e W3 ⟨vf, rfl, hf1, b1⟩
    have HLn := Lib.hid (HL.out.step b1)
    have HC1 := Lib.hid (H59.out W3 vf hf1)
    clear HL b1 hf1 HCF1 a0 a1 a2
    go_wp2_with fail
    refine HC1.out.mono ?_
    rintro e W4 ⟨rfl, b1⟩
    have HL := Lib.hid (HLn.out.step b1)
    clear HLn HC1 H59
    clear b1
    obtain ⟨a0, a1, a2⟩ := HL.out.F

    have HCF2 := Lib.hid (copyF_at f A b off c W4.heap.size W4 HL.out.l HL.out.ps (by omega))
    go_wp2_with fail
    refine (HCF2.out _ (Below.refl _ _) (Nat.le_refl _)).mono ?_
    rintro e W5 ⟨vf, rfl, hf1, b1⟩
    have HLn := Lib.hid (HL.out.step b1)
    have HC2 := Lib.hid (H60.out W5 vf hf1)
    clear HL b1 hf1 HCF2 a0 a1 a2
    go_wp2_with fail
    refine HC2.out.mono ?_
    rintro e W6 ⟨va, rfl, hva, b1⟩
    have HL := Lib.hid (HLn.out.step b1)
    clear HLn HC2 H60
    have HVA := Lib.hid hva
    clear hva b1
    obtain ⟨a0, a1, a2⟩ := HL.out.F

    have HCF3 := Lib.hid (copyF_at f A b off c W6.heap.size W6 HL.out.l HL.out.ps (by omega))
    go_wp2_with fail
    refine (HCF3.out _ (Below.refl _ _) (Nat.le_refl _)).mono ?_
    rintro e W7 ⟨vf, rfl, hf1, b1⟩
    have HLn := Lib.hid (HL.out.step b1)
    have HC3 := Lib.hid (H61.out W7 vf hf1)
    have HVA2 := Lib.hid (HVA.out.below b1)
    clear HVA
    clear HL b1 hf1 HCF3 a0 a1 a2
    go_wp2_with fail
    refine HC3.out.mono ?_
    rintro e W8 ⟨vb, rfl, hvb, b1⟩
    have HL := Lib.hid (HLn.out.step b1)
    clear HLn HC3 H61
    have HVA := Lib.hid (HVA2.out.below b1)
    have HVB := Lib.hid hvb
    clear hvb b1 HVA2
    obtain ⟨a0, a1, a2⟩ := HL.out.F
    go_wp2_with fail
    refine (HRF.out _ HL.out).mono ?_
    rintro e W9 ⟨rfl, b1⟩
    have HLn := Lib.hid (HL.out.step b1)
    have HVAn := Lib.hid (HVA.out.below b1)
    have HVBn := Lib.hid (HVB.out.below b1)
    clear HL HVA HVB b1 a0 a1 a2
    have HL := Lib.hid HLn.out
    have HVA := Lib.hid HVAn.out
    have HVB := Lib.hid HVBn.out
    clear HLn HVAn HVBn
    obtain ⟨a0, a1, a2⟩ := HL.out.F
    have hzl : (zl []).length = 0 := rfl
    rcases HPF.out with ⟨hc0, rfl, rfl, rfl, rfl, rfl, rfl⟩ | ⟨rfl, hr1, hr2, hc1, hc2, hout, hin⟩
    · obtain ⟨Aa, ba, ca, rfl, -⟩ := HVA.out
      obtain ⟨Ab, bb, cb, rfl, -⟩ := HVB.out
      have hcb := bne_t hc0
      clear hc0 HPF
      go_wp2_with fail
      go_ret
      exact ⟨rfl, HL.out.B⟩
    · obtain ⟨HRR', HRC', H64'⟩ := HOKR.out rfl
      have HLD := Lib.hid (HOKS.out rfl)
      have HRR := Lib.hid HRR'
      have HRC := Lib.hid HRC'
      have H64 := Lib.hid H64'
      have HR1 := Lib.hid hr1
      have HR2 := Lib.hid hr2
      have HC1 := Lib.hid hc1
      have HC2 := Lib.hid hc2
      have HOUT := Lib.hid hout
      have HIN := Lib.hid hin
      clear HRR' HRC' H64' HOKR HOKS HPF hr1 hr2 hc1 hc2 hout hin
      have z1 := HLD.out.w1
      have z2 := HLD.out.w2
      have z3 := HLD.out.h1
      have z4 := HLD.out.h2
      have e1 : IntKind.i64.wrap (f.W - 1) = f.W - 1 := IntWalk.i64_in _ (by omega)
      have e2 : IntKind.i64.wrap (f.H - 1) = f.H - 1 := IntWalk.i64_in _ (by omega)
      have HW1 := Lib.hid (fun W => withinB_any y 0 (f.H - 1) W)
      have HW2 := Lib.hid (fun W => withinB_any x 0 (f.W - 1) W)
      generalize hq1 : win y 0 (f.H - 1) = row at *
      generalize hq2 : win x 0 (f.W - 1) = col at *
      clear hq1 hq2
      go_wp2_with fail
      go_quiet ((go_at_call 49; first | (with_reducible exact Calls.quiet_of_same ((HW1.out _).mono fun _ _ ⟨h1, h2⟩ => ⟨h1, h2.symm⟩)) | (with_reducible exact Calls.quiet_of_same ((HW2.out _).mono fun _ _ ⟨h1, h2⟩ => ⟨h1, h2.symm⟩))))
      have HLq : Hid (LF w (W9.drewN nq) f A b off c) := HL.out.step ⟨rfl, rfl, rfl, Nat.le_refl _, fun _ _ => rfl⟩
      have HVAq : Hid (IntsV (W9.drewN nq) (zl la) va) := HVA.out
      have HVBq : Hid (IntsV (W9.drewN nq) (zl lb) vb) := HVB.out
      clear HL HVA HVB a0 a1 a2 e1 e2 HW1 HW2
      generalize W9.drewN nq = W5 at *
      have HL := Lib.hid HLq.out
      have HVA := Lib.hid HVAq.out
      have HVB := Lib.hid HVBq.out
      clear HLq HVAq HVBq
      obtain ⟨a0, a1, a2⟩ := HL.out.F
      cases row with
      | true =>
        cases col with
        | true =>
          obtain ⟨rfl, rfl⟩ := HR1.out rfl
          obtain ⟨rfl, rfl⟩ := HC1.out rfl
          have HBOTH := Lib.hid (HIN.out rfl rfl)
          clear HR1 HR2 HC1 HC2 HOUT HIN

          go_wp2_with fail
          refine (HRR.out _ HL.out).mono ?_
          rintro e W6 ⟨vr, rfl, hvr, b6⟩
          have HL6 := Lib.hid (HL.out.step b6)
          have HVA6 := Lib.hid (HVA.out.below b6)
          have HVB6 := Lib.hid (HVB.out.below b6)
          have HIV := Lib.hid (intsV_any _ _ _ _ W6 HVA6.out hvr)
          clear HL HVA HVB b6 hvr a0 a1 a2
          obtain ⟨a0, a1, a2⟩ := HL6.out.F
          go_wp2_with fail
          refine HIV.out.mono ?_
          rintro e W7 ⟨rfl, b7⟩
          have HL := Lib.hid (HL6.out.step b7)
          have HVA := Lib.hid (HVA6.out.below b7)
          have HVB := Lib.hid (HVB6.out.below b7)
          have HDE : decide (zl (rowL f y) = zl (rowL f y)) = true := decide_eq_true rfl
          clear HL6 HVA6 HVB6 b7 HIV a0 a1 a2
          obtain ⟨a0, a1, a2⟩ := HL.out.F

          go_wp2_with fail
          refine (HRC.out _ HL.out).mono ?_
          rintro e W8 ⟨vr2, rfl, hvr, b6⟩
          have HL6 := Lib.hid (HL.out.step b6)
          have HVA6 := Lib.hid (HVA.out.below b6)
          have HVB6 := Lib.hid (HVB.out.below b6)
          have HIV := Lib.hid (intsV_any _ _ _ _ W8 HVB6.out hvr)
          clear HL HVA HVB b6 hvr a0 a1 a2
          obtain ⟨a0, a1, a2⟩ := HL6.out.F
          go_wp2_with fail
          refine HIV.out.mono ?_
          rintro e W9 ⟨rfl, b7⟩
          have HL := Lib.hid (HL6.out.step b7)
          have HVA := Lib.hid (HVA6.out.below b7)
          have HVB := Lib.hid (HVB6.out.below b7)
          have HDE2 : decide (zl (colL f x) = zl (colL f x)) = true := decide_eq_true rfl
          clear HL6 HVA6 HVB6 b7 HIV a0 a1 a2
          obtain ⟨a0, a1, a2⟩ := HL.out.F

          go_wp2_with fail
          refine (H64.out _ HL.out).mono ?_
          rintro e W10 ⟨rfl, b8⟩
          have HL10 := Lib.hid (HL.out.step b8)
          have HVA10 := Lib.hid (HVA.out.below b8)
          have HVB10 := Lib.hid (HVB.out.below b8)
          clear HL HVA HVB b8 a0 a1 a2
          rcases HBOTH.out with ⟨hw0, rfl, rfl⟩ | ⟨hw0, rfl, rfl, hh1, hh2⟩
          · clear HBOTH
            go_wp2_with fail
            go_ret
            exact ⟨rfl, HL10.out.B⟩
          · clear HBOTH
            have HH1 := Lib.hid (has_any _ n _ W10 HVA10.out)
            have HH2 := Lib.hid (has_any _ n _ W10 HVB10.out)
            rw [hh1] at HH1
            rw [hh2] at HH2
            clear hh1 hh2
            go_wp2_with fail
            refine HH1.out.mono ?_
            rintro e w' ⟨rfl, rfl⟩
            go_wp2_with fail
            refine HH2.out.mono ?_
            rintro e w' ⟨rfl, rfl⟩
            go_wp2_with fail
            go_ret
            exact ⟨rfl, HL10.out.B⟩
        | false =>
          obtain ⟨rfl, rfl⟩ := HR1.out rfl
          obtain ⟨rfl, rfl⟩ := HC2.out rfl
          obtain ⟨rfl, rfl⟩ := HOUT.out (.inr rfl)
          clear HR1 HR2 HC1 HC2 HOUT HIN

          go_wp2_with fail
          refine (HRR.out _ HL.out).mono ?_
          rintro e W6 ⟨vr, rfl, hvr, b6⟩
          have HL6 := Lib.hid (HL.out.step b6)
          have HVA6 := Lib.hid (HVA.out.below b6)
          have HVB6 := Lib.hid (HVB.out.below b6)
          have HIV := Lib.hid (intsV_any _ _ _ _ W6 HVA6.out hvr)
          clear HL HVA HVB b6 hvr a0 a1 a2
          obtain ⟨a0, a1, a2⟩ := HL6.out.F
          go_wp2_with fail
          refine HIV.out.mono ?_
          rintro e W7 ⟨rfl, b7⟩
          have HL := Lib.hid (HL6.out.step b7)
          have HVA := Lib.hid (HVA6.out.below b7)
          have HVB := Lib.hid (HVB6.out.below b7)
          have HDE : decide (zl (rowL f y) = zl (rowL f y)) = true := decide_eq_true rfl
          clear HL6 HVA6 HVB6 b7 HIV a0 a1 a2
          obtain ⟨a0, a1, a2⟩ := HL.out.F

          obtain ⟨Ab, bb, cb, rfl, -⟩ := HVB.out

          go_wp2_with fail
          go_ret
          exact ⟨rfl, HL.out.B⟩
      | false =>
        cases col with
        | true =>
          obtain ⟨rfl, rfl⟩ := HR2.out rfl
          obtain ⟨rfl, rfl⟩ := HC1.out rfl
          obtain ⟨rfl, rfl⟩ := HOUT.out (.inl rfl)
          clear HR1 HR2 HC1 HC2 HOUT HIN

          obtain ⟨Aa, ba, ca, rfl, -⟩ := HVA.out

          go_wp2_with fail
          refine (HRC.out _ HL.out).mono ?_
          rintro e W8 ⟨vr2, rfl, hvr, b6⟩
          have HL6 := Lib.hid (HL.out.step b6)
          have HVA6 := Lib.hid (HVA.out.below b6)
          have HVB6 := Lib.hid (HVB.out.below b6)
          have HIV := Lib.hid (intsV_any _ _ _ _ W8 HVB6.out hvr)
          clear HL HVA HVB b6 hvr a0 a1 a2
          obtain ⟨a0, a1, a2⟩ := HL6.out.F
          go_wp2_with fail
          refine HIV.out.mono ?_
          rintro e W9 ⟨rfl, b7⟩
          have HL := Lib.hid (HL6.out.step b7)
          have HVA := Lib.hid (HVA6.out.below b7)
          have HVB := Lib.hid (HVB6.out.below b7)
          have HDE2 : decide (zl (colL f x) = zl (colL f x)) = true := decide_eq_true rfl
          clear HL6 HVA6 HVB6 b7 HIV a0 a1 a2
          obtain ⟨a0, a1, a2⟩ := HL.out.F

          go_wp2_with fail
          go_ret
          exact ⟨rfl, HL.out.B⟩
        | false =>
          obtain ⟨rfl, rfl⟩ := HR2.out rfl
          obtain ⟨rfl, rfl⟩ := HC2.out rfl
          obtain ⟨rfl, rfl⟩ := HOUT.out (.inl rfl)
          clear HR1 HR2 HC1 HC2 HOUT HIN

          obtain ⟨Aa, ba, ca, rfl, -⟩ := HVA.out

          obtain ⟨Ab, bb, cb, rfl, -⟩ := HVB.out

          go_wp2_with fail
          go_ret
          exact ⟨rfl, HL.out.B⟩
end Go.Proofs.Ytlfeoofchebbkaa
