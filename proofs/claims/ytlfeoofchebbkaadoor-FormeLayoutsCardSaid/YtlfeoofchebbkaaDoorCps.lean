/- Copies of slices, and the small functions of the law. -/
import Derived.Test.YtlfeoofchebbkaaDoorStk
namespace Go.Proofs.YtlfeoofchebbkaaDoor
set_option linter.unusedSimpArgs false
set_option linter.unusedVariables false
open Go.RowKit
theorem within49_any (n lo hi : Int) (w : World) : Calls Tryd.prog 21 #[.int .i64 n, .int .i64 lo, .int .i64 hi] w fun e w' => e = .returned (.bool (win n lo hi)) ∧ w = w' := by
  go_enter Tryd.func21, Tryd.ntmps21
  go_wp2
  all_goals go_ret
  all_goals exact ⟨ret_bool (by unfold win; first | exact decide_eq_decide.2 (by omega) | exact (decide_eq_false (by omega)).symm), rfl⟩
def briefB (n : Nat) : Bool := decide (n ≤ 4 ∨ 12 < n ∧ n ≤ 14)
/-- append([]T{}, l...): the new slice's block, of no cells, is at the end of the memory. -/
theorem run_copy {P : Program} (w : World) (t ty : TypeId) (e : TypeId) (i : TypeInfo) (z : Value) (size bytes : Nat) (ht : P.underlying t = some (.slice e)) (hi : P.info? e = some i) (hz : i.zero = some z)
    (hsize : i.size = size) (hby : i.bytes = bytes) (hzs : z.cells.size = size) (hsz : 0 < size)
    (A : Option Addr) (b off m c : Nat) (news : List Value) (hl : news.length = m * size) (hA : Lies A m w.heap.size b off) (hnews : ∀ j, j < m * size → w.cell? ⟨b, off + j, none⟩ = news[j]?) (h1 : ∀ u ∈ news, u.oneCell' = true)
    (h63 : m ≤ maxLen) (hbytes : m * bytes ≤ 140737488355328) :
    ∃ v' w', (Builtin.append_ #[t, t] ty #[.slice (some ⟨w.heap.size, 0, none⟩) 0 0, .slice A m c]).run P (w.alloc (.cells #[] e)) = .ok v' w' ∧ w'.ownsRow w.heap.size e size v' m news ∧ Below w.heap.size w w' := by
  have hown : (w.alloc (.cells #[] e)).ownsRow w.heap.size e size (.slice (some ⟨w.heap.size, 0, none⟩) 0 0) 0 [] := by
    refine ⟨by simp, .inr ⟨w.heap.size, 0, #[], rfl, Nat.le_refl _, ?_, Nat.le_refl _, by simp, by simp, by simp⟩⟩
    show (w.heap.push _)[w.heap.size]? = _
    simp
  have hb0 : Below w.heap.size w (w.alloc (.cells #[] e)) := (Below.refl _ _).alloc (Nat.le_refl _) _
  by_cases hm : m = 0
  · subst hm
    have hn : news = [] := List.eq_nil_of_length_eq_zero (by simpa using hl)
    subst hn
    cases A with
    | none =>
      refine ⟨.slice (some ⟨w.heap.size, 0, none⟩) 0 0, w.alloc (.cells #[] e), ?_, hown, hb0⟩
      simp [Builtin.append_, run_underlying ht, sizeOf, typeInfo, hi, Builtin.lenOf, Builtin.firstCells, storeCells]
    | some ad =>
      obtain ⟨v', w', hrun, h2, h3, _, h5⟩ := run_append_own_at (P := P) _ w.heap.size t ty e i z size bytes ht hi hz hsize hby hzs hsz _ 0 [] hown ad 0 c [] (by simp) (by simp) (by simp) (by omega) (by rw [Nat.zero_add]; exact hbytes) (by simp)
      refine ⟨v', w', hrun, by simpa using h2, hb0.grown h3 (by simp) fun k hk => ?_⟩
      simp [Value.ownBlock] at hk
      omega
  · obtain ⟨rfl, hbb⟩ := hA (by omega)
    have hcells : ∀ j u, news[j]? = some u → (w.alloc (.cells #[] e)).cell? ((⟨b, off, none⟩ : Addr).add j) = some u := fun j u hu => by
      have hj : j < m * size := by
        rcases Nat.lt_or_ge j (m * size) with h | h
        · exact h
        · rw [List.getElem?_eq_none (by omega)] at hu; cases hu
      have hadd : (⟨b, off, none⟩ : Addr).add j = ⟨b, off + j, none⟩ := by unfold Addr.add; split <;> simp_all
      rw [hadd, hb0.cell (p := ⟨b, off + j, none⟩) hbb, hnews j hj, hu]
    obtain ⟨v', w', hrun, h2, h3, _, h5⟩ := run_append_own_at (P := P) _ w.heap.size t ty e i z size bytes ht hi hz hsize hby hzs hsz _ 0 [] hown ⟨b, off, none⟩ m c news hl hcells h1 (by omega) (by rw [Nat.zero_add]; exact hbytes) (by simp)
    refine ⟨v', w', hrun, by simpa using h2, hb0.grown h3 (by simp) fun k hk => ?_⟩
    simp [Value.ownBlock] at hk
    omega
theorem wpList_copy {P : Program} {ops : Array Oper} {rest : List Oper} {o : Oper} {a : Act} {w w0 : World} {Q : Exit → Act → World → Prop} (hgd : o.guard = none) (s x : Operand) (t : TypeId)
    (ho : o.op = .call { callee := .builtin .append, args := #[s, x], argTypes := #[t, t] })
    (e : TypeId) (i : TypeInfo) (z : Value) (size bytes : Nat) (ht : P.underlying t = some (.slice e)) (hi : P.info? e = some i) (hz : i.zero = some z)
    (hsize : i.size = size) (hby : i.bytes = bytes) (hzs : z.cells.size = size) (hsz : 0 < size)
    (hw : w = w0.alloc (.cells #[] e)) (hs : a.eval s = .slice (some ⟨w0.heap.size, 0, none⟩) 0 0)
    (A : Option Addr) (b off m c : Nat) (news : List Value) (hx : a.eval x = .slice A m c) (hl : news.length = m * size) (hA : Lies A m w0.heap.size b off) (hnews : ∀ j, j < m * size → w0.cell? ⟨b, off + j, none⟩ = news[j]?) (h1 : ∀ u ∈ news, u.oneCell' = true)
    (h63 : m ≤ maxLen) (hbytes : m * bytes ≤ 140737488355328)
    (h : ∀ v' w', w'.ownsRow w0.heap.size e size v' m news → Below w0.heap.size w0 w' → wpList P ops Q rest (a.put o.dst v') w') : wpList P ops Q (o :: rest) a w := by
  subst hw
  refine wpList_plain hgd fun _ hK => ?_
  obtain ⟨v', w', hr, h2, h3⟩ := run_copy (P := P) w0 t o.type e i z size bytes ht hi hz hsize hby hzs hsz A b off m c news hl hA hnews h1 h63 hbytes
  unfold Oper.wp execOp
  simp only [ho, resolve, invoke, builtin, Sem.run_bind, Sem.run_pure, Result.andThen_ok, List.map_toArray, List.map_cons, List.map_nil, hs, hx, hr]
  exact hK _ _ (h v' w' h2 h3)
/-- A slice of n numbers, in cells of its own. -/
def IntsPost (w : World) (zs : List Int) (e : Ending) (w' : World) : Prop := ∃ A' b' c', e = .returned (.slice A' zs.length c') ∧ Lies A' zs.length w'.heap.size b' 0 ∧ ZsAt w' b' 0 zs ∧ Below w.heap.size w w'
theorem ints_of_own {w : World} {base : Nat} {e : TypeId} {v : Value} {zs : List Int} (h : w.ownsRow base e 1 v zs.length (zs.map (.int .i64))) :
    ∃ A' b' c', v = .slice A' zs.length c' ∧ Lies A' zs.length w.heap.size b' 0 ∧ ZsAt w b' 0 zs := by
  rcases h.2 with ⟨rfl, h0⟩ | ⟨g, cap, cur, rfl, _, hg, hnc, _, hcs, ht⟩
  · exact ⟨none, 0, 0, by rw [h0], fun h => by omega, fun j hj => by omega⟩
  · refine ⟨some ⟨g, 0, none⟩, g, cap, rfl, fun _ => ⟨rfl, ?_⟩, fun j hj => ?_⟩
    · rcases Nat.lt_or_ge g w.heap.size with hlt | hge
      · exact hlt
      · rw [Array.getElem?_eq_none hge] at hg; cases hg
    · rw [cell_of_row w g (0 + j) cur e (0, 0) hg]
      have : (cur.toList.take (zs.length * 1))[j]? = (zs.map (Value.int .i64))[j]? := by rw [ht]
      rw [List.getElem?_take, if_pos (by omega)] at this
      simp only [Array.getElem?_toList, List.getElem?_map] at this
      rw [Nat.zero_add, this, List.getElem?_eq_getElem hj]
      simp [gz, List.getD_eq_getElem?_getD, List.getElem?_eq_getElem hj]
theorem copyInts_any (zs : List Int) (A : Option Addr) (b off c : Nat) (w : World) (hA : Lies A zs.length w.heap.size b off) (hz : ZsAt w b off zs) (hm : zs.length ≤ 1000000) :
    Calls Tryd.prog 20 #[.slice A zs.length c] w (IntsPost w zs) := by
  obtain ⟨i0, hi0, hz0, hz1, hz2⟩ := info_parts (show (Tryd.prog.info? 3).map (fun i => (i.zero, i.size, i.bytes)) = some (some (.int .i64 0), 1, 8) by kernel_rfl)
  have hbw := hA
  have hh : ∀ j, j < zs.length * 1 → w.cell? ⟨b, off + j, none⟩ = (zs.map (Value.int .i64))[j]? := fun j hj => by
    rw [hz j (by omega), List.getElem?_map, List.getElem?_eq_getElem (by omega)]
    simp [gz, List.getD_eq_getElem?_getD, List.getElem?_eq_getElem (show j < zs.length by omega)]
  have HH := Lib.hid hh
  have HP : Hid (∀ v w', w'.ownsRow w.heap.size 3 1 v zs.length (zs.map (Value.int .i64)) → Below w.heap.size w w' → IntsPost w zs (.returned v) w') := (show ∀ v w', _ from fun v w' h hb => by
    obtain ⟨A', b', c', rfl, h1, h2⟩ := ints_of_own h
    exact ⟨A', b', c', rfl, h1, h2, hb⟩)
  clear hz hh
  go_enter Tryd.func20, Tryd.ntmps20
  go_wp2_with ((at_builtin
                refine wpList_copy rfl (.tmp 3) (.tmp 4) 22 rfl 3 i0 _ 1 8 Tryd.underlying22 hi0 hz0 hz1 hz2 rfl (by omega) rfl rfl A b off zs.length c _ rfl (by simp) hA HH.out (fun u hu => by obtain ⟨x, _, rfl⟩ := List.mem_map.1 hu; rfl) (by simp only [maxLen]; omega) (by omega) ?_
                intro v1 w1 hown1 hg1
                have HO := Lib.hid hown1
                have HG := Lib.hid hg1
                clear hown1 hg1))
  go_ret
  exact HP.out _ _ HO.out HG.out
/-- The cells of a stock, as values. -/
def fcells (l : List (Int × Int)) : List Value := l.flatMap fun p => [.int .i64 p.1, .int .i64 p.2]
theorem fcells_length (l : List (Int × Int)) : (fcells l).length = l.length * 2 := by
  induction l with
  | nil => rfl
  | cons a l ih => simp only [fcells, List.flatMap_cons, List.length_append, List.length_cons, List.length_nil] at ih ⊢; omega
theorem fcells_get (l : List (Int × Int)) : ∀ j, j < l.length → (fcells l)[j * 2]? = some (.int .i64 (gf l j).1) ∧ (fcells l)[j * 2 + 1]? = some (.int .i64 (gf l j).2) := by
  induction l with
  | nil => intro j hj; simp at hj
  | cons a l ih =>
    intro j hj
    have e : fcells (a :: l) = .int .i64 a.1 :: .int .i64 a.2 :: fcells l := rfl
    cases j with
    | zero => rw [e]; exact ⟨rfl, rfl⟩
    | succ j =>
      have := ih j (by simpa using hj)
      rw [e, show (j + 1) * 2 = j * 2 + 1 + 1 from by omega, show j * 2 + 1 + 1 + 1 = (j * 2 + 1) + 1 + 1 from rfl]
      simpa [gf] using this
theorem fcells_one (l : List (Int × Int)) : ∀ u ∈ fcells l, u.oneCell' = true := by
  intro u hu
  obtain ⟨p, _, h⟩ := List.mem_flatMap.1 hu
  simp only [List.mem_cons, List.not_mem_nil, or_false] at h
  rcases h with rfl | rfl <;> rfl
theorem FsAt.cells {w : World} {b off : Nat} {l : List (Int × Int)} (h : FsAt w b off l) : ∀ j, j < l.length * 2 → w.cell? ⟨b, off + j, none⟩ = (fcells l)[j]? := fun j hj => by
  have h1 := h (j / 2) (by omega)
  have h2 := fcells_get l (j / 2) (by omega)
  rcases Nat.mod_two_eq_zero_or_one j with e | e
  · have e1 : j / 2 * 2 = j := by omega
    rw [e1] at h1 h2
    rw [h1.1, h2.1]
  · have e1 : j / 2 * 2 + 1 = j := by omega
    have e2 : off + j / 2 * 2 + 1 = off + j := by omega
    rw [e1] at h2
    rw [e2] at h1
    rw [h1.2, h2.2]
def FsPost (w : World) (l : List (Int × Int)) (e : Ending) (w' : World) : Prop := ∃ A' b' c', e = .returned (.slice A' l.length c') ∧ Lies A' l.length w'.heap.size b' 0 ∧ FsAt w' b' 0 l ∧ Below w.heap.size w w'
theorem fs_of_own {w : World} {base : Nat} {e : TypeId} {v : Value} {l : List (Int × Int)} (h : w.ownsRow base e 2 v l.length (fcells l)) :
    ∃ A' b' c', v = .slice A' l.length c' ∧ Lies A' l.length w.heap.size b' 0 ∧ FsAt w b' 0 l := by
  rcases h.2 with ⟨rfl, h0⟩ | ⟨g, cap, cur, rfl, _, hg, hnc, _, hcs, ht⟩
  · exact ⟨none, 0, 0, by rw [h0], fun h => by omega, fun j hj => by omega⟩
  · have hc : ∀ j, j < l.length * 2 → w.cell? ⟨g, 0 + j, none⟩ = (fcells l)[j]? := fun j hj => by
      rw [cell_of_row w g (0 + j) cur e (0, 0) hg]
      have : (cur.toList.take (l.length * 2))[j]? = (fcells l)[j]? := by rw [ht]
      rw [List.getElem?_take, if_pos (by omega)] at this
      simp only [Array.getElem?_toList] at this
      rw [Nat.zero_add, this]
    refine ⟨some ⟨g, 0, none⟩, g, cap, rfl, fun _ => ⟨rfl, ?_⟩, fun j hj => ?_⟩
    · rcases Nat.lt_or_ge g w.heap.size with hlt | hge
      · exact hlt
      · rw [Array.getElem?_eq_none hge] at hg; cases hg
    · have hh := fcells_get l j hj
      exact ⟨(hc (j * 2) (by omega)).trans hh.1, (hc (j * 2 + 1) (by omega)).trans hh.2⟩
theorem sameInts_iff (xs ys : List Int) : xs = ys ↔ xs.length = ys.length ∧ ∀ j, j < xs.length → gz xs j = gz ys j := by
  constructor
  · rintro rfl; exact ⟨rfl, fun _ _ => rfl⟩
  · rintro ⟨h, k⟩
    refine List.ext_getElem h fun j h1 h2 => ?_
    have := k j h1
    simpa [gz, List.getD_eq_getElem?_getD, List.getElem?_eq_getElem h1, List.getElem?_eq_getElem h2] using this
set_option maxHeartbeats 1000000 in
theorem ints_any (xs ys : List Int) (A A2 : Option Addr) (b off c b2 off2 c2 : Nat) (w : World) (hA : Lies A xs.length w.heap.size b off) (hz : ZsAt w b off xs) (hA2 : Lies A2 ys.length w.heap.size b2 off2) (hz2 : ZsAt w b2 off2 ys) (hm : xs.length ≤ 1000000) :
    Calls Tryd.prog 15 #[.slice A xs.length c, .slice A2 ys.length c2] w fun e w' => e = .returned (.bool (decide (xs = ys))) ∧ Below w.heap.size w w' := by
  have HS := Lib.hid (sameInts_iff xs ys)
  generalize hd : decide (xs = ys) = d
  have HD := Lib.hid hd
  clear hd
  by_cases hl : xs.length = ys.length
  · have hl2 : ((xs.length : Int) != (ys.length : Int)) = false := bne_f (by omega)
    have HL := Lib.hid hl
    clear hl
    go_enter Tryd.func15, Tryd.ntmps15
    go_wp2_with fail
    go_loopg [5] xs.length (fun gg s5 wr => ∃ k : Nat, k ≤ xs.length ∧ xs.length - k ≤ gg ∧ s5 = .int .i64 k ∧ Hid (∀ j, j < k → gz xs j = gz ys j) ∧ Hid (Below w.heap.size w wr) ∧ w.heap.size ≤ wr.heap.size)
    case atStart => exact ⟨0, by omega, by omega, rfl, fun j hj => absurd hj (Nat.not_lt_zero _), Below.refl _ _, Nat.le_refl _⟩
    case round =>
      obtain ⟨k, hk, hg, rfl, E, BW, hzw⟩ := hrel
      by_cases hlt : k < xs.length
      · have hltz : (k : Int) < (xs.length : Int) := by omega
        have hlty : (k : Int) < (ys.length : Int) := by have := HL.out; omega
        obtain ⟨rfl, hbb⟩ := hA (by omega)
        obtain ⟨rfl, hbb2⟩ := hA2 (by omega)
        have q := (hz.below BW.out hbb) k hlt
        have q2 := (hz2.below BW.out hbb2) k (by omega)
        have hbw : b < wr.heap.size := by omega
        have hbw2 : b2 < wr.heap.size := by omega
        clear hz hz2 hA hA2
        by_cases hx : gz xs k = gz ys k
        · have hx2 : (gz xs k != gz ys k) = false := bne_f hx
          have HX0 : Hid (∀ j, j = k → gz xs j = gz ys j) := (show ∀ j, _ from fun j e => by rw [e]; exact hx)
          clear hx
          generalize gz xs k = x at *
          generalize gz ys k = y at *
          go_wp2_with fail
          go_quiet (fail)
          go_wp2_with fail
          go_roundg (xs.length - (k + 1))
          case measure => omega
          case rel =>
            refine ⟨k + 1, by omega, by omega, by go_num, (show ∀ j, _ from fun j hj => ?_), ⟨BW.out.os, BW.out.tape, BW.out.output, BW.out.size, BW.out.block⟩, hzw⟩
            by_cases e : j = k
            · exact HX0.out j e
            · exact E.out j (by omega)
        · have hx2 : (gz xs k != gz ys k) = true := bne_t hx
          have HN : Hid (d = false) := by show _ = _; rw [← HD.out]; exact decide_eq_false fun h => hx (((HS.out.1 h).2) k hlt)
          clear hx
          generalize gz xs k = x at *
          generalize gz ys k = y at *
          go_wp2_with fail
          go_quiet (fail)
          go_wp2_with fail
          go_ret
          exact ⟨ret_bool HN.out.symm, ⟨BW.out.os, BW.out.tape, BW.out.output, BW.out.size, BW.out.block⟩⟩
      · have hltz : ¬ (k : Int) < (xs.length : Int) := by omega
        have he : k = xs.length := by omega
        subst he
        go_wp2_with fail
        go_ret
        exact ⟨ret_bool (by rw [← HD.out]; exact (decide_eq_true (HS.out.2 ⟨HL.out, E.out⟩)).symm), BW.out⟩
  · have hl2 : ((xs.length : Int) != (ys.length : Int)) = true := bne_t (by omega)
    have HN : Hid (d = false) := by show _ = _; rw [← HD.out]; exact decide_eq_false fun h => hl (HS.out.1 h).1
    clear hl
    go_enter Tryd.func15, Tryd.ntmps15
    go_wp2_with fail
    go_ret
    exact ⟨ret_bool HN.out.symm, Below.refl _ _⟩
/-- What ref.CheckFilling computes of a right stock and length. -/
def refFl (l : List (Int × Int)) (len : Int) (cs : List Int) : Int × Int :=
  if cs.length ≠ l.length then (0, 10)
  else if (fstE (clErr l cs) l.length).2 ≠ 0 then (0, 20)
  else if fillSum l cs l.length ≠ len then (0, 23)
  else (sumTo cs.length (gz cs), 0)
theorem checkFl_ref {l : List (Int × Int)} {len : Int} (cs : List Int) (h : checkSt l len = 0) : checkFl l len cs = refFl l len cs := by
  unfold checkFl refFl
  rw [if_neg (by omega)]
theorem checkFl_bad {l : List (Int × Int)} {len : Int} (cs : List Int) (h : checkSt l len ≠ 0) : checkFl l len cs = (0, checkSt l len) := by
  unfold checkFl
  rw [if_pos h]