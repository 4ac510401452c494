/- Labels in memory: a list of lists of numbers; narrow; their copies. -/
import Derived.Test.YtlfeoofchebbkaaLw
import Derived.Test.YtlfeoofchebbkaaHlr
namespace Go.Proofs.Ytlfeoofchebbkaa
set_option linter.unusedSimpArgs false
set_option linter.unusedVariables false
open Go.RowKit
def gl (ls : List (List Int)) (i : Nat) : List Int := ls.getD i []
/-- The header cells of rows, and the rows, below block B. -/
def RowsAt (W : World) (B b off : Nat) (ls : List (List Int)) : Prop := ∀ i, i < ls.length → ∃ A bi oi ci, W.cell? ⟨b, off + i, none⟩ = some (.slice A (gl ls i).length ci) ∧ Lies A (gl ls i).length B bi oi ∧ ZsAt W bi oi (gl ls i)
theorem RowsAt.below {W W' : World} {B B' b off : Nat} {ls : List (List Int)} (h : RowsAt W B b off ls) (hb : Below B' W W') (hB : B ≤ B') (hbb : b < B') : RowsAt W' B b off ls := fun i hi => by
  obtain ⟨A, bi, oi, ci, h1, h2, h3⟩ := h i hi
  exact ⟨A, bi, oi, ci, (hb.cell (p := ⟨b, _, none⟩) hbb).trans h1, h2, fun j hj => (hb.cell (p := ⟨bi, _, none⟩) (Nat.lt_of_lt_of_le (h2 (by omega)).2 hB)).trans (h3 j hj)⟩
theorem RowsAt.mono {W : World} {B B' b off : Nat} {ls : List (List Int)} (h : RowsAt W B b off ls) (hB : B ≤ B') : RowsAt W B' b off ls := fun i hi => by
  obtain ⟨A, bi, oi, ci, h1, h2, h3⟩ := h i hi
  exact ⟨A, bi, oi, ci, h1, h2.mono hB, h3⟩
/-- A list of lists of numbers in memory. -/
def LsV (W : World) (ls : List (List Int)) (v : Value) : Prop := ∃ A' b' c', v = .slice A' ls.length c' ∧ Lies A' ls.length W.heap.size b' 0 ∧ (0 < ls.length → RowsAt W W.heap.size b' 0 ls) ∧ ls.length ≤ c'
theorem LsV.below {W W' : World} {ls : List (List Int)} {v : Value} (h : LsV W ls v) (hb : Below W.heap.size W W') : LsV W' ls v := by
  obtain ⟨A', b', c', rfl, h1, h2, h3⟩ := h
  exact ⟨A', b', c', rfl, h1.mono hb.size, fun h0 => ((h2 h0).below hb (Nat.le_refl _) (h1 h0).2).mono hb.size, h3⟩
def narB (ls : List (List Int)) : Bool := decide ((∀ i, i < ls.length → (gl ls i).length ≤ 310) ∧ ls.length ≤ 16)
theorem narB_t {ls : List (List Int)} (h : narB ls = true) : (∀ i, i < ls.length → (gl ls i).length ≤ 310) ∧ ls.length ≤ 16 := of_decide_eq_true h
set_option maxRecDepth 100000 in
set_option maxHeartbeats 2000000 in
theorem narrow_any (ls : List (List Int)) (A : Option Addr) (b off c : Nat) (w : World) (hA : Lies A ls.length w.heap.size b off) (hr : 0 < ls.length → RowsAt w w.heap.size b off ls) (hm : ls.length ≤ 9223372036854775807) :
    Calls Try.prog 52 #[.slice A ls.length c] w fun e w' => e = .returned (.bool (narB ls)) ∧ w = w' := by
  have HL : Hid (narB ls = decide ((∀ i, i < ls.length → (gl ls i).length ≤ 310) ∧ ls.length ≤ 16)) := rfl
  generalize narB ls = lb at *
  generalize hn : ls.length = n at *
  have HN := Lib.hid hn
  clear hn
  go_enter Try.func52, Try.ntmps52
  go_wp2_with fail
  go_loopg [3] n (fun gg s3 wr => ∃ k : Nat, k ≤ n ∧ n - k ≤ gg ∧ s3 = .int .i64 k ∧ w = wr ∧ Hid (∀ j, j < k → (gl ls j).length ≤ 310))
  case atStart => exact ⟨0, Nat.zero_le _, by omega, rfl, rfl, fun j hj => absurd hj (Nat.not_lt_zero _)⟩
  case round =>
    obtain ⟨k, hk, hg, rfl, rfl, E⟩ := hrel
    by_cases hlt : k < n
    · have hltz : (k : Int) < (n : Int) := by omega
      have hk0 : (0 : Int) ≤ (k : Int) := by omega
      obtain ⟨rfl, hb⟩ := hA (by omega)
      obtain ⟨Ai, bi, oi, ci, c0, -, -⟩ := hr (by omega) k (by have := HN.out; omega)
      clear hr hA
      have HY : Hid (∀ j, j = k → (gl ls j).length = (gl ls k).length) := (show ∀ j, _ from fun j e => by rw [e])
      generalize (gl ls k).length = y at *
      by_cases h20 : y ≤ 310
      · have h20z : ¬ (310 : Int) < (y : Int) := by omega
        go_wp2_with fail
        go_roundg (n - (k + 1))
        case measure => omega
        case rel =>
          refine ⟨k + 1, by omega, by omega, by go_num, rfl, (show ∀ j, _ from fun j hj => ?_)⟩
          by_cases e : j = k
          · rw [HY.out j e]; exact h20
          · exact E.out j (by omega)
      · have h20z : (310 : Int) < (y : Int) := by omega
        go_wp2_with fail
        go_ret
        refine ⟨ret_bool ?_, rfl⟩
        rw [HL.out]
        symm
        rw [decide_eq_false_iff_not]
        rintro ⟨h, _⟩
        have := h k hlt
        rw [HY.out k rfl] at this
        omega
    · have hltz : ¬ (k : Int) < (n : Int) := by omega
      have he : k = n := by omega
      subst he
      have HQ : Hid (lb = decide (k ≤ 16)) := by
        show _ = _
        rw [HL.out]
        exact decide_eq_decide.2 ⟨fun h => h.2, fun h => ⟨E.out, h⟩⟩
      clear HL E
      go_wp2_with fail
      go_ret
      refine ⟨ret_bool ?_, rfl⟩
      rw [HQ.out]
      exact decide_eq_decide.2 (by omega)
/-- A row's header while the rows are collected: the row lies apart from the collecting block. -/
def HdAt (W : World) (ob : Option Nat) (zs : List Int) (v : Value) : Prop := ∃ A' b' c', v = .slice A' zs.length c' ∧ Lies A' zs.length W.heap.size b' 0 ∧ (0 < zs.length → some b' ≠ ob) ∧ ZsAt W b' 0 zs
theorem HdAt.step {W W' : World} {row ob' : Option Nat} {zs : List Int} {v : Value} (h : HdAt W row zs v) (hg : W.grownBy W' row) (ho : ob' = row ∨ ∃ g, ob' = some g ∧ W.heap.size ≤ g) : HdAt W' ob' zs v := by
  obtain ⟨A', b', c', rfl, h1, h2, h3⟩ := h
  refine ⟨A', b', c', rfl, h1.mono hg.size, fun h0 => ?_, fun j hj => ?_⟩
  · rcases ho with rfl | ⟨g, rfl, hg'⟩
    · exact h2 h0
    · have := (h1 h0).2
      intro e
      injection e with e
      omega
  · have hb := hg.block b' (h1 (by omega)).2 (h2 (by omega))
    have := h3 j hj
    simp only [World.cell?, hb] at this ⊢
    exact this
theorem rows_of {W : World} {base : Nat} {v : Value} {ls : List (List Int)} {hs : List Value} (ho : W.ownsRow base 23 1 v ls.length hs) (hl : hs.length = ls.length) (hh : ∀ i, i < ls.length → ∃ u, hs[i]? = some u ∧ HdAt W v.ownBlock (gl ls i) u) : LsV W ls v := by
  rcases ho.2 with ⟨rfl, h0⟩ | ⟨g, cap, cur, rfl, hbs, hg, hnc, _, hcs, ht⟩
  · exact ⟨none, 0, 0, by rw [h0], fun h => by omega, fun h => by omega, by omega⟩
  · refine ⟨some ⟨g, 0, none⟩, g, cap, rfl, fun _ => ⟨rfl, (Array.getElem?_eq_some_iff.1 hg).1⟩, fun _ i hi => ?_, hnc⟩
    obtain ⟨u, hu, A', b', c', rfl, h1, _, h3⟩ := hh i hi
    refine ⟨A', b', 0, c', ?_, h1, h3⟩
    have : (cur.toList.take (ls.length * 1))[i]? = hs[i]? := by rw [ht]
    rw [List.getElem?_take, if_pos (by omega), Array.getElem?_toList, hu] at this
    simp [World.cell?, hg, this]
theorem Try.info23 : (Try.prog.info? 23).map (fun i => (i.zero, i.size, i.bytes)) = some (some (.slice none 0 0), 1, 24) := by kernel_rfl
/-- The rows that have been collected. -/
def Coll (W : World) (base : Nat) (ls : List (List Int)) (v : Value) (k : Nat) : Prop := ∃ hs : List Value, hs.length = k ∧ W.ownsRow base 23 1 v k hs ∧ ∀ i, i < k → ∃ u, hs[i]? = some u ∧ HdAt W v.ownBlock (gl ls i) u
theorem Coll.below {W W' : World} {base : Nat} {ls : List (List Int)} {v : Value} {k : Nat} (h : Coll W base ls v k) (hb : Below W.heap.size W W') : Coll W' base ls v k := by
  obtain ⟨hs, h1, h2, h3⟩ := h
  refine ⟨hs, h1, h2.kept (grown_of_below hb none) (by by_cases e : v.ownBlock = none <;> simp [e]), fun i hi => ?_⟩
  obtain ⟨u, hu, h4⟩ := h3 i hi
  exact ⟨u, hu, h4.step (grown_of_below hb _) (.inl rfl)⟩
theorem Coll.add {W W8 : World} {base : Nat} {ls : List (List Int)} {v u : Value} {k g1 cap1 : Nat} {hs : List Value} (hl : hs.length = k) (hh : ∀ i, i < k → ∃ u, hs[i]? = some u ∧ HdAt W v.ownBlock (gl ls i) u) (hu : HdAt W v.ownBlock (gl ls k) u)
    (ho : W8.ownsRow base 23 1 (.slice (some ⟨g1, 0, none⟩) (k + 1) cap1) (k + 1) (hs ++ [u])) (hg : W.grownBy W8 v.ownBlock) (hat : v.ownBlock = some g1 ∨ W.heap.size ≤ g1) : Coll W8 base ls (.slice (some ⟨g1, 0, none⟩) (k + 1) cap1) (k + 1) := by
  have hob : some g1 = v.ownBlock ∨ ∃ g, some g1 = some g ∧ W.heap.size ≤ g := by
    rcases hat with h | h
    · exact .inl h.symm
    · exact .inr ⟨g1, rfl, h⟩
  refine ⟨hs ++ [u], by simp [hl], ho, fun i hi => ?_⟩
  show ∃ u', _ ∧ HdAt W8 (some g1) _ u'
  by_cases e : i = k
  · subst e
    exact ⟨u, by rw [List.getElem?_append_right (by omega), hl, Nat.sub_self]; rfl, hu.step hg hob⟩
  · obtain ⟨u', h1, h2⟩ := hh i (by omega)
    exact ⟨u', by rw [List.getElem?_append_left (by omega)]; exact h1, h2.step hg hob⟩
def CopyLPost (w : World) (ls : List (List Int)) (e : Ending) (w' : World) : Prop := ∃ v, e = .returned v ∧ LsV w' ls v ∧ Below w.heap.size w w'
set_option maxRecDepth 100000 in
set_option maxHeartbeats 4000000 in
theorem copyLists_any (ls : List (List Int)) (A : Option Addr) (b off c : Nat) (w : World) (hA : Lies A ls.length w.heap.size b off) (hr : 0 < ls.length → RowsAt w w.heap.size b off ls) (hm : ls.length ≤ 1000000) (hml : ∀ i, i < ls.length → (gl ls i).length ≤ 1000000) :
    Calls Try.prog 54 #[.slice A ls.length c] w (CopyLPost w ls) := by
  obtain ⟨inf, hInf, hInf0, hInf1, hInf2⟩ := info_parts Try.info23
  have HFN : Hid (∀ v W', Coll W' w.heap.size ls v ls.length → Below w.heap.size w W' → CopyLPost w ls (.returned v) W') := (show ∀ v W', _ from fun v W' h hb => by
    obtain ⟨hs, h1, h2, h3⟩ := h
    exact ⟨v, rfl, rows_of h2 h1 h3, hb⟩)
  have HML := Lib.hid hml
  clear hml
  generalize hn : ls.length = n at *
  have HN := Lib.hid hn
  clear hn
  go_enter Try.func54, Try.ntmps54
  go_wp2_with fail
  go_loopg [3, 4] n (fun gg s3 s4 wr => ∃ k : Nat, k ≤ n ∧ n - k ≤ gg ∧ s4 = .int .i64 k ∧ Hid (Coll wr w.heap.size ls s3 k) ∧ Hid (Below w.heap.size w wr))
  case atStart => exact ⟨0, Nat.zero_le _, by omega, rfl, ⟨[], rfl, World.ownsRow_nil _ _ _ _, fun i hi => absurd hi (Nat.not_lt_zero _)⟩, Below.refl _ _⟩
  case round =>
    obtain ⟨k, hk, hgk, rfl, R, BW⟩ := hrel
    obtain ⟨s3, rfl⟩ : ∃ x : Value, x = u3 := ⟨_, rfl⟩
    by_cases hlt : k < n
    · have hltz : (k : Int) < (n : Int) := by omega
      have hk0 : (0 : Int) ≤ (k : Int) := by omega
      obtain ⟨rfl, hb⟩ := hA (by omega)
      obtain ⟨Ai, bi, oi, ci, c0, la, za⟩ := ((hr (by omega)).below BW.out (Nat.le_refl _) hb) k (by have := HN.out; omega)
      have HLA := Lib.hid (la.mono BW.out.size)
      have HZA := Lib.hid za
      have hmk := HML.out k hlt
      clear la za hr hA
      go_wp2_with fail
      refine (copyIntsO_any (gl ls k) Ai bi oi ci wr HLA.out HZA.out hmk).mono ?_
      rintro e w4 ⟨v, rfl, hv, hb4⟩
      have R4 := Lib.hid (R.out.below hb4)
      have HLT : Hid (∀ t, s3.ownBlock = some t → t < wr.heap.size) := (show ∀ t, _ from fun t ht => by
        obtain ⟨hs, _, h2, _⟩ := R.out
        exact (h2.lt t ht).2)
      obtain ⟨A', b', c', rfl, -, l1, z1, o1⟩ := hv
      have HU : Hid (HdAt w4 s3.ownBlock (gl ls k) (.slice A' (gl ls k).length c')) := ⟨A', b', c', rfl, l1, fun h0 e => by have := (o1 h0).1; have := HLT.out b' e.symm; omega, z1⟩
      have HB4 := Lib.hid (BW.out.trans (hb4.mono BW.out.size))
      have hsz4 := HB4.out.size
      obtain ⟨hs, h1, h2, h3⟩ := R4.out
      have HS1 := Lib.hid h1
      have HS2 := Lib.hid h2
      have HS3 := Lib.hid h3
      clear h1 h2 h3 l1 z1 o1 R R4 HLT hb4 BW c0 hmk
      generalize (gl ls k).length = q at *
      go_wp2_with ((at_builtin
                    refine wpList_append_lies _ rfl (.tmp 11) (.tmp 17) 76 (by rfl) w.heap.size 23 inf _ 1 24 Try.underlying76 hInf hInf0 hInf1 hInf2 rfl (by omega) _ k _ (by rfl) (HS2.out.alloc _) ⟨w4.heap.size, 0, none⟩ 1 1 [.slice A' q c'] (by rfl) (by rfl) (World.news_of_block (cs := #[.slice A' q c']) (t := 23) (fr := (0, 0)) (heap_alloc_new w4 _)) (by simp [Value.oneCell']) (by omega) (by simp only [maxLen]; omega) (by omega) (by simp; omega) (w4.heap.size + 1) (by simp) ?_
                    intro g1 cap1 w8 hown hgrow hat hlt8
                    have HO8 := Lib.hid hown
                    have HG8 := Lib.hid hgrow
                    have HAT := Lib.hid hat
                    clear hown hgrow hat))
      go_roundg (n - (k + 1))
      case measure => omega
      case rel =>
        have hal : w4.grownBy (w4.alloc (.cells #[.slice A' q c'] 23)) s3.ownBlock := World.grownBy_alloc _ _ _
        refine ⟨k + 1, by omega, by omega, by go_num, ?_, ?_⟩
        · refine Coll.add (u := .slice A' q c') HS1.out (fun i hi => ?_) (HU.out.step hal (.inl rfl)) HO8.out HG8.out ?_
          · obtain ⟨u, hu, h4⟩ := HS3.out i hi
            exact ⟨u, hu, h4.step hal (.inl rfl)⟩
          · rcases HAT.out with h | h
            · exact .inl h
            · exact .inr (by simp; omega)
        · show Below _ _ _
          exact (HB4.out.alloc (by omega) _).grown HG8.out (by simp; omega) (fun t ht => (HS2.out.lt t ht).1)
    · have hltz : ¬ (k : Int) < (n : Int) := by omega
      have he : k = n := by omega
      subst he
      have HF := Lib.hid (HFN.out _ wr R.out BW.out)
      clear R
      go_wp2_with fail
      go_ret
      exact HF.out
end Go.Proofs.Ytlfeoofchebbkaa
