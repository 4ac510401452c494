/- What is known of the sorts so far (fount.known), by contracts. -/
import Derived.Test.YtefjhhgfkdkfaaaFnb
import Derived.Maps.OwnSet
import Derived.Maps.OwnOps
import Derived.Maps.Views
import Derived.StringKeys
namespace Go.Proofs.Ytefjhhgfkdkfaaa
set_option linter.unusedSimpArgs false
set_option linter.unusedVariables false
open Go.RowKit Go.Maps Go.WideMaps
theorem law9 : Keyed Try.prog 9 := string_keyed Try.underlying9
theorem zero3 (w : World) : (zeroValue 3).run Try.prog w = .ok (.int .i64 0) w := by kernel_rfl
set_option maxRecDepth 100000 in
theorem prints_any (kind : Int) (s : ByteArray) (w : World) (hk : 1 ≤ kind ∧ kind ≤ 3) : Calls Try.prog 149 #[.int .i64 kind, .string s] w fun e w' => e = .returned (.bool (prB kind s)) ∧ Below w.heap.size w w' := by
  have hg : prB kind s = (decide (if kind = 1 then s.size = 1 else if kind = 2 then 2 ≤ s.size ∧ s.size ≤ 4 else s.size = 0) && goodB s) := by
    unfold prB goodB; rw [Bool.eq_iff_iff]; simp
  have HG := Lib.hid hg
  clear hg
  generalize prB kind s = pb at *
  have HCF := Lib.hid (containsFunc_any s)
  generalize goodB s = gb at *
  rcases (show kind = 1 ∨ kind = 2 ∨ kind = 3 by omega) with rfl | rfl | rfl
  · have hix : ∀ w, (Instr.index 207 (.agg #[.int .i64 0, .int .i64 0, .int .i64 1, .int .i64 1, .int .i64 2, .int .i64 4, .int .i64 0, .int .i64 0]) (.int .i64 1)).run Try.prog w = .ok (.agg #[.int .i64 1, .int .i64 1]) w := fun _ => by kernel_rfl
    have HW : Hid (pb = (win s.size 1 1 && gb)) := by
      show _ = _
      rw [HG.out]
      congr 1
      unfold win
      exact decide_eq_decide.2 (by simp; try omega)
    clear HG hk
    go_enter Try.func149, Try.ntmps149
    go_wp2_with fail
    refine (within100_any _ _ _ _).mono ?_
    rintro e w' ⟨rfl, rfl⟩
    cases hq : win (s.size : Int) 1 1 with
    | false =>
      have HQ := Lib.hid hq
      clear hq hix
      go_wp2_with fail
      go_ret
      exact ⟨ret_bool (by rw [HW.out, HQ.out]; rfl), below_new _ _⟩
    | true =>
      have HQ := Lib.hid hq
      clear hq hix
      have hb0 := Lib.hid (below_new w (.cells #[.int .i64 1, .int .i64 1] 206))
      go_wp2_with fail
      refine (HCF.out _).mono ?_
      rintro e w' ⟨rfl, hb⟩
      have HB := Lib.hid (hb0.out.trans (hb.mono (by simp)))
      clear hb
      go_wp2_with fail
      go_ret
      exact ⟨ret_bool (by rw [HW.out, HQ.out]; simp), HB.out⟩
  · have hix : ∀ w, (Instr.index 207 (.agg #[.int .i64 0, .int .i64 0, .int .i64 1, .int .i64 1, .int .i64 2, .int .i64 4, .int .i64 0, .int .i64 0]) (.int .i64 2)).run Try.prog w = .ok (.agg #[.int .i64 2, .int .i64 4]) w := fun _ => by kernel_rfl
    have HW : Hid (pb = (win s.size 2 4 && gb)) := by
      show _ = _
      rw [HG.out]
      congr 1
      unfold win
      exact decide_eq_decide.2 (by simp; try omega)
    clear HG hk
    go_enter Try.func149, Try.ntmps149
    go_wp2_with fail
    refine (within100_any _ _ _ _).mono ?_
    rintro e w' ⟨rfl, rfl⟩
    cases hq : win (s.size : Int) 2 4 with
    | false =>
      have HQ := Lib.hid hq
      clear hq hix
      go_wp2_with fail
      go_ret
      exact ⟨ret_bool (by rw [HW.out, HQ.out]; rfl), below_new _ _⟩
    | true =>
      have HQ := Lib.hid hq
      clear hq hix
      have hb0 := Lib.hid (below_new w (.cells #[.int .i64 2, .int .i64 4] 206))
      go_wp2_with fail
      refine (HCF.out _).mono ?_
      rintro e w' ⟨rfl, hb⟩
      have HB := Lib.hid (hb0.out.trans (hb.mono (by simp)))
      clear hb
      go_wp2_with fail
      go_ret
      exact ⟨ret_bool (by rw [HW.out, HQ.out]; simp), HB.out⟩
  · have hix : ∀ w, (Instr.index 207 (.agg #[.int .i64 0, .int .i64 0, .int .i64 1, .int .i64 1, .int .i64 2, .int .i64 4, .int .i64 0, .int .i64 0]) (.int .i64 3)).run Try.prog w = .ok (.agg #[.int .i64 0, .int .i64 0]) w := fun _ => by kernel_rfl
    have HW : Hid (pb = (win s.size 0 0 && gb)) := by
      show _ = _
      rw [HG.out]
      congr 1
      unfold win
      exact decide_eq_decide.2 (by simp; try omega)
    clear HG hk
    go_enter Try.func149, Try.ntmps149
    go_wp2_with fail
    refine (within100_any _ _ _ _).mono ?_
    rintro e w' ⟨rfl, rfl⟩
    cases hq : win (s.size : Int) 0 0 with
    | false =>
      have HQ := Lib.hid hq
      clear hq hix
      go_wp2_with fail
      go_ret
      exact ⟨ret_bool (by rw [HW.out, HQ.out]; rfl), below_new _ _⟩
    | true =>
      have HQ := Lib.hid hq
      clear hq hix
      have hb0 := Lib.hid (below_new w (.cells #[.int .i64 0, .int .i64 0] 206))
      go_wp2_with fail
      refine (HCF.out _).mono ?_
      rintro e w' ⟨rfl, hb⟩
      have HB := Lib.hid (hb0.out.trans (hb.mono (by simp)))
      clear hb
      go_wp2_with fail
      go_ret
      exact ⟨ret_bool (by rw [HW.out, HQ.out]; simp), HB.out⟩
/-- What is known of the first i sorts. -/
def KN (W : World) (m1 m2 : Nat) (l : List TSort) (i : Nat) : Prop :=
  ∃ D1 D2 : DataW Unit, W.ownsMap Try.prog 9 (plainElem Try.prog 3) m1 i D1 ∧ W.ownsMap Try.prog 9 (plainElem Try.prog 3) m2 i D2 ∧ m1 ≠ m2 ∧
    (∀ s : ByteArray, Maps.has D1 (.string s.data.toList) = hasNm l i s) ∧ (∀ s : ByteArray, Maps.has D2 (.string s.data.toList) = hasTx l i s)
theorem KN.below {W W' : World} {m1 m2 : Nat} {l : List TSort} {i : Nat} (h : KN W m1 m2 l i) (hb : Below W.heap.size W W') : KN W' m1 m2 l i := by
  obtain ⟨D1, D2, h1, h2, h3⟩ := h
  exact ⟨D1, D2, h1.kept (grown_of_below hb none) (by simp), h2.kept (grown_of_below hb none) (by simp), h3⟩
set_option maxRecDepth 100000 in
theorem name_any (m1 m2 : Nat) (l : List TSort) (i : Nat) (s : ByteArray) (w : World) (h : KN w m1 m2 l i) (hs : s.size ≤ 9223372036854775807) :
    Calls Try.prog 146 #[.agg #[.map (some m1), .map (some m2)], .string s] w fun e w' => e = .returned (.int .i64 (if isNm s = false then 4 else if hasNm l i s = true then 5 else 0)) ∧ Below w.heap.size w w' := by
  have hkey : keyOf Try.prog 9 (.string s) = some (.string s.data.toList) := keyOf_string_mk Try.underlying9 (by unfold maxLen; exact hs)
  have hb0 := below_new w (.cells #[.map (some m1), .map (some m2)] 185)
  have HK := Lib.hid (h.below hb0)
  have HB0 := Lib.hid hb0
  have HN := Lib.hid (isName_any s (w.alloc (.cells #[.map (some m1), .map (some m2)] 185)) hs)
  clear h hb0
  have c0 := (Blk.new w 185 #[.map (some m1), .map (some m2)]).cell 0
  have c1 := (Blk.new w 185 #[.map (some m1), .map (some m2)]).cell 1
  have HC := Lib.hid (Blk.new w 185 #[.map (some m1), .map (some m2)])
  generalize isNm s = nb at *
  obtain ⟨hv, hve⟩ : ∃ b, hasNm l i s = b := ⟨_, rfl⟩
  rw [hve]
  have HV := Lib.hid hve
  clear hve
  go_enter Try.func146, Try.ntmps146
  go_wp2_with fail
  refine HN.out.mono ?_
  rintro e w1 ⟨rfl, hb⟩
  have hK1 := HK.out.below hb
  have hC1 := HC.out.below hb HC.out.lt
  have d0 := hC1.cell 0
  have d1 := hC1.cell 1
  have HB1 := Lib.hid (HB0.out.trans (hb.mono (by simp)))
  obtain ⟨D1, D2, o1, -, -, q1, -⟩ := hK1
  have Q1 := Lib.hid ((q1 s).trans HV.out)
  have HKY := Lib.hid hkey
  clear hb hC1 q1 hkey c0 c1
  cases nb with
  | false =>
    go_wp2_with fail
    go_ret
    exact ⟨rfl, HB1.out⟩
  | true =>
    cases hv with
    | false =>
      go_wp2_with ((at_lookup; refine wpList_lookup_own_ok_int _ rfl _ _ 183 rfl 9 3 .i64 law9 Try.underlying183 Try.underlying3 (zero3 _) m1 i D1 rfl o1 _ _ rfl HKY.out ?_; intro c hat hwc; rw [Q1.out]; clear hat hwc))
      go_ret
      exact ⟨rfl, HB1.out⟩
    | true =>
      go_wp2_with ((at_lookup; refine wpList_lookup_own_ok_int _ rfl _ _ 183 rfl 9 3 .i64 law9 Try.underlying183 Try.underlying3 (zero3 _) m1 i D1 rfl o1 _ _ rfl HKY.out ?_; intro c hat hwc; rw [Q1.out]; clear hat hwc))
      go_ret
      exact ⟨rfl, HB1.out⟩
set_option maxRecDepth 100000 in
theorem text_any (m1 m2 : Nat) (l : List TSort) (i : Nat) (kind : Int) (s : ByteArray) (w : World) (h : KN w m1 m2 l i) (hk : 1 ≤ kind ∧ kind ≤ 3) (hs : s.size ≤ 9223372036854775807) :
    Calls Try.prog 147 #[.agg #[.map (some m1), .map (some m2)], .int .i64 kind, .string s] w fun e w' => e = .returned (.int .i64 (if prB kind s = false then 3 else if kind ≠ 3 ∧ hasTx l i s = true then 13 else 0)) ∧ Below w.heap.size w w' := by
  have hkey : keyOf Try.prog 9 (.string s) = some (.string s.data.toList) := keyOf_string_mk Try.underlying9 (by unfold maxLen; exact hs)
  have hb0 := below_new w (.cells #[.map (some m1), .map (some m2)] 185)
  have HK := Lib.hid (h.below hb0)
  have HB0 := Lib.hid hb0
  have HN := Lib.hid (prints_any kind s (w.alloc (.cells #[.map (some m1), .map (some m2)] 185)) hk)
  clear h hb0
  have c0 := (Blk.new w 185 #[.map (some m1), .map (some m2)]).cell 0
  have c1 := (Blk.new w 185 #[.map (some m1), .map (some m2)]).cell 1
  have HC := Lib.hid (Blk.new w 185 #[.map (some m1), .map (some m2)])
  generalize prB kind s = nb at *
  obtain ⟨hv, hve⟩ : ∃ b, hasTx l i s = b := ⟨_, rfl⟩
  rw [hve]
  have HV := Lib.hid hve
  clear hve
  obtain ⟨rv, hrv⟩ : ∃ r : Int, (if nb = false then (3 : Int) else if kind ≠ 3 ∧ hv = true then 13 else 0) = r := ⟨_, rfl⟩
  rw [hrv]
  have HR := Lib.hid hrv
  clear hrv
  go_enter Try.func147, Try.ntmps147
  go_wp2_with fail
  refine HN.out.mono ?_
  rintro e w1 ⟨rfl, hb⟩
  have hK1 := HK.out.below hb
  have hC1 := HC.out.below hb HC.out.lt
  have d0 := hC1.cell 0
  have d1 := hC1.cell 1
  have HB1 := Lib.hid (HB0.out.trans (hb.mono (by simp)))
  obtain ⟨D1, D2, -, o2, -, -, q2⟩ := hK1
  have Q2 := Lib.hid ((q2 s).trans HV.out)
  have HKY := Lib.hid hkey
  clear hb hC1 q2 hkey c0 c1
  cases nb with
  | false =>
    go_wp2_with fail
    go_ret
    exact ⟨ret_int (by rw [← HR.out]; rfl), HB1.out⟩
  | true =>
    cases hv with
    | false =>
      go_wp2_with ((at_lookup; refine wpList_lookup_own_ok_int _ rfl _ _ 183 rfl 9 3 .i64 law9 Try.underlying183 Try.underlying3 (zero3 _) m2 i D2 rfl o2 _ _ rfl HKY.out ?_; intro c hat hwc; rw [Q2.out]; clear hat hwc))
      go_ret
      exact ⟨ret_int (by rw [← HR.out]; simp), HB1.out⟩
    | true =>
      by_cases h3 : kind = 3
      · have h3b := bne_f h3
        have H3 := Lib.hid h3
        clear h3
        go_wp2_with ((at_lookup; refine wpList_lookup_own_ok_int _ rfl _ _ 183 rfl 9 3 .i64 law9 Try.underlying183 Try.underlying3 (zero3 _) m2 i D2 rfl o2 _ _ rfl HKY.out ?_; intro c hat hwc; rw [Q2.out]; clear hat hwc))
        go_ret
        exact ⟨ret_int (by rw [← HR.out, if_neg (by decide), if_neg (fun h => h.1 H3.out)]), HB1.out⟩
      · have h3b := bne_t h3
        have H3 := Lib.hid h3
        clear h3
        go_wp2_with ((at_lookup; refine wpList_lookup_own_ok_int _ rfl _ _ 183 rfl 9 3 .i64 law9 Try.underlying183 Try.underlying3 (zero3 _) m2 i D2 rfl o2 _ _ rfl HKY.out ?_; intro c hat hwc; rw [Q2.out]; clear hat hwc))
        go_ret
        exact ⟨ret_int (by rw [← HR.out, if_neg (by decide), if_pos (by exact ⟨H3.out, by first | rfl | trivial | simp⟩)]), HB1.out⟩
/-- The error of a sort, with what is known of those before. -/
def soE (l : List TSort) (i : Nat) (x : TSort) : Int :=
  if isNm x.name = false then 4
  else if hasNm l i x.name = true then 5
  else if win x.kind 1 3 = false then 15
  else if win x.width 1 100000 = false then 2
  else if prB x.kind x.text = false then 3
  else if x.kind ≠ 3 ∧ hasTx l i x.text = true then 13
  else 0
theorem soErr_eq (l : List TSort) (i : Nat) : soErr l i = soE l i (gs l i) := rfl
@[reducible, go_sem] def scs (x : TSort) : Array Value := #[.string x.name, .string x.text, .int .i64 x.kind, .int .i64 x.width]
set_option maxRecDepth 100000 in
theorem sort_any (m1 m2 : Nat) (l : List TSort) (i : Nat) (x : TSort) (w : World) (h : KN w m1 m2 l i) (hs : x.name.size ≤ 9223372036854775807) (hs2 : x.text.size ≤ 9223372036854775807) :
    Calls Try.prog 141 #[.agg #[.map (some m1), .map (some m2)], .agg (scs x)] w fun e w' => e = .returned (.int .i64 (soE l i x)) ∧ Below w.heap.size w w' := by
  have hb0 := (below_new w (.cells #[.map (some m1), .map (some m2)] 185)).alloc (by simp) (.cells (scs x) 128)
  have HK := Lib.hid (h.below hb0)
  have HB0 := Lib.hid hb0
  obtain ⟨rv, hrv⟩ : ∃ r : Int, soE l i x = r := ⟨_, rfl⟩
  have hdef : (if (if isNm x.name = false then (4 : Int) else if hasNm l i x.name = true then 5 else 0) ≠ 0 then (if isNm x.name = false then (4 : Int) else if hasNm l i x.name = true then 5 else 0) else if win x.kind 1 3 = false then 15
      else if win x.width 1 100000 = false then 2 else (if prB x.kind x.text = false then 3 else if x.kind ≠ 3 ∧ hasTx l i x.text = true then 13 else 0)) = rv := by
    rw [← hrv]
    unfold soE
    by_cases h1 : isNm x.name = false
    · rw [if_pos h1, if_pos (by decide), if_pos h1]
    · rw [if_neg h1, if_neg h1]
      by_cases h2 : hasNm l i x.name = true
      · rw [if_pos h2, if_pos (by decide), if_pos h2]
      · rw [if_neg h2, if_neg (by decide), if_neg h2]
  have HN : Hid (∀ W, KN W m1 m2 l i → Calls Try.prog 146 #[.agg #[.map (some m1), .map (some m2)], .string x.name] W fun e w' => e = .returned (.int .i64 (if isNm x.name = false then 4 else if hasNm l i x.name = true then 5 else 0)) ∧ Below W.heap.size W w') := (show ∀ W, _ from fun W hW => name_any m1 m2 l i x.name W hW hs)
  have HT : Hid (∀ W, KN W m1 m2 l i → (1 ≤ x.kind ∧ x.kind ≤ 3) → Calls Try.prog 147 #[.agg #[.map (some m1), .map (some m2)], .int .i64 x.kind, .string x.text] W fun e w' => e = .returned (.int .i64 (if prB x.kind x.text = false then 3 else if x.kind ≠ 3 ∧ hasTx l i x.text = true then 13 else 0)) ∧ Below W.heap.size W w') := (show ∀ W, _ from fun W hW hk => text_any m1 m2 l i x.kind x.text W hW hk hs2)
  rw [hrv]
  have hbk1 := (Blk.new w 185 #[.map (some m1), .map (some m2)]).below (below_new _ (.cells (scs x) 128)) (by simp)
  have hbk2 := Blk.new (w.alloc (.cells #[.map (some m1), .map (some m2)] 185)) 128 (scs x)
  have hsz : (w.alloc (.cells #[.map (some m1), .map (some m2)] 185)).heap.size = w.heap.size + 1 := by simp
  rw [hsz] at hbk2
  have HC1 := Lib.hid hbk1
  have HC2 := Lib.hid hbk2
  generalize (if isNm x.name = false then (4 : Int) else if hasNm l i x.name = true then 5 else 0) = e1 at *
  generalize (if prB x.kind x.text = false then (3 : Int) else if x.kind ≠ 3 ∧ hasTx l i x.text = true then 13 else 0) = e2 at *
  have HD := Lib.hid hdef
  clear hrv hdef hb0 h hbk1 hbk2 hsz hs hs2
  go_enter Try.func141, Try.ntmps141
  go_wp2_with fail
  generalize (w.alloc (.cells #[.map (some m1), .map (some m2)] 185)).alloc (.cells (scs x) 128) = W0 at *
  refine (HN.out _ HK.out).mono ?_
  rintro e w1 ⟨rfl, hb⟩
  have HK1 := Lib.hid (HK.out.below hb)
  have hc1 := HC1.out.below hb HC1.out.lt
  have hc2 := HC2.out.below hb HC2.out.lt
  have c0 := hc1.cell 0
  have c1 := hc1.cell 1
  have d0 := hc2.cell 0
  have d1 := hc2.cell 1
  have d2 := hc2.cell 2
  have d3 := hc2.cell 3
  have HB1 := Lib.hid (HB0.out.trans (hb.mono HB0.out.size))
  clear hb hc1 hc2 HN HK
  by_cases he : e1 = 0
  · have heb := bne_f he
    have HE := Lib.hid he
    clear he
    go_wp2_with fail
    refine (within100_any _ _ _ _).mono ?_
    rintro e w' ⟨rfl, rfl⟩
    cases hq : win x.kind 1 3 with
    | false =>
      have HQ := Lib.hid hq
      clear hq
      go_wp2_with fail
      go_ret
      exact ⟨ret_int (by rw [← HD.out, if_neg (fun h => h HE.out), if_pos HQ.out]), HB1.out⟩
    | true =>
      have HQ := Lib.hid hq
      clear hq
      go_wp2_with fail
      refine (within100_any _ _ _ _).mono ?_
      rintro e w' ⟨rfl, rfl⟩
      cases hq2 : win x.width 1 100000 with
      | false =>
        have HQ2 := Lib.hid hq2
        clear hq2
        go_wp2_with fail
        go_ret
        exact ⟨ret_int (by rw [← HD.out, if_neg (fun h => h HE.out), if_neg (by rw [HQ.out]; decide), if_pos HQ2.out]), HB1.out⟩
      | true =>
        have HQ2 := Lib.hid hq2
        clear hq2
        go_wp2_with fail
        refine (HT.out _ HK1.out (win_t.1 HQ.out)).mono ?_
        rintro e w' ⟨rfl, hb⟩
        have HB2 := Lib.hid (HB1.out.trans (hb.mono HB1.out.size))
        clear hb
        go_wp2_with fail
        go_ret
        exact ⟨ret_int (by rw [← HD.out, if_neg (fun h => h HE.out), if_neg (by rw [HQ.out]; decide), if_neg (by rw [HQ2.out]; decide)]), HB2.out⟩
  · have heb := bne_t he
    have HE := Lib.hid he
    clear he
    go_wp2_with fail
    go_ret
    exact ⟨ret_int (by rw [← HD.out, if_pos HE.out]), HB1.out⟩
end Go.Proofs.Ytefjhhgfkdkfaaa
