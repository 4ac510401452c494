/- gaps: how many numbers are not 0. -/
import Derived.Test.YtlfeoofchebbkaaDoorGck
import Derived.Lib.SliceRun
namespace Go.Proofs.YtlfeoofchebbkaaDoor
set_option linter.unusedSimpArgs false
set_option linter.unusedVariables false
open Go.RowKit
theorem isZero_any (x : Int) (w : World) : Calls Tryd.prog 45 #[.int .i64 x] w fun e w' => e = .returned (.bool (x == 0)) ∧ w = w' := by
  go_enter Tryd.func45, Tryd.ntmps45
  go_wp2_with fail
  go_ret
  exact ⟨rfl, rfl⟩
theorem enters45 : ∀ (args : Array Value) (w : World), (callFunc 45 args).run Tryd.prog w = .ok (.enter 45 args) w := enters_of' Tryd.func45 (by kernel_rfl) rfl
set_option maxRecDepth 100000 in
theorem cloneI_any (zs : List Int) (a : Addr) (b off c : Nat) (w : World) (hA : Lies (some a) zs.length w.heap.size b off) (hz : ZsAt w b off zs) (hm : zs.length ≤ 1000000) :
    Calls Tryd.prog 44 #[.slice (some a) zs.length c] w fun e w' => ∃ v, e = .returned v ∧ w'.ownsRow w.heap.size 3 1 v zs.length (zs.map (Value.int .i64)) ∧ Below w.heap.size w w' := by
  obtain ⟨i0, hi0, hz0, hz1, hz2⟩ := info_parts Tryd.info3'
  have hh : ∀ j, j < zs.length * 1 → w.cell? ⟨b, off + j, none⟩ = (zs.map (Value.int .i64))[j]? := fun j hj => by
    rw [hz j (by omega), List.getElem?_map, List.getElem?_eq_getElem (by omega)]
    simp [gz, List.getD_eq_getElem?_getD, List.getElem?_eq_getElem (show j < zs.length by omega)]
  have HH := Lib.hid hh
  clear hz hh
  have heq : ∀ W, (binOp .eql 22 (.slice (some a) zs.length c) (.slice none 0 0)).run Tryd.prog W = .ok (.bool false) W := fun W => by
    have := Lib.run_eql_slice_nil W 22 3 (some a) zs.length c 0 0 Tryd.underlying22
    simpa using this
  go_enter Tryd.func44, Tryd.ntmps44
  go_wp2_with ((at_builtin
                refine wpList_copy rfl (.tmp 5) (.tmp 6) 22 rfl 3 i0 _ 1 8 Tryd.underlying22 hi0 hz0 hz1 hz2 rfl (by omega) rfl rfl (some a) b off zs.length c _ rfl (by simp) hA HH.out (fun u hu => by obtain ⟨x, _, rfl⟩ := List.mem_map.1 hu; rfl) (by simp only [maxLen]; omega) (by omega) ?_
                intro v1 w1 hown1 hg1
                have HO := Lib.hid hown1
                have HG := Lib.hid hg1
                clear hown1 hg1))
  go_ret
  exact ⟨_, rfl, HO.out, HG.out⟩
theorem below_setCells {B : Nat} {w : World} (g : Nat) (hB : B ≤ g) : ∀ (vs : List Value) (s : Nat) (w' : World), Below B w w' → Below B w (w'.setCells g s vs)
  | [], _, _, h => h
  | v :: r, s, w', h => below_setCells g hB r (s + 1) _ (h.setCell (p := ⟨g, s, none⟩) hB v)
theorem gapN_all {zs : List Int} : ∀ k, (∀ j, j < k → (gz zs j == 0) = false) → Grid.gapN zs k = k
  | 0, _ => rfl
  | k + 1, h => by
    have h1 := h k (by omega)
    rw [Grid.gapN, gapN_all k fun j hj => h j (by omega), if_neg (by simpa using h1)]
theorem first_hit {pr : Nat → Bool} : ∀ n, (¬ ∀ j, j < n → pr j = false) → ∃ k, k < n ∧ pr k = true ∧ ∀ j, j < k → pr j = false
  | 0, h => absurd (fun j hj => absurd hj (Nat.not_lt_zero _)) h
  | n + 1, h => by
    by_cases e : ∀ j, j < n → pr j = false
    · refine ⟨n, by omega, ?_, e⟩
      cases hp : pr n with
      | true => rfl
      | false =>
        refine absurd (fun j hj => ?_) h
        by_cases q : j = n
        · subst q; exact hp
        · exact e j (by omega)
    · obtain ⟨k, h1, h2, h3⟩ := first_hit n e
      exact ⟨k, by omega, h2, h3⟩
set_option maxRecDepth 100000 in
set_option maxHeartbeats 2000000 in
theorem delete_any (zs : List Int) (g c B : Nat) (w : World) (R : w.ownsRow B 3 1 (.slice (some ⟨g, 0, none⟩) zs.length c) zs.length (zs.map (Value.int .i64))) (hB : B ≤ g) (hg : g < w.heap.size) (hc : zs.length ≤ c) (hm : zs.length ≤ 1000000) :
    Calls Tryd.prog 43 #[.slice (some ⟨g, 0, none⟩) zs.length c, .func (.func 45) #[] #[]] w fun e w' => e = .returned (.slice (some ⟨g, 0, none⟩) (Grid.gapN zs zs.length) c) ∧ Below B w w' := by
  have hz : ZsAt w g 0 zs := fun j hj => by
    rw [Nat.zero_add, R.cellAt j (by omega), List.getElem?_map, List.getElem?_eq_getElem hj]
    simp [gz, List.getD_eq_getElem?_getD, List.getElem?_eq_getElem hj]
  have hidx := indexI_any 45 #[] (some ⟨g, 0, none⟩) g 0 zs.length c zs (fun x => x == 0) w (fun W j hbW hj => (isZero_any _ W).mono fun _ _ ⟨q1, q2⟩ => ⟨q1, by rw [← q2]; exact hbW⟩) rfl hm (fun _ => ⟨rfl, hg⟩) enters45 hz
  by_cases hall : ∀ j, j < zs.length → (gz zs j == 0) = false
  · rw [idx_none (pr := fun j => gz zs j == 0) hall] at hidx
    rw [gapN_all _ hall]
    clear hall hz R
    generalize zs.length = n at *
    go_enter Tryd.func43, Tryd.ntmps43
    go_wp2_with fail
    refine hidx.mono ?_
    rintro e w1 ⟨rfl, hb⟩
    have HB := Lib.hid (hb.mono (show B ≤ w.heap.size by omega))
    clear hb hidx
    go_wp2_with fail
    go_ret
    exact ⟨rfl, HB.out⟩
  · obtain ⟨k, hk, hkz, hlow⟩ := first_hit _ hall
    rw [idx_hit (pr := fun j => gz zs j == 0) hkz hlow hk] at hidx
    have hgk : Grid.gapN zs (k + 1) = k := by rw [Grid.gapN, gapN_all _ hlow, if_pos (by simpa using hkz)]; rfl
    have HGK := Lib.hid hgk
    have R0 := Lib.hid R
    have HGS : Hid (∀ j, Grid.gapN zs (j + 1) = Grid.gapN zs j + if gz zs j = 0 then 0 else 1) := (show ∀ j, _ from fun j => rfl)
    clear hall hz R hkz hlow hgk
    have HN : Hid (∃ n, n = zs.length) := (show ∃ n, _ from ⟨_, rfl⟩)
    generalize hn : zs.length = n at *
    have HNN := Lib.hid hn
    clear hn HN
    have hkm : ((k : Int) == -1) = false := beq_eq_false_iff_ne.2 (by omega)
    have hkw : IntKind.i64.wrap ((k : Int) + 1) = (k : Int) + 1 := IntWalk.i64_in _ (by omega)
    go_enter Tryd.func43, Tryd.ntmps43
    go_wp2_with fail
    refine hidx.mono ?_
    rintro e w1 ⟨rfl, hb⟩
    have hsz1 := hb.size
    have HB := Lib.hid (hb.mono (show B ≤ w.heap.size by omega))
    have R1 : Hid (w1.ownsRow B 3 1 (.slice (some ⟨g, 0, none⟩) n c) n (zs.map (Value.int .i64))) := R0.out.kept (row := none) ⟨hb.os, hb.tape, hb.output, hb.size, fun q hq _ => hb.block q hq⟩ (.inr (by simp [Value.ownBlock]))
    clear hb hidx R0
    go_wp2_with fail
    go_loopg [5, 6] n (fun gg s5 s6 wr => ∃ (i j : Nat) (xs : List Int), i < j ∧ j ≤ n ∧ n - j ≤ gg ∧ s5 = .int .i64 i ∧ s6 = .int .i64 j ∧ Hid (i = Grid.gapN zs j) ∧ Hid (xs.length = n ∧ ∀ t, j ≤ t → gz xs t = gz zs t) ∧ Hid (wr.ownsRow B 3 1 (.slice (some ⟨g, 0, none⟩) n c) n (xs.map (Value.int .i64))) ∧ Hid (Below B w wr))
    case atStart => exact ⟨k, k + 1, zs, by omega, by omega, by omega, rfl, by go_num, HGK.out.symm, (show _ ∧ _ from ⟨HNN.out, fun _ _ => rfl⟩), R1.out, HB.out⟩
    case round =>
      obtain ⟨i, j, xs, hij, hjn, hgj, rfl, rfl, HI, HX, R2, HB2⟩ := hrel
      have hxl := HX.out.1
      have hcell : ∀ t, t < n → wr.cell? ⟨g, t, none⟩ = some (.int .i64 (gz xs t)) := fun t ht => by
        rw [R2.out.cellAt t (by omega), List.getElem?_map, List.getElem?_eq_getElem (by omega)]
        simp [gz, List.getD_eq_getElem?_getD, List.getElem?_eq_getElem (show t < xs.length by omega)]
      by_cases hlt : j < n
      · have hltz : (j : Int) < (n : Int) := by omega
        have hj0 : (0 : Int) ≤ (j : Int) := by omega
        have hi0 : (0 : Int) ≤ (i : Int) := by omega
        have hin : (i : Int) < (n : Int) := by omega
        have cj := hcell j hlt
        rw [HX.out.2 j (Nat.le_refl _)] at cj
        have ci := hcell i (by omega)
        have fi := R2.out.frozenAt i
        have HST : Hid ((wr.setCell ⟨g, i, none⟩ (.int .i64 (gz zs j))).ownsRow B 3 1 (.slice (some ⟨g, 0, none⟩) n c) n ((xs.set i (gz zs j)).map (Value.int .i64))) := by
          show World.ownsRow _ _ _ _ _ _ _
          rw [List.map_set]
          exact (R2.out.stored i (.int .i64 (gz zs j))).1
        have HX3 : Hid ((xs.set i (gz zs j)).length = n ∧ ∀ t, j + 1 ≤ t → gz (xs.set i (gz zs j)) t = gz zs t) := (show _ ∧ _ from ⟨by rw [List.length_set]; exact hxl, fun t ht => by
          rw [← HX.out.2 t (by omega)]
          simp [gz, List.getD_eq_getElem?_getD, List.getElem?_set, show ¬ i = t by omega]⟩)
        have HX4 : Hid (xs.length = n ∧ ∀ t, j + 1 ≤ t → gz xs t = gz zs t) := (show _ ∧ _ from ⟨hxl, fun t ht => HX.out.2 t (by omega)⟩)
        have HG2 := Lib.hid (HGS.out j)
        clear HX hcell hxl
        generalize gz zs j = u at *
        generalize gz xs i = old at *
        by_cases hu : u = 0
        · have hub : (u == 0) = true := by simp [hu]
          have HI2 : Hid (i = Grid.gapN zs (j + 1)) := by
            show _ = _
            rw [HG2.out, if_pos hu, ← HI.out]; rfl
          clear hu HG2
          go_wp2_with fail
          refine (isZero_any u wr).mono ?_
          rintro e w2 ⟨rfl, rfl⟩
          go_wp2_with fail
          go_roundg (n - (j + 1))
          case measure => omega
          case rel => exact ⟨i, j + 1, xs, by omega, by omega, by omega, rfl, by go_num, HI2.out, HX4.out, R2.out, HB2.out⟩
        · have hub : (u == 0) = false := by simp [hu]
          have HI2 : Hid (i + 1 = Grid.gapN zs (j + 1)) := by
            show _ = _
            rw [HG2.out, if_neg hu, ← HI.out]
          clear hu HG2
          go_wp2_with fail
          refine (isZero_any u wr).mono ?_
          rintro e w2 ⟨rfl, rfl⟩
          go_wp2_with fail
          go_roundg (n - (j + 1))
          case measure => omega
          case rel => exact ⟨i + 1, j + 1, _, by omega, by omega, by omega, by go_num, by go_num, HI2.out, HX3.out, HST.out, HB2.out.setCell (p := ⟨g, i, none⟩) hB _⟩
      · have hltz : ¬ (j : Int) < (n : Int) := by omega
        have he : j = n := by omega
        subst he
        have hcl : ∀ ty, (Builtin.clear_ #[22] ty #[.slice (some ⟨g, 0 + i, none⟩) (j - i) (c - i)]).run Tryd.prog wr = .ok (.tuple #[]) (wr.setCells g (0 + i) (List.replicate (j - i) (.int .i64 0))) :=
          fun ty => Lib.run_clear_slice wr 22 3 ty (.int .i64 0) Tryd.underlying22 Tryd.zeroValue3 rfl rfl g (0 + i) _ _ (by omega) (fun t ht => by rw [show 0 + i + t = i + t by omega, hcell (i + t) (by omega)]; rfl) (fun t ht => R2.out.frozenAt _)
        have HBC := Lib.hid (below_setCells g hB (List.replicate (j - i) (.int .i64 0)) (0 + i) wr HB2.out)
        have HI2 : Hid (Grid.gapN zs j = i) := HI.out.symm
        clear hcell HX R2 HB2 hxl HI
        rw [Nat.zero_add] at hcl HBC
        go_wp2_with fail
        go_ret
        exact ⟨congrArg (fun m => Ending.returned (.slice (some ⟨g, 0, none⟩) m c)) HI2.out.symm, HBC.out⟩
set_option maxRecDepth 100000 in
theorem gaps_any (zs : List Int) (A : Option Addr) (b off c : Nat) (w : World) (hA : Lies A zs.length w.heap.size b off) (hz : ZsAt w b off zs) (h0 : 0 < zs.length) (hm : zs.length ≤ 1000000) :
    Calls Tryd.prog 17 #[.slice A zs.length c] w fun e w' => e = .returned (.int .i64 (Grid.gapN zs zs.length)) ∧ Below w.heap.size w w' := by
  obtain ⟨a, rfl⟩ : ∃ a, A = some a := ⟨_, (hA h0).1⟩
  have hcl := cloneI_any zs a b off c w hA hz hm
  have hdel := fun g c' w1 R hB hg hc => delete_any zs g c' w.heap.size w1 R hB hg hc hm
  have HD := Lib.hid hdel
  clear hA hz hdel hm
  have HGE : Hid ((Grid.gapN zs zs.length : Int) = (Grid.gapN zs zs.length : Int)) := rfl
  generalize hgn : Grid.gapN zs zs.length = gn at *
  go_enter Tryd.func17, Tryd.ntmps17
  go_wp2_with fail
  refine hcl.mono ?_
  rintro e w1 ⟨v, rfl, hown, hb⟩
  obtain ⟨g, cap, rfl, hg1, hg2⟩ := hown.form h0
  have hcap : zs.length ≤ cap := by
    rcases hown.2 with ⟨hv, _⟩ | ⟨g', cap', cur, hv, _, _, hcc, _⟩
    · cases hv
    · cases hv; exact hcc
  have hdel := HD.out g cap w1 hown hg1 hg2 hcap
  have HB := Lib.hid hb
  clear hown hb HD hcl
  go_wp2_with fail
  refine hdel.mono ?_
  rintro e w2 ⟨rfl, hb2⟩
  have HB2 := Lib.hid (HB.out.trans hb2)
  clear hb2 hdel
  go_wp2_with fail
  go_ret
  exact ⟨rfl, HB2.out⟩
end Go.Proofs.YtlfeoofchebbkaaDoor
