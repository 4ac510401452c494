/- slices.IndexFunc, ContainsFunc, Grow and Concat of numbers; checkGrid's closures. -/
import Derived.Test.YtlfeoofchebbkaaDoorCps
import Derived.Lib.AppendZerosOnto
import Derived.Deep.AppendLies
namespace Go.Proofs.YtlfeoofchebbkaaDoor
set_option linter.unusedSimpArgs false
set_option linter.unusedVariables false
open Go.RowKit
theorem add_at (b o j : Nat) : (⟨b, o, none⟩ : Addr).add j = ⟨b, o + j, none⟩ := by
  unfold Addr.add
  by_cases e : j = 0
  · rw [if_pos e, e]; rfl
  · rw [if_neg e]
def PredI (g : Nat) (lb : Array Value) (zs : List Int) (n : Nat) (pr : Int → Bool) (w : World) : Prop :=
  ∀ (W : World) (j : Nat), Below w.heap.size w W → j < n → Calls Tryd.prog g (#[.int .i64 (gz zs j)] ++ lb) W fun e w' => e = .returned (.bool (pr (gz zs j))) ∧ Below w.heap.size w w'
theorem indexI_any (g : Nat) (lb : Array Value) (A : Option Addr) (b off n c : Nat) (zs : List Int) (pr : Int → Bool) (w : World) (hp : PredI g lb zs n pr w) (hn : n = zs.length) (hbig : n ≤ 1000000) (hA : Lies A n w.heap.size b off)
    (eg : ∀ args w, (callFunc g args).run Tryd.prog w = .ok (.enter g args) w) (hc : ZsAt w b off zs) :
    Calls Tryd.prog 56 #[.slice A n c, .func (.func g) #[] lb] w fun e w' => e = .returned (.int .i64 (idx (fun j => pr (gz zs j)) n)) ∧ Below w.heap.size w w' := by
  have HN := Lib.hid hn
  clear hn
  go_enter Tryd.func56, Tryd.ntmps56
  go_wp2
  go_loopg [5, 8] n (fun gg _ s8 wr => ∃ kk : Nat, kk ≤ n ∧ n - kk ≤ gg ∧ s8 = .int .i64 kk ∧ Aside (Below w.heap.size w wr) ∧ Aside (∀ j, j < kk → pr (gz zs j) = false))
  case atStart => exact ⟨0, Nat.zero_le _, by omega, rfl, Below.refl _ w, fun j hj => absurd hj (Nat.not_lt_zero _)⟩
  case round =>
    obtain ⟨kk, hkk, hg, rfl, BW, A1⟩ := hrel
    by_cases hlt : kk < n
    · have hltz : (kk : Int) < (n : Int) := by omega
      have hk0 : (0 : Int) ≤ (kk : Int) := by omega
      obtain ⟨rfl, hb⟩ := hA (by omega)
      have c0 : wr.cell? ⟨b, off + kk, none⟩ = some (.int .i64 (gz zs kk)) := (hc.below BW.out hb) kk (by have := HN.out; omega)
      have hcall := hp wr kk BW.out hlt
      clear hc hp
      generalize hy : gz zs kk = y at *
      have B := Lib.hid hy
      clear hy
      cases hq : pr y with
      | true =>
        rw [hq] at hcall
        have HQ := Lib.hid hq
        clear hq
        go_wp2_with ((with_reducible refine hcall.mono ?_); rintro e w' ⟨rfl, hb'⟩)
        go_ret
        refine ⟨?_, hb'⟩
        have h1 : pr (gz zs kk) = true := by rw [B.out]; exact HQ.out
        rw [idx_hit (pr := fun j => pr (gz zs j)) h1 A1.out hlt]
        rfl
      | false =>
        rw [hq] at hcall
        have HQ := Lib.hid hq
        clear hq
        go_wp2_with ((with_reducible refine hcall.mono ?_); rintro e w' ⟨rfl, hb'⟩)
        go_roundg (n - (kk + 1))
        case measure => omega
        case rel =>
          refine ⟨kk + 1, by omega, by omega, by go_num, hb', (show Aside _ from fun j hj => ?_)⟩
          by_cases e : j = kk
          · subst e
            rw [B.out]; exact HQ.out
          · exact A1.out j (by omega)
    · have hltz : ¬ (kk : Int) < (n : Int) := by omega
      have : kk = n := by omega
      subst this
      go_wp2
      go_ret
      refine ⟨?_, BW.out⟩
      rw [idx_none (pr := fun j => pr (gz zs j)) A1.out]
      rfl
theorem containsI_any (g : Nat) (lb : Array Value) (A : Option Addr) (b off n c : Nat) (zs : List Int) (pr : Int → Bool) (w : World) (hp : PredI g lb zs n pr w) (hn : n = zs.length) (hbig : n ≤ 1000000) (hA : Lies A n w.heap.size b off)
    (eg : ∀ args w, (callFunc g args).run Tryd.prog w = .ok (.enter g args) w) (hc : ZsAt w b off zs) :
    Calls Tryd.prog 39 #[.slice A n c, .func (.func g) #[] lb] w fun e w' => e = .returned (.bool (decide (0 ≤ idx (fun j => pr (gz zs j)) n))) ∧ Below w.heap.size w w' := by
  have hcall := indexI_any g lb A b off n c zs pr w hp hn hbig hA eg hc
  clear hp hn hc hA hbig eg
  go_enter Tryd.func39, Tryd.ntmps39
  go_wp2_with fail
  refine hcall.mono ?_
  rintro e w' ⟨rfl, hb'⟩
  go_wp2_with fail
  go_ret
  exact ⟨rfl, hb'⟩
theorem Tryd.info3' : (Tryd.prog.info? 3).map (fun i => (i.zero, i.size, i.bytes)) = some (some (.int .i64 0), 1, 8) := by kernel_rfl
set_option maxRecDepth 100000 in
theorem grow_any (n : Nat) (w : World) (h0 : 0 < n) (hn : n ≤ 1000000) : Calls Tryd.prog 57 #[.slice none 0 0, .int .i64 n] w fun e w' => ∃ v, e = .returned v ∧ w'.ownsRow w.heap.size 3 1 v 0 [] ∧ Below w.heap.size w w' := by
  obtain ⟨i0, hi0, hz0, hz1, hz2⟩ := info_parts Tryd.info3'
  have hrz := fun ty => Lib.run_append_nil_zeros w 22 3 ty 3 i0 (.int .i64 0) .i64 .i64 Tryd.underlying22 Tryd.underlying3 hi0 hz0 n h0 (by omega) (by omega) (by rw [hz2]; omega)
  have hGn : n ≤ grownCap w n 0 3 := grownCap_ge w _ _ _
  have hG63 : grownCap w n 0 3 ≤ maxLen := grownCap_le_maxLen w n 0 3 (by unfold maxLen; omega)
  generalize grownCap w n 0 3 = G at *
  have hs : (Builtin.zeroCells (Value.int IntKind.i64 0).cells n ++ Builtin.zeroCells (Value.int IntKind.i64 0).cells (G - n)).size = G * 1 := by
    rw [Array.size_append, size_zeroCells, size_zeroCells]
    simp [Value.cells]
    omega
  generalize Builtin.zeroCells (Value.int IntKind.i64 0).cells n ++ Builtin.zeroCells (Value.int IntKind.i64 0).cells (G - n) = cur at *
  have hown : (w.drew.alloc (.cells cur 3)).ownsRow w.heap.size 3 1 (.slice (some ⟨w.heap.size, 0, none⟩) 0 G) 0 [] := ⟨rfl, .inr ⟨w.heap.size, G, cur, rfl, Nat.le_refl _, heap_alloc_new w.drew _, Nat.zero_le _, hG63, hs, by simp⟩⟩
  have hB : Below w.heap.size w (w.drew.alloc (.cells cur 3)) := (Below.refl _ _).drew.alloc (Nat.le_refl _) _
  have HO := Lib.hid hown
  have HB := Lib.hid hB
  clear hown hB hs
  have hnp : ¬ ((n : Int) < 0) := by omega
  have hnq : (n : Int) > 0 := by omega
  unfold maxLen at hG63
  go_enter Tryd.func57, Tryd.ntmps57
  go_wp2_with (at_builtin; refine Lib.wpList_append_run _ rfl _ _ _ _ rfl _ _ rfl rfl _ _ (hrz _) ?_)
  go_ret
  exact ⟨_, rfl, HO.out, HB.out⟩
set_option maxRecDepth 100000 in
theorem concat2_any (l1 l2 : List Int) (A1 A2 : Option Addr) (b b1 o1 c1 b2 o2 c2 : Nat) (w : World) (h1 : w.cell? ⟨b, 0, none⟩ = some (.slice A1 l1.length c1)) (h2 : w.cell? ⟨b, 1, none⟩ = some (.slice A2 l2.length c2))
    (hA1 : Lies A1 l1.length w.heap.size b1 o1) (hz1 : ZsAt w b1 o1 l1) (hA2 : Lies A2 l2.length w.heap.size b2 o2) (hz2 : ZsAt w b2 o2 l2) (n1 : 0 < l1.length) (n2 : 0 < l2.length) (m1 : l1.length ≤ 1000) (m2 : l2.length ≤ 1000) :
    Calls Tryd.prog 40 #[.slice (some ⟨b, 0, none⟩) 2 2] w fun e w' => ∃ v, e = .returned v ∧ w'.ownsRow w.heap.size 3 1 v (l1.length + l2.length) ((l1 ++ l2).map (Value.int .i64)) ∧ Below w.heap.size w w' := by
  obtain ⟨i0, hi0, hz0, hs0, hs1⟩ := info_parts Tryd.info3'
  have hg := grow_any (l1.length + l2.length) w (by omega) (by omega)
  rw [Int.natCast_add] at hg
  have hbz : b < w.heap.size := block_lt_of_cell h1
  obtain ⟨rfl, k1⟩ := hA1 n1
  obtain ⟨rfl, k2⟩ := hA2 n2
  have HZ1 : Hid (∀ W, Below w.heap.size w W → ∀ j u, (l1.map (Value.int .i64))[j]? = some u → W.cell? ((⟨b1, o1, none⟩ : Addr).add j) = some u) := (show ∀ W, _ from fun W hW j u hu => by
    rw [List.getElem?_map] at hu
    obtain ⟨x, hx, rfl⟩ := Option.map_eq_some_iff.1 hu
    have hj := (List.getElem?_eq_some_iff.1 hx).1
    have := (hz1.below hW k1) j hj
    rw [show gz l1 j = x by unfold gz; simp [List.getD_eq_getElem?_getD, hx]] at this
    rw [add_at]; exact this)
  have HZ2 : Hid (∀ W, Below w.heap.size w W → ∀ j u, (l2.map (Value.int .i64))[j]? = some u → W.cell? ((⟨b2, o2, none⟩ : Addr).add j) = some u) := (show ∀ W, _ from fun W hW j u hu => by
    rw [List.getElem?_map] at hu
    obtain ⟨x, hx, rfl⟩ := Option.map_eq_some_iff.1 hu
    have hj := (List.getElem?_eq_some_iff.1 hx).1
    have := (hz2.below hW k2) j hj
    rw [show gz l2 j = x by unfold gz; simp [List.getD_eq_getElem?_getD, hx]] at this
    rw [add_at]; exact this)
  clear hz1 hz2 hA1 hA2
  have HM : Hid ((l1.map (Value.int .i64)).length = l1.length * 1 ∧ (l2.map (Value.int .i64)).length = l2.length * 1 ∧ (∀ u ∈ l1.map (Value.int .i64), u.oneCell' = true) ∧ ∀ u ∈ l2.map (Value.int .i64), u.oneCell' = true) :=
    (show _ ∧ _ from ⟨by simp, by simp, fun u hu => by obtain ⟨x, _, rfl⟩ := List.mem_map.1 hu; rfl, fun u hu => by obtain ⟨x, _, rfl⟩ := List.mem_map.1 hu; rfl⟩)
  rw [List.map_append]
  generalize l1.map (Value.int .i64) = x1 at *
  generalize l2.map (Value.int .i64) = x2 at *
  generalize l1.length = p1 at *
  generalize l2.length = p2 at *
  have q1 : IntKind.i64.wrap ((0 : Int) + (p1 : Int)) = (p1 : Int) := by rw [Int.zero_add]; exact IntWalk.i64_in _ (by omega)
  have q2 : IntKind.i64.wrap ((p1 : Int) + (p2 : Int)) = ((p1 + p2 : Nat) : Int) := by rw [IntWalk.i64_in _ (by omega)]; omega
  have q3 : ¬ ((p1 : Int) < 0) := by omega
  have q4 : ¬ (((p1 + p2 : Nat) : Int) < 0) := by omega
  go_enter Tryd.func40, Tryd.ntmps40
  go_wp2_with fail
  refine wp_loop_rounds 3 ?_
  rw [rounds_succ]
  go_wp2_with fail
  rw [rounds_succ]
  go_wp2_with fail
  rw [rounds_succ]
  go_wp2_with fail
  refine hg.mono ?_
  rintro e w1 ⟨v, rfl, hown, hb⟩
  have e1 : w1.cell? ⟨b, 0, none⟩ = some (.slice (some ⟨b1, o1, none⟩) p1 c1) := (hb.cell (p := ⟨b, 0, none⟩) hbz).trans h1
  have e2 : w1.cell? ⟨b, 1, none⟩ = some (.slice (some ⟨b2, o2, none⟩) p2 c2) := (hb.cell (p := ⟨b, 1, none⟩) hbz).trans h2
  have HO := Lib.hid hown
  have HB := Lib.hid hb
  have hzz := hb.size
  clear hown hb h1 h2 hg
  go_wp2_with fail
  refine wp_loop_rounds 3 ?_
  rw [rounds_succ]
  go_wp2_with ((at_builtin
                refine wpList_append_lies _ rfl (.tmp 31) (.tmp 32) 22 (by rfl) w.heap.size 3 i0 _ 1 8 Tryd.underlying22 hi0 hz0 hs0 hs1 rfl (by omega) v 0 _ (by rfl) HO.out ⟨b1, o1, none⟩ p1 c1 x1 (by rfl) HM.out.1 (HZ1.out _ HB.out) HM.out.2.2.1 n1 (by simp only [maxLen]; omega) (by omega) hzz _ rfl ?_
                intro g1 cap1 w2 hown2 hgr2 hat2 hlt2))
  have HO2 := Lib.hid hown2
  have hb2 := HB.out.grown hgr2 hzz (fun t ht => (HO.out.lt t ht).1)
  have e3 : w2.cell? ⟨b, 1, none⟩ = some (.slice (some ⟨b2, o2, none⟩) p2 c2) := by
    have hs : w1.heap.size ≤ w2.heap.size := hgr2.size
    exact (hb2.cell (p := ⟨b, 1, none⟩) hbz).trans ((HB.out.cell (p := ⟨b, 1, none⟩) hbz).symm.trans e2)
  have HB2 := Lib.hid hb2
  have hz2 := hb2.size
  clear hown2 hgr2 hat2 hb2 e1 e2
  rw [rounds_succ]
  go_wp2_with ((at_builtin
                refine wpList_append_lies _ rfl (.tmp 31) (.tmp 32) 22 (by rfl) w.heap.size 3 i0 _ 1 8 Tryd.underlying22 hi0 hz0 hs0 hs1 rfl (by omega) (.slice (some ⟨g1, 0, none⟩) p1 cap1) p1 x1 (by rfl) (by have := HO2.out; rw [Nat.zero_add, List.nil_append] at this; exact this) ⟨b2, o2, none⟩ p2 c2 x2 (by rfl) HM.out.2.1 (HZ2.out _ HB2.out) HM.out.2.2.2 n2 (by simp only [maxLen]; omega) (by omega) hz2 _ rfl ?_
                intro g2 cap2 w3 hown3 hgr3 hat3 hlt3))
  have HO3 := Lib.hid hown3
  have HB3 := Lib.hid (HB2.out.grown hgr3 hz2 (fun t ht => (HO2.out.lt t ht).1))
  clear hown3 hgr3 hat3 e3
  rw [rounds_succ]
  go_wp2_with fail
  go_ret
  exact ⟨_, rfl, HO3.out, HB3.out⟩
end Go.Proofs.YtlfeoofchebbkaaDoor
