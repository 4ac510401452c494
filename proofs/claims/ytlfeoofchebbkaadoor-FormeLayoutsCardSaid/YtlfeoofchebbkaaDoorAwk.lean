/- The examples of the law: awake. -/
import Derived.Test.YtlfeoofchebbkaaDoorCps
namespace Go.Proofs.YtlfeoofchebbkaaDoor
set_option linter.unusedSimpArgs false
set_option linter.unusedVariables false
open Go.RowKit
def smallF : Forme := ⟨10, 6, [⟨⟨#[112]⟩, 1, 0, 0, 6, 4⟩, ⟨⟨#[102]⟩, 2, 6, 0, 2, 4⟩, ⟨⟨#[103]⟩, 2, 0, 4, 8, 1⟩, ⟨⟨#[113, 97]⟩, 3, 8, 0, 2, 5⟩, ⟨⟨#[113, 100]⟩, 4, 0, 5, 10, 1⟩]⟩
def smallR (t : Int) : Real := ⟨[360, 118, 478, 120, 600], [240, 240, 58, 300, 60], [0, 0, 0, t, t]⟩
theorem small_checkR : checkR smallF (smallR 0) = (0, 0) := by kernel_rfl
theorem small_shaped : shapedF smallF (smallR 0) = (0, 0) := by kernel_rfl
theorem small_held : (List.range 5).map (fun j => heldA smallF (smallR 0) j + heldD smallF (smallR 0) j) = [0, 0, 0, 2, 3] := by kernel_rfl
theorem small_max : (across smallF (smallR 0).ws).maxT = 600 := by kernel_rfl
theorem small_hit : (List.range 5).map ((across smallF (smallR 0).ws).hit 600 (-1)) = [false, false, false, false, true] := by kernel_rfl
theorem small_chain : (across smallF (smallR 0).ws).IsChain 600 (-1) [4] := by
  have h := small_hit
  simp only [List.range, List.range.loop, List.map_cons, List.map_nil, List.cons.injEq, and_true] at h
  obtain ⟨h0, h1, h2, h3, h4⟩ := h
  refine ⟨by omega, ⟨by show 4 < 5; omega, h4, fun c hc => ?_⟩, ?_⟩
  · rcases c with _ | _ | _ | _ | c
    · exact h0
    · exact h1
    · exact h2
    · exact h3
    · omega
  · show (600 : Int) - 600 ≤ 0
    omega
theorem awake_fl : checkFl [(2, 3), (5, 1)] 9 [2, 1] = (3, 0) := by kernel_rfl
theorem small_any (w : World) : Calls Tryd.prog 11 #[] w fun e w' => ∃ g, e = .returned (.agg #[.int .i64 10, .int .i64 6, .slice (some ⟨g, 0, none⟩) 5 5]) ∧ g < w'.heap.size ∧ PsAt w' g 0 smallF.ps ∧ Below w.heap.size w w' := by
  go_enter Tryd.func11, Tryd.ntmps11
  go_wp2_with fail
  refine bodyPost_ret (v := .agg #[.int .i64 10, .int .i64 6, .slice (some ⟨w.heap.size + 1, 0, none⟩) 5 5]) (by simp [results, Tryd.results11, go_sem]) rfl ⟨_, rfl, by simp [go_sem], fun j hj => ?_, ?_⟩
  · have hj' : j < 5 := hj
    unfold PAt
    rcases j with _ | _ | _ | _ | _ | j
    · refine ⟨?_, ?_, ?_, ?_, ?_, ?_⟩ <;> simp [go_sem] <;> rfl
    · refine ⟨?_, ?_, ?_, ?_, ?_, ?_⟩ <;> simp [go_sem] <;> rfl
    · refine ⟨?_, ?_, ?_, ?_, ?_, ?_⟩ <;> simp [go_sem] <;> rfl
    · refine ⟨?_, ?_, ?_, ?_, ?_, ?_⟩ <;> simp [go_sem] <;> rfl
    · refine ⟨?_, ?_, ?_, ?_, ?_, ?_⟩ <;> simp [go_sem] <;> rfl
    · omega
  · exact ((Below.refl _ _).alloc (Nat.le_refl _) _).alloc (by simp) _
set_option maxRecDepth 100000 in
theorem sizes_any (t : Int) (w : World) : Calls Tryd.prog 12 #[.int .i64 t] w fun e w' => ∃ g1 g2 g3, e = .returned (.agg #[.slice (some ⟨g1, 0, none⟩) 5 5, .slice (some ⟨g2, 0, none⟩) 5 5, .slice (some ⟨g3, 0, none⟩) 5 5]) ∧ g1 < w'.heap.size ∧ g2 < w'.heap.size ∧ g3 < w'.heap.size ∧ ZsAt w' g1 0 (smallR t).ws ∧ ZsAt w' g2 0 (smallR t).hs ∧ ZsAt w' g3 0 (smallR t).ts ∧ Below w.heap.size w w' := by
  go_enter Tryd.func12, Tryd.ntmps12
  go_wp2_with fail
  refine bodyPost_ret (v := .agg #[.slice (some ⟨w.heap.size + 1, 0, none⟩) 5 5, .slice (some ⟨w.heap.size + 2, 0, none⟩) 5 5, .slice (some ⟨w.heap.size + 3, 0, none⟩) 5 5]) (by simp [results, Tryd.results12, go_sem]) rfl ⟨_, _, _, rfl, by simp [go_sem], by simp [go_sem], by simp [go_sem], fun j hj => ?_, fun j hj => ?_, fun j hj => ?_, ?_⟩
  · have hj' : j < 5 := hj
    rcases j with _ | _ | _ | _ | _ | j
    all_goals first | omega | (simp [go_sem]; rfl)
  · have hj' : j < 5 := hj
    rcases j with _ | _ | _ | _ | _ | j
    all_goals first | omega | (simp [go_sem]; rfl)
  · have hj' : j < 5 := hj
    rcases j with _ | _ | _ | _ | _ | j
    all_goals first | omega | (simp [go_sem]; rfl)
  · exact ((((Below.refl _ _).alloc (Nat.le_refl _) _).alloc (by simp) _).alloc (by simp; omega) _).alloc (by simp; omega) _
theorem small_names : NameOk smallF.ps := by
  intro j hj
  have hj' : j < 5 := hj
  rcases j with _ | _ | _ | _ | _ | j
  all_goals first | omega | (show (ByteArray.size ⟨_⟩) ≤ _; decide)
/-- The small forme and its sizes, in memory. -/
def SmallAt (w : World) (B : Nat) (g g1 g2 g3 : Nat) : Prop := FR w B smallF (smallR 0) (some ⟨g, 0, none⟩) (some ⟨g1, 0, none⟩) (some ⟨g2, 0, none⟩) (some ⟨g3, 0, none⟩) g 0 g1 0 g2 0 g3 0
theorem heldSmall_any (g g1 g2 g3 : Nat) (w : World) (h : SmallAt w w.heap.size g g1 g2 g3) :
    Calls Tryd.prog 10 #[.agg #[.int .i64 10, .int .i64 6, .slice (some ⟨g, 0, none⟩) 5 5], .agg #[.slice (some ⟨g1, 0, none⟩) 5 5, .slice (some ⟨g2, 0, none⟩) 5 5, .slice (some ⟨g3, 0, none⟩) 5 5]] w
      fun e w' => ∃ k, e = .returned (.tuple #[.slice (some ⟨k, 0, none⟩) 5 5, .int .i64 0]) ∧ k < w'.heap.size ∧ ZsAt w' k 0 [0, 0, 0, 2, 3] ∧ Below w.heap.size w w' := by
  refine (held_any smallF (smallR 0) _ _ _ _ g 0 g1 0 g2 0 g3 0 5 5 5 5 w h small_names (by decide) (by decide) (by decide) (by decide) (by decide)).mono ?_
  rintro e w' (⟨h1, _⟩ | ⟨_, k, rfl, hk, hr, hb⟩)
  · rw [small_checkR] at h1
    exact absurd rfl h1
  · obtain ⟨c, hg, hs, hc⟩ := hr
    refine ⟨k, rfl, ?_, fun j hj => ?_, hb⟩
    · rcases Nat.lt_or_ge k w'.heap.size with hlt | hge
      · exact hlt
      · rw [Array.getElem?_eq_none hge] at hg; cases hg
    · have hj' : j < 5 := hj
      rw [cell_of_row w' k (0 + j) c 3 (0, 0) hg, Nat.zero_add, hc j hj']
      have hh := congrArg (fun l : List Int => l[j]?) small_held
      simp only [List.getElem?_map, List.getElem?_range hj', Option.map_some] at hh
      have hz : gz [0, 0, 0, 2, 3] j = heldA smallF (smallR 0) j + heldD smallF (smallR 0) j := by
        rw [gz, List.getD_eq_getElem?_getD, ← hh]; rfl
      rw [hz]
theorem longSmall_any (g g1 g2 g3 : Nat) (w : World) (h : SmallAt w w.heap.size g g1 g2 g3) :
    Calls Tryd.prog 13 #[.agg #[.int .i64 10, .int .i64 6, .slice (some ⟨g, 0, none⟩) 5 5], .agg #[.slice (some ⟨g1, 0, none⟩) 5 5, .slice (some ⟨g2, 0, none⟩) 5 5, .slice (some ⟨g3, 0, none⟩) 5 5]] w
      fun e w' => ∃ A b c, e = .returned (.tuple #[.int .i64 600, .slice A 1 c, .int .i64 0]) ∧ Lies A 1 w'.heap.size b 0 ∧ ZsAt w' b 0 [4] ∧ Below w.heap.size w w' := by
  refine (longestAcross_any smallF (smallR 0) _ _ _ _ g 0 g1 0 g2 0 g3 0 5 5 5 5 w h small_names (by decide) (by decide) (by decide) (by decide) (by decide)).mono ?_
  rintro e w' (⟨h1, _⟩ | ⟨_, l, v, rfl, hl, ho, hb⟩)
  · rw [small_shaped] at h1
    exact absurd rfl h1
  · rw [small_max] at hl ⊢
    obtain rfl := hl.uniq small_chain
    obtain ⟨A', b', c', rfl, h1, h2⟩ := ints_of_own (zs := [4]) ho
    exact ⟨A', b', c', rfl, h1, h2, hb⟩
set_option maxRecDepth 100000 in
set_option maxHeartbeats 2000000 in
theorem awake_any (w : World) : Calls Tryd.prog 4 #[] w fun e w' => e = .returned (.bool true) ∧ Below w.heap.size w w' := by
  go_enter Tryd.func4, Tryd.ntmps4
  go_wp2_with fail
  refine (small_any _).mono ?_
  rintro e w1 ⟨g, rfl, hg, hps, b1⟩
  have HP1 := Lib.hid hps
  have HB1 := Lib.hid b1
  clear hps b1
  go_wp2_with fail
  refine (sizes_any 0 _).mono ?_
  rintro e w2 ⟨g1, g2, g3, rfl, hg1, hg2, hg3, z1, z2, z3, b2⟩
  have HS : SmallAt w2 w2.heap.size g g1 g2 g3 := ⟨fun _ => ⟨rfl, Nat.lt_of_lt_of_le hg b2.size⟩, fun j hj => (HP1.out j hj).below b2 hg, ⟨fun _ => ⟨rfl, hg1⟩, fun _ => ⟨rfl, hg2⟩, fun _ => ⟨rfl, hg3⟩, z1, z2, z3⟩⟩
  have HB2 := Lib.hid (HB1.out.trans (b2.mono HB1.out.size))
  have HSS := Lib.hid HS
  clear HS z1 z2 z3 b2 HP1 HB1 hg hg1 hg2 hg3
  go_wp2_with fail
  refine (heldSmall_any _ _ _ _ _ HSS.out).mono ?_
  rintro e w3 ⟨k, rfl, hk, hz, b3⟩
  have HB3 := Lib.hid (HB2.out.trans (b3.mono HB2.out.size))
  have HZ3 := Lib.hid hz
  clear hz b3 HB2 HSS
  go_wp2_with fail
  refine (small_any _).mono ?_
  rintro e w4 ⟨g, rfl, hg, hps, b4⟩
  have HP4 := Lib.hid hps
  have hk4 : k < w4.heap.size := Nat.lt_of_lt_of_le hk b4.size
  have HZ4 := Lib.hid (HZ3.out.below b4 hk)
  have HB4 := Lib.hid (HB3.out.trans (b4.mono HB3.out.size))
  clear hps b4 HZ3 HB3 hk
  go_wp2_with fail
  refine (sizes_any 0 _).mono ?_
  rintro e w5 ⟨g1, g2, g3, rfl, hg1, hg2, hg3, z1, z2, z3, b5⟩
  have HS : SmallAt w5 w5.heap.size g g1 g2 g3 := ⟨fun _ => ⟨rfl, Nat.lt_of_lt_of_le hg b5.size⟩, fun j hj => (HP4.out j hj).below b5 hg, ⟨fun _ => ⟨rfl, hg1⟩, fun _ => ⟨rfl, hg2⟩, fun _ => ⟨rfl, hg3⟩, z1, z2, z3⟩⟩
  have HSS := Lib.hid HS
  have hk5 : k < w5.heap.size := Nat.lt_of_lt_of_le hk4 b5.size
  have HZ5 := Lib.hid (HZ4.out.below b5 hk4)
  have HB5 := Lib.hid (HB4.out.trans (b5.mono HB4.out.size))
  clear HS z1 z2 z3 b5 HP4 HB4 HZ4 hk4 hg hg1 hg2 hg3
  go_wp2_with fail
  refine (longSmall_any _ _ _ _ _ HSS.out).mono ?_
  rintro e w6 ⟨A6, k6, c6, rfl, ha6, hz6, b6⟩
  have hk6 : k < w6.heap.size := Nat.lt_of_lt_of_le hk5 b6.size
  have HZ6 := Lib.hid (HZ5.out.below b6 hk5)
  have HA6 := Lib.hid ha6
  have HY6 := Lib.hid hz6
  have HB6 := Lib.hid (HB5.out.trans (b6.mono HB5.out.size))
  clear ha6 hz6 b6 HB5 HZ5 hk5 HSS
  go_wp2_with fail
  refine (checkFilling_any [(2, 3), (5, 1)] 9 [2, 1] (some ⟨w6.heap.size, 0, none⟩) (some ⟨w6.heap.size + 1, 0, none⟩) w6.heap.size 0 2 (w6.heap.size + 1) 0 2 _ (fun _ => ⟨rfl, by simp [go_sem]⟩) (fun j hj => ?_) (by decide) (fun _ => ⟨rfl, by simp [go_sem]⟩) (fun j hj => ?_) (by decide)).mono ?_
  · have hj' : j < 2 := hj
    rcases j with _ | _ | j
    all_goals first | omega | (constructor <;> simp [go_sem] <;> rfl)
  · have hj' : j < 2 := hj
    rcases j with _ | _ | j
    all_goals first | omega | (simp [go_sem]; rfl)
  rw [awake_fl]
  rintro e w7 ⟨rfl, b7⟩
  have b67 : Below w6.heap.size w6 w7 := (((Below.refl _ _).alloc (Nat.le_refl _) _).alloc (by simp) _).trans (b7.mono (by simp [go_sem]; try omega))
  have HB7 := Lib.hid (HB6.out.trans (b67.mono HB6.out.size))
  have hk7 : k < w7.heap.size := Nat.lt_of_lt_of_le hk6 b67.size
  have HZ7 := Lib.hid (HZ6.out.below b67 hk6)
  have HA7 := Lib.hid (HA6.out.mono b67.size)
  have HY7 := Lib.hid (HY6.out.below b67 (HA6.out (by omega)).2)
  clear b7 b67 HB6 HZ6 hk6 HA6 HY6
  go_wp2_with fail
  have b8 := (Below.refl w7.heap.size w7).alloc (Nat.le_refl _) (.cells #[.int .i64 0, .int .i64 0, .int .i64 0, .int .i64 2, .int .i64 3] 3)
  refine (ints_any [0, 0, 0, 2, 3] [0, 0, 0, 2, 3] (some ⟨k, 0, none⟩) (some ⟨w7.heap.size, 0, none⟩) k 0 5 w7.heap.size 0 5 _ (fun _ => ⟨rfl, by simp [go_sem]; omega⟩) (HZ7.out.below b8 hk7) (fun _ => ⟨rfl, by simp [go_sem]⟩) (fun j hj => ?_) (by decide)).mono ?_
  · have hj' : j < 5 := hj
    rcases j with _ | _ | _ | _ | _ | j
    all_goals first | omega | (simp [go_sem]; rfl)
  rintro e w8 ⟨rfl, c8⟩
  have b78 := b8.trans (c8.mono (by simp [go_sem]))
  have HB8 := Lib.hid (HB7.out.trans (b78.mono HB7.out.size))
  have HA8 := Lib.hid (HA7.out.mono b78.size)
  have HY8 := Lib.hid (HY7.out.below b78 (HA7.out (by omega)).2)
  clear b8 c8 b78 HB7 HZ7 hk7 HA7 HY7
  go_wp2_with fail
  have b9 := (Below.refl w8.heap.size w8).alloc (Nat.le_refl _) (.cells #[.int .i64 4] 3)
  refine (ints_any [4] [4] A6 (some ⟨w8.heap.size, 0, none⟩) k6 0 c6 w8.heap.size 0 1 _ (HA8.out.mono b9.size) (HY8.out.below b9 (HA8.out (by omega)).2) (fun _ => ⟨rfl, by simp [go_sem]⟩) (fun j hj => ?_) (by decide)).mono ?_
  · have hj' : j < 1 := hj
    rcases j with _ | j
    all_goals first | omega | (simp [go_sem]; rfl)
  rintro e w9 ⟨rfl, c9⟩
  have b89 := b9.trans (c9.mono (by simp [go_sem]))
  have HB9 := Lib.hid (HB8.out.trans (b89.mono HB8.out.size))
  clear b9 c9 b89 HB8 HA8 HY8
  go_wp2_with fail
  go_ret
  exact ⟨rfl, HB9.out⟩
