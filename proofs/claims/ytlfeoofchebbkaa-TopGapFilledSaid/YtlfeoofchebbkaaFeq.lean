/- A stock in memory of its own, of which a count is turned; thin; the search for the fewest pieces. -/
import Derived.Test.YtlfeoofchebbkaaFln
import Derived.Test.YtlfeoofchebbkaaFlq
namespace Go.Proofs.Ytlfeoofchebbkaa
set_option linter.unusedSimpArgs false
set_option linter.unusedVariables false
open Go.RowKit
/-- A stock that the call owns. -/
def FsOwn (w : World) (B : Nat) (l : List (Int × Int)) (v : Value) : Prop :=
  ∃ A' b' c', v = .slice A' l.length c' ∧ Lies A' l.length w.heap.size b' 0 ∧ FsAt w b' 0 l ∧ (0 < l.length → B ≤ b' ∧ rowG w b' (l.length * 2) (fun q => if q % 2 = 0 then .int .i64 (gf l (q / 2)).1 else .int .i64 (gf l (q / 2)).2))
theorem fs_row {w : World} {b n : Nat} {l : List (Int × Int)} {F : Nat → Value} (hn : l.length = n) (h : rowG w b (n * 2) F) (hF : ∀ j, j < n → F (j * 2) = .int .i64 (gf l j).1 ∧ F (j * 2 + 1) = .int .i64 (gf l j).2) : FsAt w b 0 l := fun j hj => by
  obtain ⟨h1, h2⟩ := hF j (by omega)
  rw [Nat.zero_add, ← h1, ← h2]
  exact ⟨h.cell (by omega), h.cell (by omega)⟩
theorem fs_own {w : World} {base : Nat} {e : TypeId} {v : Value} {l : List (Int × Int)} (h : w.ownsRow base e 2 v l.length (fcells l)) : FsOwn w base l v := by
  obtain ⟨A', b', c', rfl, h1, h2⟩ := fs_of_own h
  refine ⟨A', b', c', rfl, h1, h2, fun h0 => ?_⟩
  rcases h.2 with ⟨e0, e1⟩ | ⟨g, cap, cur, e0, hbs, hg, hnc, _, hcs, ht⟩
  · omega
  · obtain ⟨e2, hb⟩ := h1 h0
    injection e0 with e3
    rw [e2] at e3
    injection e3 with e3
    injection e3 with e3
    subst e3
    refine ⟨hbs, cur, e, hg, by omega, fun q hq => ?_⟩
    have hh := h2 (q / 2) (by omega)
    simp only [World.cell?, hg, Nat.zero_add] at hh
    dsimp only
    by_cases ev : q % 2 = 0
    · rw [if_pos ev]
      have := hh.1
      rwa [show q / 2 * 2 = q by omega] at this
    · rw [if_neg ev]
      have := hh.2
      rwa [show q / 2 * 2 + 1 = q by omega] at this
theorem FsOwn.bump {w w' : World} {l : List (Int × Int)} {B i b' : Nat} (hi : i < l.length) (h : rowG w b' (l.length * 2) (fun q => if q % 2 = 0 then .int .i64 (gf l (q / 2)).1 else .int .i64 (gf l (q / 2)).2)) :
    FsAt (w.setCell ⟨b', i * 2 + 1, none⟩ (.int .i64 ((gf l i).2 + 1))) b' 0 (bump l i) := by
  refine fs_row (n := l.length) bump_len (h.set (i * 2 + 1) _) fun j hj => ?_
  rw [gf_bump hi]
  refine ⟨?_, ?_⟩
  · rw [if_neg (by omega), if_pos (by omega), show j * 2 / 2 = j by omega]
    by_cases e : j = i
    · rw [if_pos e, e]
    · rw [if_neg e]
  · by_cases e : j = i
    · rw [if_pos e, if_pos (by rw [e])]
    · rw [if_neg e, if_neg (by omega), if_neg (by omega), show (j * 2 + 1) / 2 = j by omega]
def StkPost (w : World) (l : List (Int × Int)) (e : Ending) (w' : World) : Prop := ∃ v, e = .returned v ∧ FsOwn w' w.heap.size l v ∧ Below w.heap.size w w'
set_option maxRecDepth 100000 in
theorem stockedO_any (l : List (Int × Int)) (A : Option Addr) (b off c : Nat) (w : World) (hA : Lies A l.length w.heap.size b off) (hz : FsAt w b off l) (hm : l.length ≤ 1000000) :
    Calls Try.prog 21 #[.slice A l.length c] w (StkPost w l) := by
  obtain ⟨i0, hi0, hz0, hz1, hz2⟩ := info_parts (show (Try.prog.info? 85).map (fun i => (i.zero, i.size, i.bytes)) = some (some (.agg #[.int .i64 0, .int .i64 0]), 2, 16) by kernel_rfl)
  have HH := Lib.hid hz.cells
  have HP : Hid (∀ v w', w'.ownsRow w.heap.size 85 2 v l.length (fcells l) → Below w.heap.size w w' → StkPost w l (.returned v) w') := (show ∀ v w', _ from fun v w' h hb => ⟨v, rfl, fs_own h, hb⟩)
  clear hz
  go_enter Try.func21, Try.ntmps21
  go_wp2_with ((at_builtin
                refine wpList_copy rfl (.tmp 3) (.tmp 4) 22 rfl 85 i0 _ 2 16 Try.underlying22 hi0 hz0 hz1 hz2 rfl (by omega) rfl rfl A b off l.length c _ rfl (fcells_length l) hA HH.out (fcells_one l) (by simp only [maxLen]; omega) (by omega) ?_
                intro v1 w1 hown1 hg1
                have HO := Lib.hid hown1
                have HG := Lib.hid hg1
                clear hown1 hg1))
  go_ret
  exact HP.out _ _ HO.out HG.out
end Go.Proofs.Ytlfeoofchebbkaa
