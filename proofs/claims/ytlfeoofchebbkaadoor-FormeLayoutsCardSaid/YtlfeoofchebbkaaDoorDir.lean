/- A direction of a forme: which piece leads to which. -/
import Derived.Test.YtlfeoofchebbkaaDoorShp
import Derived.Deep.QuietTactic
import Derived.BigQuiet
import Derived.StillTailTactics
import Derived.Deep.OwnRows
namespace Go.Proofs.YtlfeoofchebbkaaDoor
set_option linter.unusedSimpArgs false
set_option linter.unusedVariables false
open Go.RowKit
/-- A direction, as it lies: a block of three slices and a number. -/
structure DAt (w : World) (B g : Nat) (D : Dir) (Aa Ab Az : Option Addr) (ca cb cz ba oa bb ob bz oz : Nat) : Prop where
  gB : g < B
  c0 : w.cell? ⟨g, 0, none⟩ = some (.slice Aa D.n ca)
  c1 : w.cell? ⟨g, 1, none⟩ = some (.slice Ab D.n cb)
  c2 : w.cell? ⟨g, 2, none⟩ = some (.slice Az D.n cz)
  c3 : w.cell? ⟨g, 3, none⟩ = some (.int .i64 D.side)
  la : Lies Aa D.n B ba oa
  lb : Lies Ab D.n B bb ob
  lz : Lies Az D.n B bz oz
  pb : ∀ i, i < D.n → w.cell? ⟨ba, oa + i * 2, none⟩ = some (.int .i64 (D.b i))
  pe : ∀ i, i < D.n → w.cell? ⟨ba, oa + i * 2 + 1, none⟩ = some (.int .i64 (D.e i))
  pl : ∀ i, i < D.n → w.cell? ⟨bb, ob + i * 2, none⟩ = some (.int .i64 (D.lo i))
  ph : ∀ i, i < D.n → w.cell? ⟨bb, ob + i * 2 + 1, none⟩ = some (.int .i64 (D.hi i))
  pz : ∀ i, i < D.n → w.cell? ⟨bz, oz + i, none⟩ = some (.int .i64 (D.s i))
theorem DAt.keep {w w' : World} {B g : Nat} {D : Dir} {Aa Ab Az : Option Addr} {ca cb cz ba oa bb ob bz oz : Nat} (h : DAt w B g D Aa Ab Az ca cb cz ba oa bb ob bz oz)
    (hk : ∀ b o, b < B → w'.cell? ⟨b, o, none⟩ = w.cell? ⟨b, o, none⟩) : DAt w' B g D Aa Ab Az ca cb cz ba oa bb ob bz oz :=
  { h with
    c0 := (hk _ _ h.gB).trans h.c0, c1 := (hk _ _ h.gB).trans h.c1, c2 := (hk _ _ h.gB).trans h.c2, c3 := (hk _ _ h.gB).trans h.c3
    pb := fun i hi => (hk _ _ (h.la (by omega)).2).trans (h.pb i hi), pe := fun i hi => (hk _ _ (h.la (by omega)).2).trans (h.pe i hi)
    pl := fun i hi => (hk _ _ (h.lb (by omega)).2).trans (h.pl i hi), ph := fun i hi => (hk _ _ (h.lb (by omega)).2).trans (h.ph i hi)
    pz := fun i hi => (hk _ _ (h.lz (by omega)).2).trans (h.pz i hi) }
def shB (a b c d : Int) : Bool := decide (a < d ∧ c < b)
theorem shares_any (a b c d : Int) (w : World) : Calls Tryd.prog 66 #[.agg #[.int .i64 a, .int .i64 b], .agg #[.int .i64 c, .int .i64 d]] w fun e w' => e = .returned (.bool (shB a b c d)) ∧ Below w.heap.size w w' := by
  go_enter Tryd.func66, Tryd.ntmps66
  go_wp2
  all_goals go_ret
  all_goals exact ⟨ret_bool (by unfold shB; first | exact decide_eq_decide.2 (by omega) | exact (decide_eq_false (by omega)).symm), ((Below.refl _ _).alloc (Nat.le_refl _) _).alloc (by simp) _⟩
set_option maxHeartbeats 1000000 in
set_option maxRecDepth 100000 in
theorem leads_any (D : Dir) (B g : Nat) (Aa Ab Az : Option Addr) (ca cb cz ba oa bb ob bz oz i k : Nat) (w : World) (h : DAt w B g D Aa Ab Az ca cb cz ba oa bb ob bz oz) (hB : B ≤ w.heap.size) (hi : i < D.n) (hk : k < D.n) (hn : D.n ≤ 1000000) :
    Calls Tryd.prog 55 #[.pointer (some ⟨g, 0, none⟩), .int .i64 i, .int .i64 k] w fun e w' => e = .returned (.bool (D.leads i k)) ∧ Below w.heap.size w w' := by
  obtain ⟨hg, c0, c1, -, -, la, lb, -, pb, pe, pl, ph, -⟩ := h
  obtain ⟨rfl, hba⟩ := la (by omega)
  obtain ⟨rfl, hbb⟩ := lb (by omega)
  have q1 := pe i hi
  have q2 := pb k hk
  have q3 := pl i hi
  have q4 := ph i hi
  have q5 := pl k hk
  have q6 := ph k hk
  have hL : Hid (D.leads i k = (D.e i == D.b k && (decide (D.lo i < D.hi k) && decide (D.lo k < D.hi i)))) := rfl
  clear la lb pb pe pl ph
  generalize D.n = n at *
  generalize D.leads i k = L at *
  generalize D.e i = e1 at *
  generalize D.b k = b2 at *
  generalize D.lo i = l1 at *
  generalize D.hi i = h1 at *
  generalize D.lo k = l2 at *
  generalize D.hi k = h2 at *
  have hi0 : (0 : Int) ≤ (i : Int) := by omega
  have hi1 : (i : Int) < (n : Int) := by omega
  have hk0 : (0 : Int) ≤ (k : Int) := by omega
  have hk1 : (k : Int) < (n : Int) := by omega
  by_cases he : e1 = b2
  · have he' : (e1 == b2) = true := by simp [he]
    have HE := Lib.hid he
    clear he
    go_enter Tryd.func55, Tryd.ntmps55
    go_wp2_with fail
    go_still_tail 32, (by kernel_rfl)
    change wpList _ _ _ _ _ w.drew
    have hbw : Below w.heap.size w w.drew := (Below.refl _ _).drew
    generalize w.drew = w2 at *
    go_wp2_with fail
    refine (shares_any _ _ _ _ _).mono ?_
    rintro e w3 ⟨rfl, b3⟩
    go_wp2_with fail
    go_ret
    exact ⟨ret_bool (by rw [hL.out, he']; unfold shB; simp), hbw.trans (b3.mono hbw.size)⟩
  · have he' : (e1 == b2) = false := by simp [he]
    have HE := Lib.hid he
    clear he
    go_enter Tryd.func55, Tryd.ntmps55
    go_wp2_with fail
    go_quiet (fail)
    go_wp2_with fail
    go_ret
    exact ⟨ret_bool (by rw [hL.out, he']; rfl), ⟨rfl, rfl, rfl, Nat.le_refl _, fun _ _ => rfl⟩⟩
end Go.Proofs.YtlfeoofchebbkaaDoor
