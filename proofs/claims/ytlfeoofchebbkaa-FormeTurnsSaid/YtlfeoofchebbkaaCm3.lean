/- The comparison of two rows of the bill. -/
import Derived.Test.YtlfeoofchebbkaaBil
import Derived.Test.YtlfeoofchebbkaaSf3
import Derived.Shelf.SlSortCmp.QuietGrown
import Derived.BigQuiet
import Derived.Deep.DeepCutAuto
namespace Go.Proofs.Ytlfeoofchebbkaa
set_option linter.unusedSimpArgs false
set_option linter.unusedVariables false
open Go.RowKit Go.Sort
def cmpT (a b : Int) : Int := if a < b then -1 else if b < a then 1 else 0
theorem cmpT_zero {a b : Int} (h : cmpT a b = 0) : a = b := by
  unfold cmpT at h
  by_cases h1 : a < b
  · rw [if_pos h1] at h; omega
  · rw [if_neg h1] at h
    by_cases h2 : b < a
    · rw [if_pos h2] at h; omega
    · omega
theorem cmpT_self (a : Int) : cmpT a a = 0 := by unfold cmpT; simp
theorem nan3_any (a : Int) (w : World) : Calls Try.prog 150 #[.int .i64 a] w fun e w' => e = .returned (.bool false) ∧ w = w' := by
  go_enter Try.func150, Try.ntmps150
  go_wp2_with fail
  go_ret
  exact ⟨by simp, rfl⟩
theorem cmpT_any (a b : Int) (w : World) : Calls Try.prog 143 #[.int .i64 a, .int .i64 b] w fun e w' => e = .returned (.int .i64 (cmpT a b)) ∧ w = w' := by
  have HC : Hid (cmpT a b = if a < b then -1 else if b < a then 1 else 0) := rfl
  go_enter Try.func143, Try.ntmps143
  go_wp2_with fail
  refine (nan3_any a w).mono ?_
  rintro e w1 ⟨rfl, rfl⟩
  go_wp2_with fail
  refine (nan3_any b w).mono ?_
  rintro e w1 ⟨rfl, rfl⟩
  by_cases h1 : a < b
  · go_wp2_with fail
    go_ret
    exact ⟨by rw [HC.out, if_pos h1]; rfl, rfl⟩
  · by_cases h2 : b < a
    · go_wp2_with fail
      go_ret
      exact ⟨by rw [HC.out, if_neg (Int.not_lt.2 h1), if_pos h2]; rfl, rfl⟩
    · go_wp2_with fail
      go_ret
      exact ⟨by rw [HC.out, if_neg (Int.not_lt.2 h1), if_neg (Int.not_lt.2 h2)]; rfl, rfl⟩
def cmpL (f g : Nat → Int) : Int := if cmpT (f 0) (g 0) ≠ 0 then cmpT (f 0) (g 0) else if cmpT (f 1) (g 1) ≠ 0 then cmpT (f 1) (g 1) else cmpT (f 2) (g 2)
set_option maxRecDepth 100000 in
theorem compare_any (f g : Nat → Int) (b1 b2 c1 c2 : Nat) (w : World) (h1 : ∀ j, j < 3 → w.cell? ⟨b1, j, none⟩ = some (.int .i64 (f j))) (h2 : ∀ j, j < 3 → w.cell? ⟨b2, j, none⟩ = some (.int .i64 (g j))) :
    Calls Try.prog 128 #[.slice (some ⟨b1, 0, none⟩) 3 c1, .slice (some ⟨b2, 0, none⟩) 3 c2] w fun e w' => e = .returned (.int .i64 (cmpL f g)) ∧ w = w' := by
  have HE : Hid (∀ k, k < 3 → (∀ j, j < k → f j = g j) → cmpT (f k) (g k) ≠ 0 → cmpL f g = cmpT (f k) (g k)) := (show ∀ k, _ from fun k hk he hn => by
    unfold cmpL
    have : k = 0 ∨ k = 1 ∨ k = 2 := by omega
    rcases this with rfl | rfl | rfl
    · rw [if_pos hn]
    · rw [if_neg (by rw [he 0 (by omega), cmpT_self]; simp), if_pos hn]
    · rw [if_neg (by rw [he 0 (by omega), cmpT_self]; simp), if_neg (by rw [he 1 (by omega), cmpT_self]; simp)])
  have HZ : Hid ((∀ j, j < 3 → f j = g j) → cmpL f g = 0) := (show _ → _ from fun he => by
    unfold cmpL
    rw [he 0 (by omega), he 1 (by omega), he 2 (by omega), cmpT_self, cmpT_self, cmpT_self]; simp)
  generalize cmpL f g = res at *
  go_enter Try.func128, Try.ntmps128
  go_wp2_with fail
  go_loopg [11] 3 (fun gg s11 wr => ∃ k : Nat, k ≤ 3 ∧ 3 - k ≤ gg ∧ s11 = .int .i64 k ∧ Hid (∀ j, j < k → f j = g j) ∧ w = wr)
  case atStart => exact ⟨0, by omega, by omega, rfl, (show ∀ j, j < 0 → _ from fun j h => by omega), rfl⟩
  case round =>
    obtain ⟨k, hk, hgk, rfl, HL, rfl⟩ := hrel
    by_cases hlt : k < 3
    · have hltz : (k : Int) < (3 : Int) := by omega
      have hk0 : (0 : Int) ≤ (k : Int) := by omega
      have x1 := h1 k hlt
      have x2 := h2 k hlt
      have HK := HE.out k hlt HL.out
      have HK2 := Lib.hid HK
      clear HK h1 h2
      have HFG : Hid (cmpT (f k) (g k) = 0 → ∀ j, j < k + 1 → f j = g j) := (show _ → _ from fun h j hj => by
        by_cases e : j = k
        · subst e; exact cmpT_zero h
        · exact HL.out j (by omega))
      generalize f k = fk at *
      generalize g k = gk at *
      go_wp2_with fail
      refine (cmpT_any fk gk w).mono ?_
      rintro e w1 ⟨rfl, rfl⟩
      by_cases hz : cmpT fk gk = 0
      · have hzb : (cmpT fk gk != 0) = false := by simp [hz]
        have HQ := Lib.hid (HFG.out hz)
        clear hz
        go_wp2_with fail
        go_roundg (3 - (k + 1))
        case measure => omega
        case rel => 
          refine ⟨k + 1, by omega, by omega, by go_num, ?_, rfl⟩
          exact HQ.out
      · have hzb : (cmpT fk gk != 0) = true := by simp [hz]
        have HQ := Lib.hid (HK2.out hz)
        clear hz
        go_wp2_with fail
        go_ret
        exact ⟨congrArg (fun z => Ending.returned (.int .i64 z)) HQ.out.symm, rfl⟩
    · have hltz : ¬ (k : Int) < (3 : Int) := by omega
      have HQ := Lib.hid (HZ.out (fun j hj => HL.out j (by omega)))
      go_wp2_with fail
      go_ret
      exact ⟨congrArg (fun z => Ending.returned (.int .i64 z)) HQ.out.symm, rfl⟩
/-- The row's cells. -/
def tri3 (t : Tri) : List Value := [.int .i64 t.a, .int .i64 t.b, .int .i64 t.n]
def triF (t : Tri) (j : Nat) : Int := if j = 0 then t.a else if j = 1 then t.b else t.n
def cf3 (x y : Tri) : Int := cmpL (triF x) (triF y)
theorem tri_cell {W : World} {b : Nat} {t : Tri} (h : Blk W b 143 #[.int .i64 t.a, .int .i64 t.b, .int .i64 t.n]) (j : Nat) (hj : j < 3) : W.cell? ⟨b, j, none⟩ = some (.int .i64 (triF t j)) := by
  have : j = 0 ∨ j = 1 ∨ j = 2 := by omega
  rcases this with rfl | rfl | rfl
  · exact h.cell 0
  · exact h.cell 1
  · exact h.cell 2
set_option maxRecDepth 100000 in
theorem cmp3_lays (x y : Tri) (W : World) :
    Calls Try.prog 127 (#[.agg (tri3 x).toArray, .agg (tri3 y).toArray] ++ #[]) W fun e w' => e = .returned (.int .i64 (cf3 x y)) ∧ ∃ q os', w' = grow (W.drewN q) os' := by
  have h2 : Blk ((W.alloc (Obj.cells (tri3 x).toArray 143)).alloc (Obj.cells (tri3 y).toArray 143)) (W.heap.size + 1) 143 #[.int .i64 y.a, .int .i64 y.b, .int .i64 y.n] := by
    have := Blk.new (W.alloc (Obj.cells (tri3 x).toArray 143)) 143 #[.int .i64 y.a, .int .i64 y.b, .int .i64 y.n]
    rw [World.size_alloc] at this
    exact this
  have h1 : Blk ((W.alloc (Obj.cells (tri3 x).toArray 143)).alloc (Obj.cells (tri3 y).toArray 143)) W.heap.size 143 #[.int .i64 x.a, .int .i64 x.b, .int .i64 x.n] :=
    (Below.heap_alloc _ _ _ (by simp)).trans (Blk.new W 143 _)
  have hg : (W.alloc (Obj.cells (tri3 x).toArray 143)).alloc (Obj.cells (tri3 y).toArray 143) = grow (W.drewN 0) #[Obj.cells (tri3 x).toArray 143, Obj.cells (tri3 y).toArray 143] := by
    rfl
  have hc : ∀ n, Calls Try.prog 128 #[.slice (some ⟨W.heap.size, 0, none⟩) 3 3, .slice (some ⟨W.heap.size + 1, 0, none⟩) 3 3] (World.drewN ((W.alloc (Obj.cells (tri3 x).toArray 143)).alloc (Obj.cells (tri3 y).toArray 143)) n) fun e w' => e = .returned (.int .i64 (cf3 x y)) ∧ World.drewN ((W.alloc (Obj.cells (tri3 x).toArray 143)).alloc (Obj.cells (tri3 y).toArray 143)) n = w' := fun n =>
    compare_any (triF x) (triF y) _ _ 3 3 _ (tri_cell h1) (tri_cell h2)
  have HG := Lib.hid hg
  clear hg h1 h2
  go_enter Try.func127, Try.ntmps127
  go_wp2_with fail
  generalize (W.alloc (Obj.cells (tri3 x).toArray 143)).alloc (Obj.cells (tri3 y).toArray 143) = W2 at *
  go_quiet ((go_at_call 128; exact Calls.quiet_of_same ((hc _).mono fun _ _ ⟨h1, h2⟩ => ⟨h1, h2.symm⟩)))
  go_wp2_with fail
  go_ret
  exact ⟨rfl, nq, _, by rw [HG.out]; rfl⟩
def lex3 (x y : Tri) : Prop := x.a < y.a ∨ (x.a = y.a ∧ (x.b < y.b ∨ (x.b = y.b ∧ x.n < y.n)))
instance (x y : Tri) : Decidable (lex3 x y) := by unfold lex3; infer_instance
theorem cf3_lt (x y : Tri) : cf3 x y < 0 ↔ lex3 x y := by
  show (if cmpT x.a y.a ≠ 0 then cmpT x.a y.a else if cmpT x.b y.b ≠ 0 then cmpT x.b y.b else cmpT x.n y.n) < 0 ↔ _
  unfold lex3 cmpT
  by_cases a1 : x.a < y.a
  · simp [a1]
  · by_cases a2 : y.a < x.a
    · have : x.a ≠ y.a := by omega
      simp [a1, a2, this]
    · have a3 : x.a = y.a := by omega
      by_cases b1 : x.b < y.b
      · simp [a3, b1]
      · by_cases b2 : y.b < x.b
        · have : x.b ≠ y.b := by omega
          simp [a3, b1, b2, this]
        · have b3 : x.b = y.b := by omega
          by_cases c1 : x.n < y.n
          · simp [a3, b3, c1]
          · by_cases c2 : y.n < x.n
            · simp [a3, b3, c1, c2]
            · simp [a3, b3, c1, c2]
theorem ltOf_cf3 (x y : Tri) : ltOf cf3 x y = decide (lex3 x y) := by
  unfold ltOf
  exact decide_eq_decide.2 (cf3_lt x y)
theorem swo3 : SWO (ltOf cf3) where
  irrefl x := by rw [ltOf_cf3]; exact decide_eq_false (by unfold lex3; omega)
  trans x y z h1 h2 := by
    rw [ltOf_cf3] at *
    have h1 := of_decide_eq_true h1
    have h2 := of_decide_eq_true h2
    exact decide_eq_true (by unfold lex3 at *; omega)
  ntrans x y z h1 h2 := by
    rw [ltOf_cf3] at *
    have h1 := of_decide_eq_false h1
    have h2 := of_decide_eq_false h2
    exact decide_eq_false (by unfold lex3 at *; omega)
theorem tot3 (x y : Tri) (h1 : ltOf cf3 x y = false) (h2 : ltOf cf3 y x = false) : x = y := by
  rw [ltOf_cf3] at *
  have h1 := of_decide_eq_false h1
  have h2 := of_decide_eq_false h2
  unfold lex3 at *
  have e1 : x.a = y.a := by omega
  have e2 : x.b = y.b := by omega
  have e3 : x.n = y.n := by omega
  cases x; cases y
  simp_all
def sortB (l : List Tri) : List Tri := l.mergeSort fun x y => !(ltOf cf3) y x
theorem sortB_length (l : List Tri) : (sortB l).length = l.length := List.length_mergeSort _
theorem sortB_bill {ps : List Piece} {l : List Tri} (h : RowsOf ps l) : BillOf ps (sortB l) := by
  have hp : (sortB l).Perm l := List.mergeSort_perm _ _
  refine ⟨fun t => by rw [hp.mem_iff]; exact h.mem t, ?_⟩
  have h1 : (sortB l).Pairwise fun x y => (!(ltOf cf3) y x) = true := List.pairwise_mergeSort (fun x y z a b => by
    simp only [Bool.not_eq_true'] at *
    exact swo3.ntrans z y x b a) (fun x y => by
    rw [ltOf_cf3, ltOf_cf3]
    by_cases e : lex3 y x
    · have : ¬ lex3 x y := by unfold lex3 at *; omega
      simp [this]
    · simp [e]) l
  have h2 : l.Pairwise fun x y => ¬ (x.a = y.a ∧ x.b = y.b) := by
    rw [List.pairwise_iff_getElem]
    intro i j hi hj hij
    have := h.nd i j hij hj
    simpa [gt3, List.getD, hi, hj] using this
  have h3 : (sortB l).Pairwise fun x y => ¬ (x.a = y.a ∧ x.b = y.b) := (hp.pairwise_iff (fun {x y} hxy e => hxy ⟨e.1.symm, e.2.symm⟩)).2 h2
  refine (h1.and h3).imp ?_
  rintro x y ⟨a, b⟩
  rw [ltOf_cf3] at a
  have a : ¬ lex3 y x := by simpa using a
  unfold lex3 at a
  unfold lt3
  omega
end Go.Proofs.Ytlfeoofchebbkaa
