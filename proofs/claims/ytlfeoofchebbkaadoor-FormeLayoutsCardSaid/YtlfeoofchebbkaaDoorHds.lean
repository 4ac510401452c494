/- heads: for each piece the length of the longest chain from the near side to it; through. -/
import Derived.Test.YtlfeoofchebbkaaDoorAcr
namespace Go.Proofs.YtlfeoofchebbkaaDoor
set_option linter.unusedSimpArgs false
set_option linter.unusedVariables false
open Go.RowKit
theorem own_form {w : World} {base : Nat} {e : TypeId} {size n : Nat} {v : Value} {xs : List Value} (h : w.ownsRow base e size v n xs) :
    ∃ (A : Option Addr) (c b : Nat), v = .slice A n c ∧ Lies A n w.heap.size b 0 ∧ ∀ j u, xs[j]? = some u → w.cell? ⟨b, j, none⟩ = some u := by
  have hl := h.1
  rcases h.2 with ⟨rfl, rfl⟩ | ⟨g, cap, cur, rfl, hg, hh, hn, hc, hs, ht⟩
  · refine ⟨none, 0, 0, rfl, fun h => absurd h (by omega), fun j u hu => ?_⟩
    have : xs = [] := List.eq_nil_of_length_eq_zero (by simpa using hl)
    subst this
    simp at hu
  · have hg' : g < w.heap.size := Blk.lt (w := w) (t := e) (cs := cur) hh
    refine ⟨some ⟨g, 0, none⟩, cap, g, rfl, fun _ => ⟨rfl, hg'⟩, fun j u hu => ?_⟩
    rw [cell_of_row w g j cur e (0, 0) hh]
    rw [← ht, List.getElem?_take] at hu
    split at hu
    · simpa using hu
    · cases hu
theorem prs_get : ∀ {l : List (Int × Int)} {i : Nat}, i < l.length → (prs l)[i * 2]? = some (.int .i64 (l.getD i (0, 0)).1) ∧ (prs l)[i * 2 + 1]? = some (.int .i64 (l.getD i (0, 0)).2) := by
  intro l
  induction l with
  | nil => intro i h; simp at h
  | cons p l ih =>
    intro i h
    cases i with
    | zero => simp [prs]
    | succ i =>
      have h' : i < l.length := by simpa using h
      obtain ⟨h1, h2⟩ := ih h'
      have e : prs (p :: l) = .int .i64 p.1 :: .int .i64 p.2 :: prs l := by simp [prs]
      have e1 : (i + 1) * 2 = i * 2 + 1 + 1 := by omega
      rw [e, e1]
      simp only [List.getElem?_cons_succ, List.getD_cons_succ]
      exact ⟨h1, h2⟩
/-- A new direction lies as DAt says. -/
theorem dat_of {w w' : World} {dg n : Nat} {l m : List (Int × Int)} {va vb : Value} {Az : Option Addr} {cz bz oz : Nat} {zs : List Int} {side : Int} (hD : Blk w' dg 86 #[va, vb, .slice Az n cz, .int .i64 side])
    (h1 : w'.ownsRow w.heap.size 88 2 va n (prs l)) (h2 : w'.ownsRow w.heap.size 88 2 vb n (prs m)) (hl : l.length = n) (hm : m.length = n) (hz : zs.length = n) (lz : Lies Az n w'.heap.size bz oz) (pz : ZsAt w' bz oz zs) :
    ∃ (Aa Ab : Option Addr) (ca cb ba bb : Nat), DAt w' w'.heap.size dg { al := l, be := m, sz := zs, side := side } Aa Ab Az ca cb cz ba 0 bb 0 bz oz := by
  obtain ⟨Aa, ca, ba, rfl, la, pa⟩ := own_form h1
  obtain ⟨Ab, cb, bb, rfl, lb, pb⟩ := own_form h2
  subst hz
  refine ⟨Aa, Ab, ca, cb, ba, bb, ⟨hD.lt, hD.cell 0, hD.cell 1, hD.cell 2, hD.cell 3, la, lb, lz, fun i hi => ?_, fun i hi => ?_, fun i hi => ?_, fun i hi => ?_, fun i hi => pz i hi⟩⟩
  · rw [Nat.zero_add]; exact pa _ _ (prs_get (by rw [hl]; exact hi)).1
  · rw [Nat.zero_add]; exact pa _ _ (prs_get (by rw [hl]; exact hi)).2
  · rw [Nat.zero_add]; exact pb _ _ (prs_get (by rw [hm]; exact hi)).1
  · rw [Nat.zero_add]; exact pb _ _ (prs_get (by rw [hm]; exact hi)).2
/-- Where the walk that appends the turned parts stands. -/
structure AcH (w : World) (base tg pb : Nat) (c0 vb vz sd a0 a1 : Value) (ra : Value) (na : Nat) (xs : List Value) (W : World) : Prop where
  D : Blk W tg 86 #[c0, vb, vz, sd]
  pp : Blk W pb 88 #[a0, a1]
  R1 : W.ownsRow base 88 2 ra na xs
  np : some pb ≠ ra.ownBlock
  bw : Below base w W
  hb : base ≤ W.heap.size
  tgb : base ≤ tg
section
variable {w W W' : World} {base tg pb : Nat} {c0 vb vz sd a0 a1 : Value} {ra : Value} {na : Nat} {xs : List Value}
theorem AcH.keep (h : AcH w base tg pb c0 vb vz sd a0 a1 ra na xs W) (hg : W.grownBy W' none) : AcH w base tg pb c0 vb vz sd a0 a1 ra na xs W' where
  D := h.D.grown hg (by simp)
  pp := h.pp.grown hg (by simp)
  R1 := h.R1.kept hg (by by_cases e : ra.ownBlock = none <;> simp [e])
  np := h.np
  bw := h.bw.grown hg h.hb (by simp)
  hb := Nat.le_trans h.hb hg.size
  tgb := h.tgb
theorem AcH.app1 (h : AcH w base tg pb c0 vb vz sd a0 a1 ra na xs W) {g c k : Nat} {xs' : List Value} (hg : W.grownBy W' ra.ownBlock) (hat : ra.ownBlock = some g ∨ g = W.heap.size) (hR : W'.ownsRow base 88 2 (.slice (some ⟨g, 0, none⟩) k c) k xs') :
    AcH w base tg pb c0 vb vz sd a0 a1 (.slice (some ⟨g, 0, none⟩) k c) k xs' W' where
  D := h.D.grown hg (own_blk_ne h.R1 h.D (by decide))
  pp := h.pp.grown hg h.np
  R1 := hR
  np := by
    rw [ownBlock_some]
    rcases hat with hat | hat
    · rw [← hat]; exact h.np
    · have := h.pp.lt
      simp; omega
  bw := h.bw.grown hg h.hb (fun k hk => (h.R1.lt k hk).1)
  hb := Nat.le_trans h.hb hg.size
  tgb := h.tgb
theorem AcH.cells (h : AcH w base tg pb c0 vb vz sd a0 a1 ra na xs W) {dg : Nat} {u : Value} (hdg : dg < base) (hu : w.cell? ⟨dg, 3, none⟩ = some u) : W.cell? ⟨tg, 0, none⟩ = some c0 ∧ W.cell? ⟨dg, 3, none⟩ = some u ∧ W.cell? ⟨pb, 0, none⟩ = some a0 ∧ W.cell? ⟨pb, 1, none⟩ = some a1 :=
  ⟨h.D.cell 0, (h.bw.cell (p := ⟨dg, 3, none⟩) hdg).trans hu, h.pp.cell 0, h.pp.cell 1⟩
theorem AcH.set0 (h : AcH w base tg pb c0 vb vz sd a0 a1 ra na xs W) (u : Value) : Blk (W.setCell ⟨tg, 0, none⟩ u) tg 86 #[u, vb, vz, sd] ∧ (W.setCell ⟨tg, 0, none⟩ u).ownsRow base 88 2 ra na xs ∧ Below base w (W.setCell ⟨tg, 0, none⟩ u) ∧ base ≤ (W.setCell ⟨tg, 0, none⟩ u).heap.size := by
  have hne1 : some tg ≠ ra.ownBlock := own_blk_ne h.R1 h.D (by decide)
  have hg : W.grownBy (W.setCell ⟨tg, 0, none⟩ u) (some tg) := grown_setCell' (World.grownBy.refl W _) 0 u
  exact ⟨h.D.set_ 0 u, h.R1.kept hg (.inr (Ne.symm hne1)), h.bw.setCell h.tgb u, by simpa [World.setCell] using h.hb⟩
end
def HeadsPost (w : World) (D : Dir) (e : Ending) (w' : World) : Prop := ∃ g, e = .returned (.slice (some ⟨g, 0, none⟩) D.n D.n) ∧ w.heap.size ≤ g ∧ w'.rowIs g 3 D.n (fun j => .int .i64 (D.mir.T j)) ∧ Below w.heap.size w w'
set_option maxRecDepth 100000 in
set_option maxHeartbeats 4000000 in
theorem heads_any (D : Dir) (wf : D.WF) (hn : D.n ≤ 1000) (hT : ∀ i, i < D.n → D.mir.T i ≤ 1000000000000) (B dg : Nat) (Aa Ab Az : Option Addr) (ca cb cz ba oa bb ob bz oz : Nat) (w : World)
    (hD : DAt w B dg D Aa Ab Az ca cb cz ba oa bb ob bz oz) (hB : B ≤ w.heap.size) (hs0 : 0 ≤ D.side) (hs1 : D.side ≤ 4000) :
    Calls Tryd.prog 51 #[.pointer (some ⟨dg, 0, none⟩)] w (HeadsPost w D) := by
  obtain ⟨i0, hi0, hz0, hz1, hz2⟩ := info_parts Tryd.info88
  obtain ⟨hg, c0, c1, c2, c3, -, -, -, -, -, -, -, -⟩ := id hD
  have HD := Lib.hid hD
  have hdg : dg < w.heap.size := by omega
  clear hD
  go_enter Tryd.func51, Tryd.ntmps51
  go_wp2_with fail
  go_still_tail 12, (by kernel_rfl)
  change wpList _ _ _ _ _ w.drew
  go_wp2_with fail
  have hB0 : Below w.heap.size w (w.alloc (Obj.cells #[Value.slice none 0 0, Value.slice Ab D.n cb, Value.slice Az D.n cz, Value.int IntKind.i64 D.side] 86)).drew := (below_new w _).drew
  have hD0 : Blk (w.alloc (Obj.cells #[Value.slice none 0 0, Value.slice Ab D.n cb, Value.slice Az D.n cz, Value.int IntKind.i64 D.side] 86)).drew w.heap.size 86 #[Value.slice none 0 0, Value.slice Ab D.n cb, Value.slice Az D.n cz, Value.int IntKind.i64 D.side] := Blk.new w 86 _
  have hz0' : w.heap.size ≤ (w.alloc (Obj.cells #[Value.slice none 0 0, Value.slice Ab D.n cb, Value.slice Az D.n cz, Value.int IntKind.i64 D.side] 86)).drew.heap.size := by simp [World.drew]
  have hts : ∀ k, k < D.n → D.al.take (k + 1) = D.al.take k ++ [(D.b k, D.e k)] := fun k hk => by
    have hk' : k < D.al.length := by rw [wf.al]; exact hk
    have he : (D.b k, D.e k) = D.al[k] := by
      have e0 : D.al.getD k (0, 0) = D.al[k] := by simp [List.getD_eq_getElem?_getD, hk']
      unfold Dir.b Dir.e
      rw [e0]
    rw [List.take_succ_eq_append_getElem hk', he]
  have HTS := Lib.hid hts
  have HT := Lib.hid hT
  clear hts c0 c1 c2 hT
  generalize (w.alloc (Obj.cells #[Value.slice none 0 0, Value.slice Ab D.n cb, Value.slice Az D.n cz, Value.int IntKind.i64 D.side] 86)).drew = W0 at *
  go_loopg [25] D.n (fun gg s25 wr => ∃ (k : Nat) (va : Value), k ≤ D.n ∧ D.n - k ≤ gg ∧ s25 = .int .i64 k ∧ Hid (Blk wr w.heap.size 86 #[va, Value.slice Ab D.n cb, Value.slice Az D.n cz, Value.int IntKind.i64 D.side]) ∧
      Hid (wr.ownsRow w.heap.size 88 2 va k (prs ((D.al.take k).map fun a => (D.side - a.2, D.side - a.1)))) ∧ Hid (Below w.heap.size w wr) ∧ Hid (w.heap.size ≤ wr.heap.size))
  case atStart => exact ⟨0, _, Nat.zero_le _, by omega, rfl, hD0, World.ownsRow_nil _ _ _ _, hB0, hz0'⟩
  case round =>
    obtain ⟨k, va, hk, hgk, rfl, D0, R1, BW, ZW⟩ := hrel
    clear hB0 hD0 hz0'
    by_cases hlt : k < D.n
    · have hltz : (k : Int) < (D.n : Int) := by omega
      have hDr := HD.out.keep (w' := wr) fun b o hb => BW.out.cell (p := ⟨b, o, none⟩) (Nat.lt_of_lt_of_le hb hB)
      have qb := hDr.pb k hlt
      have qe := hDr.pe k hlt
      have hba := (hDr.la (by omega)).2
      obtain ⟨rfl, _⟩ := hDr.la (by omega)
      have c3' := hDr.c3
      have b0 := wf.b0 k hlt
      have b1 := wf.be1 k hlt
      have b2 := wf.e1 k hlt
      have hts := HTS.out k hlt
      have HXS : Hid (prs ((D.al.take (k + 1)).map fun a => (D.side - a.2, D.side - a.1)) = prs ((D.al.take k).map fun a => (D.side - a.2, D.side - a.1)) ++ [.int .i64 (D.side - D.e k), .int .i64 (D.side - D.b k)]) := by
        show _ = _
        rw [hts]; simp [prs]
      have hba' : ba < wr.heap.size := by have := ZW.out; omega
      have hdg' : dg < wr.heap.size := by have := ZW.out; omega
      clear hts HTS hDr HT
      have HC3 := Lib.hid c3
      clear c3
      generalize prs ((D.al.take k).map fun a => (D.side - a.2, D.side - a.1)) = xs at *
      generalize D.b k = bk at *
      generalize D.e k = ek at *
      have e1 : IntKind.i64.wrap (D.side - ek) = D.side - ek := IntWalk.i64_in _ (by omega)
      have e2 : IntKind.i64.wrap (D.side - bk) = D.side - bk := IntWalk.i64_in _ (by omega)
      go_wp2_with fail
      have H0 : Hid (AcH w w.heap.size w.heap.size wr.heap.size va (Value.slice Ab D.n cb) (Value.slice Az D.n cz) (Value.int IntKind.i64 D.side) (.int .i64 bk) (.int .i64 ek) va k xs (wr.alloc (Obj.cells #[.int .i64 bk, .int .i64 ek] 88)).drew) :=
        ⟨(Below.heap_alloc wr _ _ D0.out.lt).trans D0.out, Blk.new wr 88 _, R1.out.alloc _, fun he => by have := (R1.out.lt _ he.symm).2; omega, (BW.out.alloc ZW.out _).drew, by have := ZW.out; simp [World.drew]; omega, Nat.le_refl _⟩
      clear D0 R1 BW ZW qb qe c3'
      have hS := H0.out.cells hdg HC3.out
      refine wp_region_split (fun w' => (w'.cell? ⟨w.heap.size, 0, none⟩ = some va ∧ w'.cell? ⟨dg, 3, none⟩ = some (.int .i64 D.side) ∧ w'.cell? ⟨wr.heap.size, 0, none⟩ = some (.int .i64 bk) ∧ w'.cell? ⟨wr.heap.size, 1, none⟩ = some (.int .i64 ek))) 22 (by kernel_rfl) (by decide) ?_
      refine wpG_take 22 0 (v := ?_) rfl (by kernel_rfl) (fun _ _ _ h => h) (Or.inl ⟨by rfl, ?_⟩) (by assumption) ?_
      rotate_left
      · intro w hSw; (try dsimp only at hSw); go_simp; (try with_reducible rfl)
      (try simp only [Act.put, List.setIfInBounds_toArray, List.set_cons_zero, List.set_cons_succ])
      refine wpG_take 22 1 (v := ?_) rfl (by kernel_rfl) (fun _ _ _ h => h) (Or.inl ⟨by rfl, ?_⟩) (by assumption) ?_
      rotate_left
      · intro w hSw; (try dsimp only at hSw); go_simp; (try with_reducible rfl)
      (try simp only [Act.put, List.setIfInBounds_toArray, List.set_cons_zero, List.set_cons_succ])
      refine wpG_take 22 2 (v := ?_) rfl (by kernel_rfl) (fun _ _ _ h => h) (Or.inl ⟨by rfl, ?_⟩) (by assumption) ?_
      rotate_left
      · intro w hSw; (try dsimp only at hSw); go_simp; (try with_reducible rfl)
      (try simp only [Act.put, List.setIfInBounds_toArray, List.set_cons_zero, List.set_cons_succ])
      refine wpG_take 22 3 (v := ?_) rfl (by kernel_rfl) (fun _ _ _ h => h) (Or.inl ⟨by rfl, ?_⟩) (by assumption) ?_
      rotate_left
      · intro w hSw; (try dsimp only at hSw); go_simp; (try with_reducible rfl)
      (try simp only [Act.put, List.setIfInBounds_toArray, List.set_cons_zero, List.set_cons_succ])
      refine wpG_take 22 4 (v := ?_) rfl (by kernel_rfl) (fun _ _ _ h => h) (Or.inl ⟨by rfl, ?_⟩) (by assumption) ?_
      rotate_left
      · intro w hSw; (try dsimp only at hSw); go_simp; (try with_reducible rfl)
      (try simp only [Act.put, List.setIfInBounds_toArray, List.set_cons_zero, List.set_cons_succ])
      refine wpG_take 22 5 (v := ?_) rfl (by kernel_rfl) (fun _ _ _ h => h) (Or.inl ⟨by rfl, ?_⟩) (by assumption) ?_
      rotate_left
      · intro w hSw; (try dsimp only at hSw); go_simp; (try with_reducible rfl)
      (try simp only [Act.put, List.setIfInBounds_toArray, List.set_cons_zero, List.set_cons_succ])
      refine wpG_take 22 6 (v := ?_) rfl (by kernel_rfl) (fun _ _ _ h => h) (Or.inl ⟨by rfl, ?_⟩) (by assumption) ?_
      rotate_left
      · intro w hSw; (try dsimp only at hSw); go_simp; (try with_reducible rfl)
      (try simp only [Act.put, List.setIfInBounds_toArray, List.set_cons_zero, List.set_cons_succ])
      refine wpG_take 22 7 (v := ?_) rfl (by kernel_rfl) (fun _ _ _ h => h) (Or.inl ⟨by rfl, ?_⟩) (by assumption) ?_
      rotate_left
      · intro w hSw; (try dsimp only at hSw); go_simp; (try with_reducible rfl)
      (try simp only [Act.put, List.setIfInBounds_toArray, List.set_cons_zero, List.set_cons_succ])
      refine wpG_take 22 8 (v := ?_) rfl (by kernel_rfl) (fun _ _ _ h => h) (Or.inl ⟨by rfl, ?_⟩) (by assumption) ?_
      rotate_left
      · intro w hSw; (try dsimp only at hSw); go_simp; (try with_reducible rfl)
      (try simp only [Act.put, List.setIfInBounds_toArray, List.set_cons_zero, List.set_cons_succ])
      refine wpG_take 22 9 (v := ?_) rfl (by kernel_rfl) (fun _ _ _ h => h) (Or.inl ⟨by rfl, ?_⟩) (by assumption) ?_
      rotate_left
      · intro w hSw; (try dsimp only at hSw); go_simp; (try with_reducible rfl)
      (try simp only [Act.put, List.setIfInBounds_toArray, List.set_cons_zero, List.set_cons_succ])
      refine wpG_take 22 10 (v := ?_) rfl (by kernel_rfl) (fun _ _ _ h => h) (Or.inl ⟨by rfl, ?_⟩) (by assumption) ?_
      rotate_left
      · intro w hSw; (try dsimp only at hSw); go_simp; (try with_reducible rfl)
      (try simp only [Act.put, List.setIfInBounds_toArray, List.set_cons_zero, List.set_cons_succ])
      refine wpG_take 22 11 (v := ?_) rfl (by kernel_rfl) (fun _ _ _ h => h) (Or.inl ⟨by rfl, ?_⟩) (by assumption) ?_
      rotate_left
      · intro w hSw; (try dsimp only at hSw); go_simp; (try with_reducible rfl)
      (try simp only [Act.put, List.setIfInBounds_toArray, List.set_cons_zero, List.set_cons_succ])
      refine wpG_take 22 12 (v := ?_) rfl (by kernel_rfl) (fun _ _ _ h => h) (Or.inl ⟨by rfl, ?_⟩) (by assumption) ?_
      rotate_left
      · intro w hSw; (try dsimp only at hSw); go_simp; (try with_reducible rfl)
      (try simp only [Act.put, List.setIfInBounds_toArray, List.set_cons_zero, List.set_cons_succ])
      refine wpG_take 22 13 (v := ?_) rfl (by kernel_rfl) (fun _ _ _ h => h) (Or.inl ⟨by rfl, ?_⟩) (by assumption) ?_
      rotate_left
      · intro w hSw; (try dsimp only at hSw); go_simp; (try with_reducible rfl)
      (try simp only [Act.put, List.setIfInBounds_toArray, List.set_cons_zero, List.set_cons_succ])
      refine wpG_take 22 14 (v := ?_) rfl (by kernel_rfl) (fun _ _ _ h => h) (Or.inl ⟨by rfl, ?_⟩) (by assumption) ?_
      rotate_left
      · intro w hSw; (try dsimp only at hSw); go_simp; (try with_reducible rfl)
      (try simp only [Act.put, List.setIfInBounds_toArray, List.set_cons_zero, List.set_cons_succ])
      refine wpG_take 22 15 (v := ?_) rfl (by kernel_rfl) (fun _ _ _ h => h) (Or.inl ⟨by rfl, ?_⟩) (by assumption) ?_
      rotate_left
      · intro w hSw; (try dsimp only at hSw); go_simp; (try with_reducible rfl)
      (try simp only [Act.put, List.setIfInBounds_toArray, List.set_cons_zero, List.set_cons_succ])
      refine wpG_take 22 16 (v := ?_) rfl (by kernel_rfl) (fun _ _ _ h => h) (Or.inl ⟨by rfl, ?_⟩) (by assumption) ?_
      rotate_left
      · intro w hSw; (try dsimp only at hSw); go_simp; (try with_reducible rfl)
      (try simp only [Act.put, List.setIfInBounds_toArray, List.set_cons_zero, List.set_cons_succ])
      refine wpG_take 22 17 (v := ?_) rfl (by kernel_rfl) (fun _ _ _ h => h) (Or.inl ⟨by rfl, ?_⟩) (by assumption) ?_
      rotate_left
      · intro w hSw; (try dsimp only at hSw); go_simp; (try with_reducible rfl)
      (try simp only [Act.put, List.setIfInBounds_toArray, List.set_cons_zero, List.set_cons_succ])
      refine wpG_take 22 18 (v := ?_) rfl (by kernel_rfl) (fun _ _ _ h => h) (Or.inl ⟨by rfl, ?_⟩) (by assumption) ?_
      rotate_left
      · intro w hSw; (try dsimp only at hSw); go_simp; (try with_reducible rfl)
      (try simp only [Act.put, List.setIfInBounds_toArray, List.set_cons_zero, List.set_cons_succ])
      refine wpG_take 22 19 (v := ?_) rfl (by kernel_rfl) (fun _ _ _ h => h) (Or.inl ⟨by rfl, ?_⟩) (by assumption) ?_
      rotate_left
      · intro w hSw; (try dsimp only at hSw); go_simp; (try with_reducible rfl)
      (try simp only [Act.put, List.setIfInBounds_toArray, List.set_cons_zero, List.set_cons_succ])
      clear hS e1 e2
      refine wpG_gen (fun W => AcH w w.heap.size w.heap.size wr.heap.size va (Value.slice Ab D.n cb) (Value.slice Az D.n cz) (Value.int IntKind.i64 D.side) (.int .i64 bk) (.int .i64 ek) va k xs W) H0.out fun V0 hV0 => ?_
      have H := Lib.hid hV0
      clear hV0 H0
      refine wpG_one (i := 20) (by kernel_rfl) ?_
      refine wpOp_step rfl (fun K hK => ?_)
      go_simp
      refine hK _ _ ⟨(H.out.keep (grown_alloc _ _ _)).cells hdg HC3.out, ?_⟩
      clear hK K
      (try simp only [Act.put, List.setIfInBounds_toArray, List.set_cons_zero, List.set_cons_succ])
      obtain ⟨T1, hT1e⟩ : ∃ x, V0.heap.size = x := ⟨_, rfl⟩
      rw [hT1e]
      refine wpG_gen (fun W => AcH w w.heap.size w.heap.size wr.heap.size va (Value.slice Ab D.n cb) (Value.slice Az D.n cz) (Value.int IntKind.i64 D.side) (.int .i64 bk) (.int .i64 ek) va k xs W ∧ Blk W T1 88 #[.int .i64 (D.side - ek), .int .i64 (D.side - bk)]) ⟨H.out.keep (grown_alloc _ _ _), by rw [← hT1e]; exact Blk.new _ _ _⟩ fun V1 hV => ?_
      obtain ⟨hV1, hT1⟩ := hV
      clear H hT1e
      have H := Lib.hid hV1
      have HT1 := Lib.hid hT1
      clear hV1 hT1
      refine wpG_one (i := 21) (by kernel_rfl) ?_
      refine wpOp_step rfl (fun K hK => ?_)
      refine step_append_lies _ rfl (.tmp 33) (.tmp 49) 84 rfl w.heap.size 88 i0 _ 2 16 Tryd.underlying84 hi0 hz0 hz1 hz2 rfl (by omega) va k xs rfl H.out.R1 ⟨T1, 0, none⟩ 1 1 [.int .i64 (D.side - ek), .int .i64 (D.side - bk)] rfl rfl (World.news_of_block HT1.out) (by simp [Value.oneCell']) (by omega) (by simp only [maxLen]; omega) (by omega) H.out.hb _ rfl ?_
      intro g1 cap1 W1 hown hgrow hat _
      refine hK _ _ ⟨(H.out.app1 hgrow hat hown).cells hdg HC3.out, ?_⟩
      clear hK K
      (try simp only [Act.put, List.setIfInBounds_toArray, List.set_cons_zero, List.set_cons_succ])
      have H2 := Lib.hid (H.out.app1 hgrow hat hown)
      clear hown hgrow hat H HT1
      refine ⟨by kernel_rfl, ?_⟩
      have HS := Lib.hid (H2.out.set0 (.slice (some ⟨g1, 0, none⟩) (k + 1) cap1))
      have d0 := H2.out.D.cell 0
      have f0 := H2.out.D.frozen 0
      simp only [List.drop_succ_cons, List.drop_zero]
      go_wp2_with fail
      go_roundg (D.n - (k + 1))
      case measure => omega
      case rel =>
        refine ⟨k + 1, _, by omega, by omega, by go_num, HS.out.1, ?_, HS.out.2.2.1, HS.out.2.2.2⟩
        show World.ownsRow _ _ _ _ _ _ _
        rw [HXS.out]; exact HS.out.2.1
    · have hltz : ¬ (k : Int) < (D.n : Int) := by omega
      have he : k = D.n := by omega
      have hall : (D.al.take k).map (fun a => (D.side - a.2, D.side - a.1)) = D.mir.al := by
        rw [List.take_of_length_le (by rw [wf.al, he]; exact Nat.le_refl _)]; rfl
      have R1' := Lib.hid R1.out
      clear R1
      rw [hall, he] at R1'
      obtain ⟨Aa', ca', ba', rfl, la', pa'⟩ := own_form R1'.out
      have hDr := HD.out.keep (w' := wr) fun b o hb => BW.out.cell (p := ⟨b, o, none⟩) (Nat.lt_of_lt_of_le hb hB)
      have hl : D.mir.al.length = D.n := by simp [Dir.mir, wf.al]; rfl
      have hM : DAt wr wr.heap.size w.heap.size D.mir Aa' Ab Az ca' cb cz ba' 0 bb ob bz oz := by
        have zw := ZW.out
        refine ⟨D0.out.lt, D0.out.cell 0, D0.out.cell 1, D0.out.cell 2, D0.out.cell 3, la', hDr.lb.mono (by omega), hDr.lz.mono (by omega), fun i hi => ?_, fun i hi => ?_, hDr.pl, hDr.ph, hDr.pz⟩
        · rw [Nat.zero_add]; exact pa' _ _ (prs_get (by rw [hl]; exact hi)).1
        · rw [Nat.zero_add]; exact pa' _ _ (prs_get (by rw [hl]; exact hi)).2
      have hcall := tails_any D.mir (Dir.mir_wf wf) (by show D.n ≤ _; omega) HT.out wr.heap.size w.heap.size Aa' Ab Az ca' cb cz ba' 0 bb ob bz oz wr hM (Nat.le_refl _)
      clear hDr hM la' pa' hall HTS HT D0 R1' HD
      go_wp2_with fail
      refine hcall.mono ?_
      rintro e w1 ⟨g, rfl, hg1, R1, b1⟩
      have HR := Lib.hid R1
      clear R1 hcall
      go_wp2_with fail
      go_ret
      exact ⟨g, rfl, Nat.le_trans ZW.out hg1, HR.out, BW.out.trans (b1.mono ZW.out)⟩
end Go.Proofs.YtlfeoofchebbkaaDoor
