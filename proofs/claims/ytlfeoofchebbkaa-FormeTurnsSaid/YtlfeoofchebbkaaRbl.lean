/- ref.Bill: the bill of furniture. -/
import Derived.Test.YtlfeoofchebbkaaBil
import Derived.Test.YtlfeoofchebbkaaSwp
namespace Go.Proofs.Ytlfeoofchebbkaa
set_option linter.unusedSimpArgs false
set_option linter.unusedVariables false
open Go.RowKit
theorem Try.info143 : (Try.prog.info? 143).map (fun i => (i.zero, i.size, i.bytes)) = some (some (.agg #[.int .i64 0, .int .i64 0, .int .i64 0]), 3, 24) := by kernel_rfl
/-- The row of the piece is found among the first j, and counted; or not found. -/
def BumpAt (p : Piece) (l : List Tri) (j : Nat) (l' : List Tri) (fd : Bool) : Prop :=
  (fd = false ∧ l' = l ∧ ∀ i, i < j → ¬ ((gt3 l i).a = max p.w p.h ∧ (gt3 l i).b = min p.w p.h)) ∨
  (fd = true ∧ ∃ i, i < j ∧ i < l.length ∧ (gt3 l i).a = max p.w p.h ∧ (gt3 l i).b = min p.w p.h ∧ l' = l.set i ⟨(gt3 l i).a, (gt3 l i).b, (gt3 l i).n + 1⟩)
theorem BumpAt.start (p : Piece) (l : List Tri) : BumpAt p l 0 l false := .inl ⟨rfl, rfl, fun i h => by omega⟩
theorem BumpAt.len {p : Piece} {l l' : List Tri} {j : Nat} {fd : Bool} (h : BumpAt p l j l' fd) : l'.length = l.length := by
  rcases h with ⟨_, rfl, _⟩ | ⟨_, i, _, _, _, _, rfl⟩
  · rfl
  · simp
theorem BumpAt.hit {ps : List Piece} {p : Piece} {l l' : List Tri} {j : Nat} {fd : Bool} (h : BumpAt p l j l' fd) (hr : RowsOf ps l) (hj : j < l.length) (h1 : (gt3 l' j).a = max p.w p.h) (h2 : (gt3 l' j).b = min p.w p.h) :
    BumpAt p l (j + 1) (l'.set j ⟨(gt3 l' j).a, (gt3 l' j).b, (gt3 l' j).n + 1⟩) true := by
  rcases h with ⟨_, rfl, _⟩ | ⟨_, i, hi, hil, e1, e2, rfl⟩
  · exact .inr ⟨rfl, j, by omega, hj, h1, h2, rfl⟩
  · rw [gt3_set_ne (by omega)] at h1 h2
    exact absurd ⟨e1.trans h1.symm, e2.trans h2.symm⟩ (hr.nd i j hi hj)
theorem BumpAt.miss {p : Piece} {l l' : List Tri} {j : Nat} {fd : Bool} (h : BumpAt p l j l' fd) (hn : ¬ ((gt3 l' j).a = max p.w p.h ∧ (gt3 l' j).b = min p.w p.h)) : BumpAt p l (j + 1) l' fd := by
  rcases h with ⟨rfl, rfl, h⟩ | ⟨rfl, i, hi, hil, e1, e2, rfl⟩
  · refine .inl ⟨rfl, rfl, fun i hi => ?_⟩
    by_cases e : i = j
    · subst e; exact hn
    · exact h i (by omega)
  · exact .inr ⟨rfl, i, by omega, hil, e1, e2, rfl⟩
theorem BumpAt.found {ps : List Piece} {p : Piece} {l l' : List Tri} {j : Nat} (h : BumpAt p l j l' true) (hr : RowsOf ps l) (hk : p.kind = 2) : RowsOf (ps ++ [p]) l' := by
  rcases h with ⟨h, _⟩ | ⟨_, i, hi, hil, e1, e2, rfl⟩
  · cases h
  · exact rows_bump hr hk hil e1 e2
theorem BumpAt.none {ps : List Piece} {p : Piece} {l l' : List Tri} {j : Nat} (h : BumpAt p l j l' false) (hj : l.length ≤ j) (hr : RowsOf ps l) (hk : p.kind = 2) : RowsOf (ps ++ [p]) (l' ++ [⟨max p.w p.h, min p.w p.h, 1⟩]) := by
  rcases h with ⟨_, rfl, h⟩ | ⟨h, _⟩
  · exact rows_new hr hk fun i hi => h i (by omega)
  · cases h
/-- A value of rows. -/
def TsV (W : World) (l : List Tri) (v : Value) : Prop := ∃ A b c, v = .slice A l.length c ∧ Lies A l.length W.heap.size b 0 ∧ TsAt W b 0 l
theorem ts_own {w : World} {base : Nat} {e : TypeId} {v : Value} {l : List Tri} (h : w.ownsRow base e 3 v l.length (tcells l)) : TsV w l v := by
  rcases Nat.eq_zero_or_pos l.length with h0 | h0
  · obtain ⟨A, c, rfl⟩ := own_slice h
    exact ⟨A, 0, c, rfl, fun h => by omega, fun j hj => by omega⟩
  · obtain ⟨g, cap, rfl, hg1, hg2⟩ := h.form h0
    refine ⟨_, g, cap, rfl, fun _ => ⟨rfl, hg2⟩, fun j hj => ?_⟩
    obtain ⟨h0, h1, h2⟩ := tcells_at l j hj
    rw [Nat.zero_add]
    exact ⟨(h.cellAt _ (by omega)).trans h0, (h.cellAt _ (by omega)).trans h1, (h.cellAt _ (by omega)).trans h2⟩
theorem take_succ_gp {ps : List Piece} {k : Nat} (h : k < ps.length) : ps.take (k + 1) = ps.take k ++ [gp ps k] := by
  rw [List.take_succ_eq_append_getElem h, gp_get h]
set_option maxRecDepth 100000 in
set_option maxHeartbeats 40000000 in
theorem refBill_any (f : Forme) (A : Option Addr) (b off c : Nat) (w : World) (hA : Lies A f.ps.length w.heap.size b off) (hps : PsAt w b off f.ps) (hm : f.ps.length ≤ 1000) :
    Calls Try.prog 73 #[.agg #[.int .i64 f.W, .int .i64 f.H, .slice A f.ps.length c]] w fun e w' => ∃ l v, e = .returned v ∧ BillOf f.ps l ∧ l.length ≤ f.ps.length ∧ TsV w' l v ∧ Below w.heap.size w w' := by
  obtain ⟨i0, hi0, hz0, hz1, hz2⟩ := info_parts Try.info143
  have hB := below_new w (Obj.cells #[Value.int IntKind.i64 f.W, Value.int IntKind.i64 f.H, Value.slice A f.ps.length c] 37)
  have hF := FAt_new w 37 f (Value.slice A f.ps.length c)
  have hz : (w.alloc (Obj.cells #[Value.int IntKind.i64 f.W, Value.int IntKind.i64 f.H, Value.slice A f.ps.length c] 37)).heap.size = w.heap.size + 1 := by simp
  have HPS : Hid (∀ W, Below w.heap.size w W → PsAt W b off f.ps) := (show ∀ W, _ from fun W hW j hj => (hps j hj).below hW (hA (by omega)).2)
  have HTK : Hid (∀ k, k < f.ps.length → f.ps.take (k + 1) = f.ps.take k ++ [gp f.ps k]) := fun k hk => take_succ_gp hk
  have HTE : Hid (f.ps.take f.ps.length = f.ps) := List.take_length
  clear hps
  generalize hn : f.ps.length = n at *
  have HNN := Lib.hid hn
  clear hn
  go_enter Try.func73, Try.ntmps73
  go_wp2_with fail
  generalize w.alloc (Obj.cells #[Value.int IntKind.i64 f.W, Value.int IntKind.i64 f.H, Value.slice A n c] 37) = W1 at *
  have HFF := Lib.hid hF
  have HBB := Lib.hid hB
  have HZ := Lib.hid hz
  clear hF hB hz
  go_loopg [3, 4] n (fun gg s3 s4 wr => ∃ (k : Nat) (l : List Tri), k ≤ n ∧ n - k ≤ gg ∧ s4 = .int .i64 k ∧ l.length ≤ k ∧ Hid (RowsOf (f.ps.take k) l) ∧ Hid (wr.ownsRow W1.heap.size 143 3 s3 l.length (tcells l)) ∧ Hid (Below W1.heap.size W1 wr))
  case atStart => exact ⟨0, [], Nat.zero_le _, by omega, rfl, Nat.zero_le _, rows_nil, World.ownsRow_nil _ _ _ _, Below.refl _ _⟩
  case round =>
    obtain ⟨k, l, hk, hgk, rfl, hlk, RO, R, BW⟩ := hrel
    have hsz := BW.out.size
    have hbw := HBB.out.trans (BW.out.mono HBB.out.size)
    obtain ⟨a0, a1, a2⟩ := HFF.out.below BW.out (by have := HZ.out; omega)
    by_cases hlt : k < n
    · have hltz : (k : Int) < (n : Int) := by omega
      have hk0 : (0 : Int) ≤ (k : Int) := by omega
      obtain ⟨rfl, hb⟩ := hA (by omega)
      obtain ⟨c0, c1, c2, c3, c4, c5⟩ := HPS.out wr hbw k (by have := HNN.out; omega)
      have HT1 := Lib.hid (HTK.out k hlt)
      have hbr : b < wr.heap.size := by have := hbw.size; omega
      clear hbw hA
      generalize gp f.ps k = p at *
      have BQ := Lib.hid (BW.out.alloc hsz (Obj.cells #[Value.string p.name, Value.int IntKind.i64 p.kind, Value.int IntKind.i64 p.x, Value.int IntKind.i64 p.y, Value.int IntKind.i64 p.w, Value.int IntKind.i64 p.h] 70))
      have RQ := Lib.hid (R.out.alloc (Obj.cells #[Value.string p.name, Value.int IntKind.i64 p.kind, Value.int IntKind.i64 p.x, Value.int IntKind.i64 p.y, Value.int IntKind.i64 p.w, Value.int IntKind.i64 p.h] 70))
      have hp := Blk.new wr 70 #[Value.string p.name, Value.int IntKind.i64 p.kind, Value.int IntKind.i64 p.x, Value.int IntKind.i64 p.y, Value.int IntKind.i64 p.w, Value.int IntKind.i64 p.h]
      have p1 := hp.cell 1
      have hzq : (wr.alloc (Obj.cells #[Value.string p.name, Value.int IntKind.i64 p.kind, Value.int IntKind.i64 p.x, Value.int IntKind.i64 p.y, Value.int IntKind.i64 p.w, Value.int IntKind.i64 p.h] 70)).heap.size = wr.heap.size + 1 := by simp
      by_cases hk2 : p.kind = 2
      · have hk2' : (p.kind == 2) = true := by simp [hk2]
        have HK2 := Lib.hid hk2
        clear hk2
        have p4 := hp.cell 4
        have p5 := hp.cell 5
        go_wp2_with fail
        generalize (wr.alloc (Obj.cells #[Value.string p.name, Value.int IntKind.i64 p.kind, Value.int IntKind.i64 p.x, Value.int IntKind.i64 p.y, Value.int IntKind.i64 p.w, Value.int IntKind.i64 p.h] 70)) = Wq at *
        have p4d : Wq.drew.cell? ⟨wr.heap.size, 4, none⟩ = some (.int .i64 p.w) := p4
        have p5d : Wq.drew.cell? ⟨wr.heap.size, 5, none⟩ = some (.int .i64 p.h) := p5
        go_big_region
        rw [show (if p.w < p.h then p.h else p.w) = max p.w p.h by omega, show (if p.h < p.w then p.h else p.w) = min p.w p.h by omega]
        have HMX : Hid (∀ l l' j fd, BumpAt p l j l' fd → RowsOf (f.ps.take k) l → j < l.length → (gt3 l' j).a = max p.w p.h → (gt3 l' j).b = min p.w p.h → BumpAt p l (j + 1) (l'.set j ⟨(gt3 l' j).a, (gt3 l' j).b, (gt3 l' j).n + 1⟩) true ∧ (gt3 l' j).n ≤ k ∧ 0 < (gt3 l' j).n) := (show ∀ l l' j fd, _ from fun l l' j fd h hr hj e1 e2 => ⟨h.hit hr hj e1 e2, by
          have h3 := h.hit hr hj e1 e2
          rcases h with ⟨_, rfl, _⟩ | ⟨_, i, hi, hil, q1, q2, rfl⟩
          · have h4 := hr.pos j hj
            have h5 := hr.cnt j hj
            have := cntF_le (f.ps.take k) (gt3 l' j).a (gt3 l' j).b
            rw [List.length_take] at this
            exact ⟨by omega, h4⟩
          · rw [gt3_set_ne (by omega)] at e1 e2
            exact absurd ⟨q1.trans e1.symm, q2.trans e2.symm⟩ (hr.nd i j hi hj)⟩)
        have HMI : Hid (∀ l l' j fd, BumpAt p l j l' fd → ¬ ((gt3 l' j).a = max p.w p.h ∧ (gt3 l' j).b = min p.w p.h) → BumpAt p l (j + 1) l' fd) := (show ∀ l l' j fd, _ from fun l l' j fd h hn => h.miss hn)
        have HMF : Hid (∀ l l' j, BumpAt p l j l' true → RowsOf (f.ps.take k) l → RowsOf (f.ps.take (k + 1)) l') := (show ∀ l l' j, _ from fun l l' j h hr => by rw [HT1.out]; exact h.found hr HK2.out)
        have HMN : Hid (∀ l l' j, BumpAt p l j l' false → l.length ≤ j → RowsOf (f.ps.take k) l → RowsOf (f.ps.take (k + 1)) (l' ++ [⟨max p.w p.h, min p.w p.h, 1⟩])) := (show ∀ l l' j, _ from fun l l' j h hj hr => by rw [HT1.out]; exact h.none hj hr HK2.out)
        have R2 : Hid (Wq.drew.ownsRow W1.heap.size 143 3 _ l.length (tcells l)) := RQ.out
        have B2 : Hid (Below W1.heap.size W1 Wq.drew) := BQ.out.drew
        clear p4 p5 p4d p5d p1 hp hk2' hk0 c0 c1 c2 c3 c4 c5 a0 a1 a2 hzq RQ BQ R BW
        generalize max p.w p.h = mx at *
        generalize min p.w p.h = mn at *
        generalize Wq.drew = W2 at *
        generalize hml : l.length = m at *
        have HM := Lib.hid hml
        clear hml
        go_wp2_with fail
        go_loopg [8, 9] m (fun gg s8 s9 wi => ∃ (j : Nat) (l' : List Tri) (fd : Bool), j ≤ m ∧ m - j ≤ gg ∧ s9 = .int .i64 j ∧ s8 = .bool fd ∧ Hid (BumpAt p l j l' fd) ∧ Hid (wi.ownsRow W1.heap.size 143 3 u3 m (tcells l')) ∧ Hid (Below W1.heap.size W1 wi))
        case atStart => exact ⟨0, l, false, by omega, by omega, rfl, rfl, BumpAt.start p l, R2.out, B2.out⟩
        case round =>
          obtain ⟨j, l', fd, hj, hgj, rfl, rfl, BA, R3, B3⟩ := hrel
          have hln : l'.length = m := BA.out.len.trans HM.out
          by_cases hjm : j < m
          · have hjz : (j : Int) < (m : Int) := by omega
            have hj0 : (0 : Int) ≤ (j : Int) := by omega
            obtain ⟨g, cap, rfl, hg1, hg2⟩ := R3.out.form (by omega)
            obtain ⟨t0, t1, t2⟩ := tcells_at l' j (by omega)
            have x0 : wr.cell? ⟨g, j * 3, none⟩ = some (.int .i64 (gt3 l' j).a) := (R3.out.cellAt _ (by omega)).trans t0
            have x1 : wr.cell? ⟨g, j * 3 + 1, none⟩ = some (.int .i64 (gt3 l' j).b) := (R3.out.cellAt _ (by omega)).trans t1
            have x2 : wr.cell? ⟨g, j * 3 + 2, none⟩ = some (.int .i64 (gt3 l' j).n) := (R3.out.cellAt _ (by omega)).trans t2
            have x2d : wr.drew.cell? ⟨g, j * 3 + 2, none⟩ = some (.int .i64 (gt3 l' j).n) := x2
            have xf := R3.out.frozenAt (j * 3 + 2)
            clear t0 t1 t2
            by_cases hab : (gt3 l' j).a = mx ∧ (gt3 l' j).b = mn
            · obtain ⟨HH1, HH2, hn0⟩ := HMX.out l l' j fd BA.out RO.out (by have := HM.out; omega) hab.1 hab.2
              have HH := Lib.hid HH1
              have ha1 : ((gt3 l' j).a == mx) = true := by simp [hab.1]
              have hb1 : ((gt3 l' j).b == mn) = true := by simp [hab.2]
              have ew : IntKind.i64.wrap ((gt3 l' j).n + 1) = (gt3 l' j).n + 1 := IntWalk.i64_in _ (by omega)
              have HST := Lib.hid (R3.out.stored (j * 3 + 2) (.int .i64 ((gt3 l' j).n + 1))).1
              rw [tcells_set2 l' j _ (by omega)] at HST
              clear hab HH1 hln
              go_wp2_with fail
              go_big_region
              go_wp2_with fail
              go_roundg (m - (j + 1))
              case measure => omega
              case rel => exact ⟨j + 1, _, true, by omega, by omega, by go_num, rfl, HH.out, HST.out, (B3.out.setCell (p := ⟨g, j * 3 + 2, none⟩) hg1 _).drew⟩
            · have HH := Lib.hid (HMI.out l l' j fd BA.out hab)
              have hab' : ((gt3 l' j).a == mx) = false ∨ (((gt3 l' j).a == mx) = true ∧ ((gt3 l' j).b == mn) = false) := by
                by_cases e : (gt3 l' j).a = mx
                · right; exact ⟨by simp [e], by simpa using fun e2 => hab ⟨e, e2⟩⟩
                · left; simpa using e
              clear hab hln
              rcases hab' with ha1 | ⟨ha1, hb1⟩
              · go_wp2_with fail
                go_roundg (m - (j + 1))
                case measure => omega
                case rel => exact ⟨j + 1, l', fd, by omega, by omega, by go_num, rfl, HH.out, R3.out, B3.out⟩
              · go_wp2_with fail
                go_roundg (m - (j + 1))
                case measure => omega
                case rel => exact ⟨j + 1, l', fd, by omega, by omega, by go_num, rfl, HH.out, R3.out, B3.out⟩
          · have hjz : ¬ (j : Int) < (m : Int) := by omega
            obtain ⟨A9, c9, rfl⟩ := own_slice R3.out
            have hjm' : j = m := by omega
            subst hjm'
            have hs3 := B3.out.size
            cases fd with
            | true =>
              have HR := Lib.hid (HMF.out l l' j BA.out RO.out)
              have R5 : Hid (wr.ownsRow W1.heap.size 143 3 (.slice A9 j c9) l'.length (tcells l')) := by
                show World.ownsRow _ _ _ _ _ _ _
                rw [hln]; exact R3.out
              clear R3
              go_wp2_with fail
              go_roundg (n - (k + 1))
              case measure => omega
              case rel => exact ⟨k + 1, l', by omega, by omega, by go_num, by omega, HR.out, R5.out, B3.out⟩
            | false =>
              have HR := Lib.hid (HMN.out l l' j BA.out (by have := HM.out; omega) RO.out)
              go_wp2_with ((at_builtin
                            refine wpList_append_lies _ rfl (.tmp 71) (.tmp 75) 96 (by rfl) W1.heap.size 143 i0 _ 3 24 Try.underlying96 hi0 hz0 hz1 hz2 rfl (by omega) (.slice A9 j c9) j _ (by rfl) (R3.out.alloc _) ⟨wr.heap.size, 0, none⟩ 1 1 [.int .i64 mx, .int .i64 mn, .int .i64 1] (by rfl) (by rfl) (World.news_of_block (heap_alloc_new wr _)) (by simp [Value.oneCell']) (by omega) (by simp only [maxLen]; omega) (by omega) (by simp; omega) (wr.heap.size + 1) (by simp) ?_
                            intro g1 cap1 w2 hown hgrow hat hlt9
                            have HO9 := Lib.hid hown
                            have HG9 := Lib.hid hgrow
                            clear hown hgrow hat))
              go_roundg (n - (k + 1))
              case measure => omega
              case rel =>
                refine ⟨k + 1, l' ++ [(⟨mx, mn, 1⟩ : Tri)], by omega, by omega, by go_num, by simp; omega, HR.out, ?_, ?_⟩
                · show World.ownsRow _ _ _ _ _ _ _
                  rw [List.length_append, hln, tcells_app]
                  exact HO9.out
                · show Below _ _ _
                  exact (B3.out.alloc (by omega) _).grown HG9.out (by simp; omega) (fun t ht => (R3.out.lt t ht).1)
      · have hk2' : (p.kind == 2) = false := by simp [hk2]
        have HK2 := Lib.hid hk2
        clear hk2
        go_wp2_with fail
        go_roundg (n - (k + 1))
        case measure => omega
        case rel =>
          refine ⟨k + 1, l, by omega, by omega, by go_num, by omega, ?_, RQ.out, BQ.out⟩
          show RowsOf _ _
          rw [HT1.out]; exact rows_skip RO.out HK2.out
    · have hltz : ¬ (k : Int) < (n : Int) := by omega
      have he : k = n := by omega
      subst he
      have HRO : Hid (RowsOf f.ps l) := by
        show RowsOf _ _
        have := RO.out
        rwa [HTE.out] at this
      obtain ⟨A1, cp, rfl⟩ := own_slice R.out
      have HR : Hid (0 < l.length → ∃ g, W1.heap.size ≤ g ∧ A1 = some ⟨g, 0, none⟩) := (show 0 < l.length → _ from fun h => by
        obtain ⟨g, cap, e, h1, h2⟩ := R.out.form h
        injection e with e
        exact ⟨g, h1, e⟩)
      generalize hm0 : l.length = m at *
      have HM := Lib.hid hm0
      clear hm0 RO hbw HTK HTE
      go_wp2_with fail
      go_loopg [10] m (fun gg s10 wr2 => ∃ (i : Nat) (l1 : List Tri), i ≤ m + 1 ∧ 1 ≤ i ∧ m + 1 - i ≤ gg + 1 ∧ s10 = .int .i64 i ∧ l1.length = m ∧ Hid (RowsOf f.ps l1) ∧ Hid (SortTo l1 i) ∧ Hid (wr2.ownsRow W1.heap.size 143 3 (.slice A1 m cp) m (tcells l1)) ∧ Hid (Below W1.heap.size W1 wr2) ∧ (i = m + 1 → m = 0))
      case atStart => exact ⟨1, l, by omega, by omega, by omega, by go_num, HM.out, HRO.out, SortTo.one _, R.out, BW.out, fun h => by omega⟩
      case round =>
        obtain ⟨i, l1, hi1, hi2, hg2, rfl, hl1, P1, T1, N1, BW2, hx⟩ := hrel
        by_cases him : i < m
        · have himz : (i : Int) < (m : Int) := by omega
          obtain ⟨g, hgb, rfl⟩ := HR.out (by omega)
          go_wp2_with fail
          go_loopg [11] i (fun gg s11 wr3 => ∃ (q : Nat) (l2 : List Tri), q ≤ i ∧ q ≤ gg ∧ s11 = .int .i64 q ∧ l2.length = m ∧ Hid (RowsOf f.ps l2) ∧ Hid (InsAt l2 i q) ∧ Hid (wr3.ownsRow W1.heap.size 143 3 (.slice (some ⟨g, 0, none⟩) m cp) m (tcells l2)) ∧ Hid (Below W1.heap.size W1 wr3))
          case atStart => exact ⟨i, l1, by omega, by omega, rfl, hl1, P1.out, T1.out.start (by omega), N1.out, BW2.out⟩
          case round =>
            obtain ⟨q, l2, hqi, hgq, rfl, hl2, P2, T2, N2, BW3⟩ := hrel
            rcases Nat.eq_zero_or_pos q with hq0 | hq0
            · subst hq0
              have HT : Hid (SortTo l2 (i + 1)) := T2.out.done (fun h => absurd h (Nat.lt_irrefl 0))
              have hd : decide (((0 : Nat) : Int) > 0) = false := by decide
              go_wp2_with fail
              go_quiet (fail)
              go_wp2_with fail
              go_roundg (m - (i + 1))
              case measure => omega
              case rel => exact ⟨i + 1, l2, by omega, by omega, by omega, by go_num, hl2, P2.out, HT.out, N2.out, ⟨BW3.out.os, BW3.out.tape, BW3.out.output, BW3.out.size, BW3.out.block⟩, fun h => by omega⟩
            · obtain ⟨r, rfl⟩ : ∃ r, q = r + 1 := ⟨q - 1, by omega⟩
              have hlr : r + 1 < l2.length := by omega
              have HSW : Hid (RowsOf f.ps (swap3 l2 (r + 1))) := rows_swap P2.out (by omega) hlr
              have HSL : Hid ((swap3 l2 (r + 1)).length = m) := (swap3_length _ _).trans hl2
              have HST : Hid (lt3 (gt3 l2 (r + 1)) (gt3 l2 r) → InsAt (swap3 l2 (r + 1)) i r) := (show _ → _ from fun h => T2.out.step (Nat.succ_pos r) h)
              have HSP : Hid (¬ lt3 (gt3 l2 (r + 1)) (gt3 l2 r) → SortTo l2 (i + 1)) := (show _ → _ from fun h => T2.out.done (fun _ => lt3_or h (P2.out.ne (show r < l2.length by omega) hlr (by omega))))
              have HCE : Hid (∀ (W : World) (xs : List Value), W.ownsRow W1.heap.size 143 3 (.slice (some ⟨g, 0, none⟩) m cp) m xs → ∀ j, j < m * 3 → ∃ y, W.cell? ⟨g, j, none⟩ = some y ∧ W.frozen? ⟨g, j, none⟩ = false ∧ ∀ u, (W.setCell ⟨g, j, none⟩ u).ownsRow W1.heap.size 143 3 (.slice (some ⟨g, 0, none⟩) m cp) m (xs.set j u)) :=
                (show ∀ W xs, _ from fun W xs h j hj => ⟨xs[j]'(by rw [h.1]; exact hj), (h.cellAt j hj).trans (List.getElem?_eq_getElem _), h.frozenAt j, fun u => (h.stored j u).1⟩)
              have HSE : Hid ((((((((tcells l2).set ((r + 1) * 3) (.int .i64 (gt3 l2 r).a)).set ((r + 1) * 3 + 1) (.int .i64 (gt3 l2 r).b)).set ((r + 1) * 3 + 2) (.int .i64 (gt3 l2 r).n)).set (r * 3) (.int .i64 (gt3 l2 (r + 1)).a)).set (r * 3 + 1) (.int .i64 (gt3 l2 (r + 1)).b)).set (r * 3 + 2) (.int .i64 (gt3 l2 (r + 1)).n)) = tcells (swap3 l2 (r + 1))) := by
                show _ = _
                rw [tcells_set l2 (r + 1) (gt3 l2 r) hlr, tcells_set _ r (gt3 l2 (r + 1)) (by simp; omega)]
                rfl
              obtain ⟨t0, t1, t2⟩ := tcells_at l2 (r + 1) hlr
              obtain ⟨t3, t4, t5⟩ := tcells_at l2 r (by omega)
              have HCC : Hid (∀ (W : World), W.ownsRow W1.heap.size 143 3 (.slice (some ⟨g, 0, none⟩) m cp) m (tcells l2) → W.cell? ⟨g, (r + 1) * 3, none⟩ = some (.int .i64 (gt3 l2 (r + 1)).a) ∧ W.cell? ⟨g, (r + 1) * 3 + 1, none⟩ = some (.int .i64 (gt3 l2 (r + 1)).b) ∧ W.cell? ⟨g, (r + 1) * 3 + 2, none⟩ = some (.int .i64 (gt3 l2 (r + 1)).n) ∧ W.cell? ⟨g, r * 3, none⟩ = some (.int .i64 (gt3 l2 r).a) ∧ W.cell? ⟨g, r * 3 + 1, none⟩ = some (.int .i64 (gt3 l2 r).b) ∧ W.cell? ⟨g, r * 3 + 2, none⟩ = some (.int .i64 (gt3 l2 r).n)) :=
                (show ∀ W, _ from fun W h => ⟨(h.cellAt _ (by omega)).trans t0, (h.cellAt _ (by omega)).trans t1, (h.cellAt _ (by omega)).trans t2, (h.cellAt _ (by omega)).trans t3, (h.cellAt _ (by omega)).trans t4, (h.cellAt _ (by omega)).trans t5⟩)
              obtain ⟨y0, y1, y2, y3, y4, y5⟩ := HCC.out wr N2.out
              have HRM := Lib.hid (show r + 1 < m by omega)
              have P3 : Hid (RowsOf f.ps l2) := P2.out
              clear t0 t1 t2 t3 t4 t5 hlr T2 P2 P1 T1 N1
              generalize gt3 l2 (r + 1) = u at *
              generalize gt3 l2 r = v at *
              have r0 : (0 : Int) ≤ (r : Int) := by omega
              have r1 : (0 : Int) ≤ (r : Int) + 1 := by omega
              have rm : (r : Int) < (m : Int) := by have := HRM.out; omega
              have rm1 : (r : Int) + 1 < (m : Int) := by have := HRM.out; omega
              have hd : decide ((r : Int) + 1 > 0) = true := decide_eq_true (by omega)
              have ew : IntKind.i64.wrap ((r : Int) + 1 - 1) = (r : Int) := by rw [show (r : Int) + 1 - 1 = r by omega]; exact IntWalk.i64_in _ (by omega)
              have ew2 : IntKind.i64.wrap (r : Int) = (r : Int) := IntWalk.i64_in _ (by omega)
              have et : ((r : Int) + 1).toNat = r + 1 := by omega
              by_cases hab : u.a < v.a
              · have hd1 : decide (u.a < v.a) = true := decide_eq_true hab
                have HT := Lib.hid (HST.out (.inl hab))
                clear hab
                clear HST HSP
                go_wp2_with fail
                go_quiet (fail)
                have N3 : Hid ((wr.drewN nq).ownsRow W1.heap.size 143 3 (.slice (some ⟨g, 0, none⟩) m cp) m (tcells l2)) := N2.out
                have B3 : Hid (Below W1.heap.size W1 (wr.drewN nq)) := ⟨BW3.out.os, BW3.out.tape, BW3.out.output, BW3.out.size, BW3.out.block⟩
                clear y0 y1 y2 y3 y4 y5 N2 BW3
                generalize wr.drewN nq = W3 at *
                obtain ⟨y0, y1, y2, y3, y4, y5⟩ := HCC.out W3 N3.out
                obtain ⟨_, h0, f0, s0⟩ := HCE.out W3 _ N3.out ((r + 1) * 3) (by omega)
                obtain ⟨_, h1, f1, s1⟩ := HCE.out _ _ (s0 (.int .i64 v.a)) ((r + 1) * 3 + 1) (by omega)
                obtain ⟨_, h2, f2, s2⟩ := HCE.out _ _ (s1 (.int .i64 v.b)) ((r + 1) * 3 + 2) (by omega)
                obtain ⟨_, h3, f3, s3⟩ := HCE.out _ _ (s2 (.int .i64 v.n)) (r * 3) (by omega)
                obtain ⟨_, h4, f4, s4⟩ := HCE.out _ _ (s3 (.int .i64 u.a)) (r * 3 + 1) (by omega)
                obtain ⟨_, h5, f5, s5⟩ := HCE.out _ _ (s4 (.int .i64 u.b)) (r * 3 + 2) (by omega)
                have e9 := s5 (.int .i64 u.n)
                rw [HSE.out] at e9
                have HN4 := Lib.hid e9
                have HB4 := Lib.hid ((((((B3.out.setCell (p := ⟨g, (r + 1) * 3, none⟩) hgb (.int .i64 v.a)).setCell (p := ⟨g, (r + 1) * 3 + 1, none⟩) hgb (.int .i64 v.b)).setCell (p := ⟨g, (r + 1) * 3 + 2, none⟩) hgb (.int .i64 v.n)).setCell (p := ⟨g, r * 3, none⟩) hgb (.int .i64 u.a)).setCell (p := ⟨g, r * 3 + 1, none⟩) hgb (.int .i64 u.b)).setCell (p := ⟨g, r * 3 + 2, none⟩) hgb (.int .i64 u.n))
                clear s0 s1 s2 s3 s4 s5 e9 h0
                go_wp2_with fail
                go_big_region
                go_wp2_with fail
                go_roundg r
                case measure => omega
                case rel => exact ⟨r, swap3 l2 (r + 1), by omega, by omega, by go_num, HSL.out, HSW.out, HT.out, HN4.out, HB4.out.drew⟩
              · have hd1 : decide (u.a < v.a) = false := decide_eq_false hab
                by_cases hae : u.a = v.a
                · have hd2 : (u.a == v.a) = true := by simp [hae]
                  by_cases hbb : u.b < v.b
                  · have hd3 : decide (u.b < v.b) = true := decide_eq_true hbb
                    have HT := Lib.hid (HST.out (.inr ⟨hae, hbb⟩))
                    clear hab hae hbb
                    clear HST HSP
                    go_wp2_with fail
                    go_quiet (fail)
                    have N3 : Hid ((wr.drewN nq).ownsRow W1.heap.size 143 3 (.slice (some ⟨g, 0, none⟩) m cp) m (tcells l2)) := N2.out
                    have B3 : Hid (Below W1.heap.size W1 (wr.drewN nq)) := ⟨BW3.out.os, BW3.out.tape, BW3.out.output, BW3.out.size, BW3.out.block⟩
                    clear y0 y1 y2 y3 y4 y5 N2 BW3
                    generalize wr.drewN nq = W3 at *
                    obtain ⟨y0, y1, y2, y3, y4, y5⟩ := HCC.out W3 N3.out
                    obtain ⟨_, h0, f0, s0⟩ := HCE.out W3 _ N3.out ((r + 1) * 3) (by omega)
                    obtain ⟨_, h1, f1, s1⟩ := HCE.out _ _ (s0 (.int .i64 v.a)) ((r + 1) * 3 + 1) (by omega)
                    obtain ⟨_, h2, f2, s2⟩ := HCE.out _ _ (s1 (.int .i64 v.b)) ((r + 1) * 3 + 2) (by omega)
                    obtain ⟨_, h3, f3, s3⟩ := HCE.out _ _ (s2 (.int .i64 v.n)) (r * 3) (by omega)
                    obtain ⟨_, h4, f4, s4⟩ := HCE.out _ _ (s3 (.int .i64 u.a)) (r * 3 + 1) (by omega)
                    obtain ⟨_, h5, f5, s5⟩ := HCE.out _ _ (s4 (.int .i64 u.b)) (r * 3 + 2) (by omega)
                    have e9 := s5 (.int .i64 u.n)
                    rw [HSE.out] at e9
                    have HN4 := Lib.hid e9
                    have HB4 := Lib.hid ((((((B3.out.setCell (p := ⟨g, (r + 1) * 3, none⟩) hgb (.int .i64 v.a)).setCell (p := ⟨g, (r + 1) * 3 + 1, none⟩) hgb (.int .i64 v.b)).setCell (p := ⟨g, (r + 1) * 3 + 2, none⟩) hgb (.int .i64 v.n)).setCell (p := ⟨g, r * 3, none⟩) hgb (.int .i64 u.a)).setCell (p := ⟨g, r * 3 + 1, none⟩) hgb (.int .i64 u.b)).setCell (p := ⟨g, r * 3 + 2, none⟩) hgb (.int .i64 u.n))
                    clear s0 s1 s2 s3 s4 s5 e9 h0
                    go_wp2_with fail
                    go_big_region
                    go_wp2_with fail
                    go_roundg r
                    case measure => omega
                    case rel => exact ⟨r, swap3 l2 (r + 1), by omega, by omega, by go_num, HSL.out, HSW.out, HT.out, HN4.out, HB4.out.drew⟩
                  · have hd3 : decide (u.b < v.b) = false := decide_eq_false hbb
                    have HT := Lib.hid (HSP.out (by unfold lt3; omega))
                    clear hab hae hbb
                    clear HST HSP
                    go_wp2_with fail
                    go_quiet (fail)
                    clear y0 y1 y2 y3 y4 y5 ew et
                    go_wp2_with fail
                    go_roundg (m - (i + 1))
                    case measure => omega
                    case rel => exact ⟨i + 1, l2, by omega, by omega, by omega, by go_num, hl2, P3.out, HT.out, N2.out, ⟨BW3.out.os, BW3.out.tape, BW3.out.output, BW3.out.size, BW3.out.block⟩, fun h => by omega⟩
                · have hd2 : (u.a == v.a) = false := by simp [hae]
                  have HT := Lib.hid (HSP.out (by unfold lt3; omega))
                  clear hab hae
                  clear HST HSP
                  go_wp2_with fail
                  go_quiet (fail)
                  clear y0 y1 y2 y3 y4 y5 ew et
                  go_wp2_with fail
                  go_roundg (m - (i + 1))
                  case measure => omega
                  case rel => exact ⟨i + 1, l2, by omega, by omega, by omega, by go_num, hl2, P3.out, HT.out, N2.out, ⟨BW3.out.os, BW3.out.tape, BW3.out.output, BW3.out.size, BW3.out.block⟩, fun h => by omega⟩
        · have himz : ¬ (i : Int) < (m : Int) := by omega
          have HBI : Hid (BillOf f.ps l1) := P1.out.bill (fun x y h1 h2 => T1.out x y h1 (by omega))
          have HB2 := Lib.hid (HBB.out.trans (BW2.out.mono HBB.out.size))
          have HV : Hid (TsV wr l1 (.slice A1 m cp)) := by
            show TsV _ _ _
            have := N1.out
            rw [← hl1] at this ⊢
            exact ts_own this
          clear T1 N1 P1 BW2
          go_wp2_with fail
          go_ret
          exact ⟨l1, _, rfl, HBI.out, by omega, HV.out, HB2.out⟩
end Go.Proofs.Ytlfeoofchebbkaa
