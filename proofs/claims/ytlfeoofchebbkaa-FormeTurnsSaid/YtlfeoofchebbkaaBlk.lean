/- forme.Bill: a forme that is not right. -/
import Derived.Test.YtlfeoofchebbkaaMcn
import Derived.Test.YtlfeoofchebbkaaCm3
import Derived.Test.YtlfeoofchebbkaaMrp
import Derived.Test.YtlfeoofchebbkaaSb3
namespace Go.Proofs.Ytlfeoofchebbkaa
set_option linter.unusedSimpArgs false
set_option linter.unusedVariables false
open Go.RowKit
set_option maxRecDepth 100000 in
theorem bill_bad (f : Forme) (A : Option Addr) (b off c : Nat) (w : World) (hA : Lies A f.ps.length w.heap.size b off) (hps : PsAt w b off f.ps) (hnm : NameOk f.ps) (hc : f.ps.length ≤ c) (hm : f.ps.length ≤ 9223372036854775807) (hs : (checkF f).2 ≠ 0) :
    Calls Try.prog 68 #[.agg #[.int .i64 f.W, .int .i64 f.H, .slice A f.ps.length c]] w fun e w' => e = .returned (.tuple #[.slice none 0 0, .int .i64 (checkF f).2]) ∧ Below w.heap.size w w' := by
  have hB := below_new w (Obj.cells #[Value.int IntKind.i64 f.W, Value.int IntKind.i64 f.H, Value.slice A f.ps.length c] 37)
  have hF := Blk.new w 37 #[Value.int IntKind.i64 f.W, Value.int IntKind.i64 f.H, Value.slice A f.ps.length c]
  have hcall := check_any f A b off c (w.alloc (Obj.cells #[Value.int IntKind.i64 f.W, Value.int IntKind.i64 f.H, Value.slice A f.ps.length c] 37)) (hA.mono (by simp)) (fun j hj => (hps j hj).below hB (hA (by omega)).2) hnm hc hm
  have hsb : ((checkF f).2 != 0) = true := bne_t hs
  generalize (checkF f).2 = s at *
  generalize f.ps.length = n at *
  clear hA hps hnm hs
  go_enter Try.func68, Try.ntmps68
  go_wp2_with fail
  generalize w.alloc (Obj.cells #[Value.int IntKind.i64 f.W, Value.int IntKind.i64 f.H, Value.slice A n c] 37) = W0 at *
  refine hcall.mono ?_
  rintro e w1 ⟨rfl, b1⟩
  have HB := Lib.hid (hB.trans (b1.mono hB.size))
  go_wp2_with fail
  go_ret2
  exact ⟨rfl, HB.out⟩
end Go.Proofs.Ytlfeoofchebbkaa
/- forme.Bill of a right forme: the sorted bill. -/
namespace Go.Proofs.Ytlfeoofchebbkaa
set_option linter.unusedSimpArgs false
set_option linter.unusedVariables false
open Go.RowKit
theorem cntF_sides {ps : List Piece} {a b : Int} (h : 0 < cntF ps a b) : ∃ p ∈ ps, max p.w p.h = a ∧ min p.w p.h = b := by
  unfold cntF at h
  have h2 : 0 < ps.countP (keyF a b) := by omega
  obtain ⟨p, hp, hk⟩ := List.countP_pos_iff.1 h2
  unfold keyF at hk
  simp only [Bool.and_eq_true, decide_eq_true_eq] at hk
  exact ⟨p, hp, hk.2.1, hk.2.2⟩
theorem owns_size {W : World} {b n : Nat} {D : DataW Unit} (h : W.ownsMap Try.prog 57 (plainElem Try.prog 3) b n D) : Maps.size D ≤ n := by
  obtain ⟨es, clock, _, _, hs, rfl⟩ := h
  show List.length _ ≤ n
  rw [length_sorted, List.length_map]
  simpa using hs
theorem below_some {B : Nat} {w w1 w2 : World} {r : Nat} (h : Below B w w1) (hs : B ≤ w1.heap.size) (hg : w1.grownBy w2 (some r)) (hr : B ≤ r) : Below B w w2 :=
  h.grown hg hs (fun t ht => by cases ht; exact hr)
set_option maxRecDepth 100000 in
set_option maxHeartbeats 8000000 in
theorem bill_ok (f : Forme) (A : Option Addr) (b off c : Nat) (w : World) (hA : Lies A f.ps.length w.heap.size b off) (hps : PsAt w b off f.ps) (hnm : NameOk f.ps) (hc : f.ps.length ≤ c) (hm : f.ps.length ≤ 1000000) (hs : (checkF f).2 = 0) :
    Calls Try.prog 68 #[.agg #[.int .i64 f.W, .int .i64 f.H, .slice A f.ps.length c]] w fun e w' => ∃ l v, e = .returned (.tuple #[v, .int .i64 0]) ∧ BillOf f.ps l ∧ l.length ≤ f.ps.length ∧ TsV w' l v ∧ Below w.heap.size w w' := by
  obtain ⟨i0, hi0, hz0, hz1, hz2⟩ := info_parts Try.info143
  have hr := checkF_zero hs
  have hB := below_new w (Obj.cells #[Value.int IntKind.i64 f.W, Value.int IntKind.i64 f.H, Value.slice A f.ps.length c] 37)
  have hF := Blk.new w 37 #[Value.int IntKind.i64 f.W, Value.int IntKind.i64 f.H, Value.slice A f.ps.length c]
  have hcall := check_any f A b off c (w.alloc (Obj.cells #[Value.int IntKind.i64 f.W, Value.int IntKind.i64 f.H, Value.slice A f.ps.length c] 37)) (hA.mono (by simp)) (fun j hj => (hps j hj).below hB (hA (by omega)).2) hnm hc (by omega)
  rw [hs] at hcall
  have hmm := @run_makeMap Try.prog
  have HPS : Hid (∀ W, Below w.heap.size w W → PsAt W b off f.ps) := (show ∀ W, _ from fun W hW j hj => (hps j hj).below hW (hA (by omega)).2)
  have HTK : Hid (∀ k, k < f.ps.length → f.ps.take (k + 1) = f.ps.take k ++ [gp f.ps k]) := fun k hk => take_succ_gp hk
  have HTE : Hid (f.ps.take f.ps.length = f.ps) := List.take_length
  have HSM : Hid (∀ i, i < f.ps.length → Sml (gp f.ps i)) := fun i hi => hr.toLaid.sml hi
  have HWF : Hid (∀ a b, 0 < cntF f.ps a b → ∃ kl, keyOf Try.prog 57 (pr57 a b) = some kl) := (show ∀ a b, _ from fun a b h => by
    obtain ⟨p, hp, rfl, rfl⟩ := cntF_sides h
    obtain ⟨i, hi, rfl⟩ := List.getElem_of_mem hp
    obtain ⟨q1, q2, q3, q4, q5, q6, q7, q8⟩ := hr.toLaid.sml hi
    rw [gp_get hi] at *
    obtain ⟨s, hs⟩ := key57 (max f.ps[i].w f.ps[i].h) (min f.ps[i].w f.ps[i].h) (WalkArith.wf_i64 (by omega)) (WalkArith.wf_i64 (by omega))
    exact ⟨_, hs⟩)
  have hz3 : ∀ u : World, (zeroValue 3).run Try.prog u = .ok (.int .i64 0) u := Try.zeroValue3
  have HZ3 := Lib.hid hz3
  clear hz3 hps hr hnm hs
  generalize hn : f.ps.length = n at *
  have HNN := Lib.hid hn
  clear hn
  go_enter Try.func68, Try.ntmps68
  go_wp2_with fail
  generalize hW0 : w.alloc (Obj.cells #[Value.int IntKind.i64 f.W, Value.int IntKind.i64 f.H, Value.slice A n c] 37) = W0 at *
  refine hcall.mono ?_
  rintro e w1 ⟨rfl, b1⟩
  have F1 := hF.below b1 (by rw [← hW0]; simp)
  have f2 : (w1.alloc (.map #[] 0)).cell? ⟨w.heap.size, 2, none⟩ = some (.slice A n c) := (F1.below (below_new w1 (.map #[] 0)) F1.lt).cell 2
  have hb1 : Below w.heap.size w w1 := hB.trans (b1.mono hB.size)
  have hbs : w.heap.size ≤ w1.heap.size := hb1.size
  have HB1 : Hid (Below w.heap.size w (w1.alloc (.map #[] 0))) := hb1.alloc hbs _
  have OM0 : Hid ((w1.alloc (.map #[] 0)).ownsMap Try.prog 57 (plainElem Try.prog 3) w1.heap.size 0 (.map [] : DataW Unit)) := World.ownsMap_made _ _ _ _
  have HBM : Hid (Below w1.heap.size w1 (w1.alloc (.map #[] 0))) := below_new _ _
  clear hb1 b1 hB hcall F1 hF
  go_wp2_with fail
  generalize w1.alloc (.map #[] 0) = W1 at *
  generalize hmb : w1.heap.size = mb at *
  go_loopg [20] n (fun gg s20 wr => ∃ (k : Nat) (D : DataW Unit), k ≤ n ∧ n - k ≤ gg ∧ s20 = .int .i64 k ∧ Hid (MapCnt D (f.ps.take k)) ∧ Hid (wr.ownsMap Try.prog 57 (plainElem Try.prog 3) mb k D) ∧ Hid (Below mb w1 wr) ∧ Hid (Below w.heap.size w wr))
  case atStart =>
    refine ⟨0, .map [], by omega, by omega, rfl, ?_, OM0.out, HBM.out, HB1.out⟩
    show MapCnt _ _
    rw [List.take_zero]; exact mapCnt_nil
  case round =>
    obtain ⟨k, D, hk, hgk, rfl, MC, OM, BW, BX⟩ := hrel
    have hsz := BW.out.size
    have hszx := BX.out.size
    by_cases hlt : k < n
    · have hltz : (k : Int) < (n : Int) := by omega
      have hk0 : (0 : Int) ≤ (k : Int) := by omega
      obtain ⟨rfl, hb⟩ := hA (by omega)
      obtain ⟨c0, c1, c2, c3, c4, c5⟩ := HPS.out wr BX.out k (by have := HNN.out; omega)
      have hsm := HSM.out k hlt
      have HT1 := Lib.hid (HTK.out k hlt)
      generalize gp f.ps k = p at *
      obtain ⟨q1, q2, q3, q4, q5, q6, q7, q8⟩ := hsm
      have hp := Blk.new wr 70 #[Value.string p.name, Value.int IntKind.i64 p.kind, Value.int IntKind.i64 p.x, Value.int IntKind.i64 p.y, Value.int IntKind.i64 p.w, Value.int IntKind.i64 p.h]
      have p1 := hp.cell 1
      have p4 := hp.cell 4
      have p5 := hp.cell 5
      have OQ := Lib.hid (OM.out.alloc (Obj.cells #[Value.string p.name, Value.int IntKind.i64 p.kind, Value.int IntKind.i64 p.x, Value.int IntKind.i64 p.y, Value.int IntKind.i64 p.w, Value.int IntKind.i64 p.h] 70))
      have BQ := Lib.hid (BW.out.alloc (by omega) (Obj.cells #[Value.string p.name, Value.int IntKind.i64 p.kind, Value.int IntKind.i64 p.x, Value.int IntKind.i64 p.y, Value.int IntKind.i64 p.w, Value.int IntKind.i64 p.h] 70))
      have BXQ := Lib.hid (BX.out.alloc hszx (Obj.cells #[Value.string p.name, Value.int IntKind.i64 p.kind, Value.int IntKind.i64 p.x, Value.int IntKind.i64 p.y, Value.int IntKind.i64 p.w, Value.int IntKind.i64 p.h] 70))
      clear hp
      by_cases hk2 : p.kind = 2
      · have hk2' : (p.kind == 2) = true := by simp [hk2]
        have HK2 := Lib.hid hk2
        clear hk2
        go_wp2_with fail
        clear c0 c1 c2 c3 c4 c5
        obtain ⟨kls, hkl⟩ := key57 (max p.w p.h) (min p.w p.h) (WalkArith.wf_i64 (by omega)) (WalkArith.wf_i64 (by omega))
        obtain ⟨cc, v0, st, V1, hat, hwc, hlkd, hMd, hlke, hSt⟩ := bump_runs law57 Try.underlying142 Try.underlying3 HZ3.out OQ.out (by simp only [maxLen]; omega) hkl
        have hcc : cc = cntF (f.ps.take k) (max p.w p.h) (min p.w p.h) := by
          have := MC.out.val _ _ _ hkl
          rw [hat] at this
          simpa using this
        have hcl := cntF_le (f.ps.take k) (max p.w p.h) (min p.w p.h)
        rw [List.length_take, ← hcc] at hcl
        have hc0 : 0 ≤ cc := by rw [hcc]; exact cntF_nonneg _ _ _
        have hc1 : cc ≤ k := by omega
        have ew : IntKind.i64.wrap (cc + 1) = cc + 1 := IntWalk.i64_in _ (by omega)
        obtain ⟨V2, hSd, OM2, hg2, hs2⟩ := hSt (cc + 1) (WalkArith.wf_i64 (by omega))
        have MC2 : Hid (MapCnt (D.put (.string kls) (.lit (.int .i64 (cc + 1)))) (f.ps.take (k + 1))) := by
          show MapCnt _ _
          rw [HT1.out, hcc]
          exact MC.out.put HK2.out hkl
        have OM3 := Lib.hid OM2
        have B2 : Hid (Below mb w1 V2) := below_some BQ.out (by simp; omega) hg2 (Nat.le_refl _)
        have BX2 : Hid (Below w.heap.size w V2) := below_some BXQ.out (by simp; omega) hg2 (by omega)
        clear hat hwc hcc hcl hSt OM2 hg2 hs2 hkl MC OM BW BX OQ BQ BXQ
        generalize wr.alloc (Obj.cells #[Value.string p.name, Value.int IntKind.i64 p.kind, Value.int IntKind.i64 p.x, Value.int IntKind.i64 p.y, Value.int IntKind.i64 p.w, Value.int IntKind.i64 p.h] 70) = Wq at *
        have p4d : Wq.drew.cell? ⟨wr.heap.size, 4, none⟩ = some (.int .i64 p.w) := p4
        have p5d : Wq.drew.cell? ⟨wr.heap.size, 5, none⟩ = some (.int .i64 p.h) := p5
        go_big_region
        go_wp2_with fail
        go_roundg (n - (k + 1))
        case measure => omega
        case rel => exact ⟨k + 1, _, by omega, by omega, by go_num, MC2.out, OM3.out, B2.out, BX2.out⟩
      · have hk2' : (p.kind == 2) = false := by simp [hk2]
        have HK2 := Lib.hid hk2
        clear hk2
        go_wp2_with fail
        go_roundg (n - (k + 1))
        case measure => omega
        case rel =>
          refine ⟨k + 1, D, by omega, by omega, by go_num, ?_, OQ.out.mono (Nat.le_succ _), BQ.out, BXQ.out⟩
          show MapCnt _ _
          rw [HT1.out]; exact MC.out.skip HK2.out
    · have hltz : ¬ (k : Int) < (n : Int) := by omega
      have he : k = n := by omega
      subst he
      have hms : Maps.size D ≤ k := owns_size OM.out
      have MCF : Hid (MapCnt D f.ps) := by
        show MapCnt _ _
        have := MC.out
        rwa [HTE.out] at this
      clear MC
      go_wp2_with (first
        | (at_range; refine wpList_range_own _ rfl _ 142 rfl 57 3 keyed57 Try.underlying142 _ mb k D rfl OM.out ?_; intro w0 hrg0 hg0 hs0)
        | go_in)
      try go_frame
      have HRG0 := Lib.hid hrg0
      have HB0 : Hid (Below w.heap.size w w0) := BX.out.grown hg0 hszx (fun t ht => by cases ht)
      clear hrg0 hg0
      generalize hr0 : wr.heap.size = r at *
      generalize hmz : Maps.size D = ms at *
      go_loopg [8] ms (fun gg s8 wi => ∃ (l : List Tri) (left : Lit → Bool) (cnt : Nat), cnt ≤ gg ∧ l.length + cnt ≤ ms ∧ Hid (RowsLeft D f.ps left l) ∧ Hid (wi.ownsRow (r + 1) 143 3 s8 l.length (tcells l)) ∧ Hid (wi.ranges Try.prog 57 (plainElem Try.prog 3) mb r k D left cnt) ∧ Hid (Below w.heap.size w wi) ∧ r + 1 ≤ wi.heap.size)
      case atStart => exact ⟨[], Maps.has D, ms, Nat.le_refl _, by simp, RowsLeft.start MCF.out, World.ownsRow_nil _ _ _ _, HRG0.out, HB0.out, by omega⟩
      case round =>
        obtain ⟨l, left, cnt, hgc, hlc, RL, R, RG, BY, hsy⟩ := hrel
        obtain ⟨A9, c9, rfl⟩ := own_slice R.out
        go_wp2_with (first
          | (at_next; refine wpList_next_ranges _ rfl _ rfl 57 keyed57 (plainElem Try.prog 3) (fun p : Int × Int => .agg #[.int .i64 p.1, .int .i64 p.2]) (Value.int .i64) key57_inv (fun v y h => by obtain ⟨c, rfl, _⟩ := plainElem_int_inv Try.underlying3 h; exact ⟨c, rfl⟩) mb r k D left cnt rfl RG.out ?_ ?_)
          | go_in)
        · intro hc0 hl0
          have HRO := Lib.hid (RL.out.done hl0 HWF.out)
          have hsort := sort3_own (r + 1) (.slice A9 l.length c9) l wr R.out (by omega)
          have hry := hsy
          clear hc0 hl0
          go_wp2_with fail
          refine hsort.mono ?_
          rintro e w2 ⟨rfl, hT, hb2⟩
          have HT2 := Lib.hid hT
          have HB2 : Hid (Below w.heap.size w w2) := BY.out.trans (hb2.mono (by omega))
          clear hT hb2
          go_wp2_with fail
          go_ret2
          exact ⟨sortB l, _, rfl, sortB_bill HRO.out, by rw [sortB_length]; have := HNN.out; omega, HT2.out, HB2.out⟩
        · intro x z cv kl y1 y2 w1' cnt1 hkey hleft hRc hat hrg1 hlt1 hg1 hs1 hen
          obtain ⟨c', ec, ey, hwc⟩ := plainElem_int_inv Try.underlying3 hRc
          cases ec
          cases ey
          have HRL : Hid (RowsLeft D f.ps (fun z => left z && !z.sameKey kl) (l ++ [(⟨x, z, cv⟩ : Tri)])) := RL.out.step MCF.out hkey hleft (hat _)
          have hOB : ∀ t, (Value.slice A9 l.length c9).ownBlock = some t → r + 1 ≤ t := fun t ht => (R.out.lt t ht).1
          have R1 : Hid (w1'.ownsRow (r + 1) 143 3 (.slice A9 l.length c9) l.length (tcells l)) := R.out.kept hg1 (.inr fun e => by have := hOB r e; omega)
          have RG1 := Lib.hid hrg1
          have hxs := BY.out.size
          have BY1 : Hid (Below w.heap.size w w1') := below_some BY.out hxs hg1 hszx
          have hbx := Blk.new w1' 57 #[Value.int IntKind.i64 x, Value.int IntKind.i64 z]
          have x0 := hbx.cell 0
          have x1 := hbx.cell 1
          have hsn : r + 1 ≤ w1'.heap.size := by omega
          have hxn := BY1.out.size
          clear hkey hleft hRc hat hrg1 hg1 hbx RL R RG BY hs1 hsy
          go_wp2_with ((at_builtin
                        refine wpList_append_lies _ rfl (.tmp 51) (.tmp 58) 96 (by rfl) (r + 1) 143 i0 _ 3 24 Try.underlying96 hi0 hz0 hz1 hz2 rfl (by omega) (.slice A9 l.length c9) l.length _ (by rfl) ((R1.out.alloc _).alloc _) ⟨w1'.heap.size + 1, 0, none⟩ 1 1 [.int .i64 x, .int .i64 z, .int .i64 cv] (by rfl) (by rfl) (news_two w1' _ _ 143) (by simp [Value.oneCell']) (by omega) (by simp only [maxLen]; omega) (by omega) (by simp; omega) (w1'.heap.size + 1 + 1) (by simp) ?_
                        intro g1 cap1 w2 hown hgrow hat9 hlt9
                        have HO9 := Lib.hid hown
                        have HG9 := Lib.hid hgrow
                        clear hown hgrow hat9))
          go_roundg cnt1
          case measure => omega
          case rel =>
            refine ⟨l ++ [(⟨x, z, cv⟩ : Tri)], _, cnt1, Nat.le_refl _, by simp; omega, HRL.out, ?_, ?_, ?_, by have := HG9.out.size; simp at this; omega⟩
            · show World.ownsRow _ _ _ _ _ _ _
              rw [List.length_append, tcells_app]
              exact HO9.out
            · exact ((RG1.out.alloc _).alloc _).kept HG9.out (fun e => by have := hOB mb e.symm; have := BW.out.size; omega) (fun e => by have := hOB r e.symm; omega)
            · exact ((BY1.out.alloc (by omega) _).alloc (by simp; omega) _).grown HG9.out (by simp; omega) (fun t ht => by have := hOB t ht; omega)
end Go.Proofs.Ytlfeoofchebbkaa
