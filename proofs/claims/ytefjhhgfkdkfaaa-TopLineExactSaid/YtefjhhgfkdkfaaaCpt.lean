/- Copies of a task: CopyLists, ref03.Copy. -/
import Derived.Test.YtefjhhgfkdkfaaaRtk
import Derived.Test.YtefjhhgfkdkfaaaLwd
namespace Go.Proofs.Ytefjhhgfkdkfaaa
set_option linter.unusedSimpArgs false
set_option linter.unusedVariables false
open Go.RowKit
def ClsPost (w : World) (ls : List (List Int)) (e : Ending) (w' : World) : Prop := ∃ v hd, e = .returned v ∧ PSt w' w.heap.size ls v hd ∧ Below w.heap.size w w'
set_option maxRecDepth 100000 in
set_option maxHeartbeats 4000000 in
theorem copyLists_any (ls : List (List Int)) (v : Value) (w : World) (hv : LV w ls v) (hm : ls.length ≤ 1000) (hl : ∀ k, k < ls.length → (gl ls k).length ≤ 1000000) : Calls Try.prog 59 #[v] w (ClsPost w ls) := by
  have HP : Hid (∀ W v hd, PSt W w.heap.size ls v hd → Below w.heap.size w W → ClsPost w ls (.returned v) W) := (show ∀ W v hd, _ from fun W v hd h hb => ⟨v, hd, rfl, h, hb⟩)
  have HV := Lib.hid hv
  have HL := Lib.hid hl
  obtain ⟨Av, cv, rfl, -, -⟩ := hv.shape
  obtain ⟨i30, hi30, hz30, hy30, hx30⟩ := info_parts info30
  have HT0 : Hid (PSt w w.heap.size (ls.take 0) (.slice none 0 0) []) := (show PSt _ _ _ _ _ from by rw [List.take_zero]; exact PSt.nil _ _)
  have HTE : Hid (ls.take ls.length = ls) := List.take_length
  have HTS : Hid (∀ k, k < ls.length → ls.take (k + 1) = ls.take k ++ [gl ls k]) := (show ∀ k, _ from fun k hk => by
    rw [List.take_succ_eq_append_getElem hk]
    simp [gl, List.getD_eq_getElem?_getD, hk])
  clear hv hl
  generalize hN : ls.length = N at *
  have HN := Lib.hid hN
  clear hN
  go_enter Try.func59, Try.ntmps59
  go_wp2_with fail
  go_loopg [3, 4] N (fun gg s3 s4 wr => ∃ (k : Nat) (hd : List Value), k ≤ N ∧ N - k ≤ gg ∧ s4 = .int .i64 (k : Int) ∧ Hid (PSt wr w.heap.size (ls.take k) s3 hd) ∧ Hid (Below w.heap.size w wr))
  case atStart => exact ⟨0, [], by omega, by omega, rfl, HT0.out, Below.refl _ _⟩
  case round =>
    obtain ⟨k, hd, hk, hg, rfl, HS, HB⟩ := hrel
    have hbz := HB.out.size
    by_cases hlt : k < N
    · have hltz : (k : Int) < (N : Int) := by omega
      obtain ⟨hs, ⟨A0, b0, o0, c0, he, h1, h2, -⟩, h3⟩ := HV.out.below HB.out
      rw [HN.out] at he h1 h2 h3
      injection he with ea1 ea2 ea3
      clear ea2 ea3
      subst ea1
      obtain ⟨rfl, hbl⟩ := h1 (by omega)
      have z1 := h2 k (by omega)
      have hiv := h3 k hlt
      have hlk := HL.out k (by first | exact hlt | (have := HN.out; omega))
      have HC := Lib.hid (copyInts_any (gl ls k) _ wr hiv hlk)
      have HTK := Lib.hid (HTS.out k (by first | exact hlt | (have := HN.out; omega)))
      have htl : (ls.take k).length = k := by rw [List.length_take, HN.out]; omega
      obtain ⟨A3, c3, rfl⟩ := HS.out.shape
      generalize hs k = vk at *
      obtain ⟨Ak, _, _, ck, rfl, -⟩ := hiv.open
      clear h1 h2 h3 hiv
      rw [htl] at HS ⊢
      have HTL := Lib.hid htl
      clear htl
      go_wp2_with (first
        | (at_builtin
           refine wpList_append_lies _ rfl _ _ 49 rfl w.heap.size 30 i30 _ 1 24 Try.underlying49 hi30 hz30 hy30 hx30 rfl (by omega) _ k hd (by rfl) HOWN.out ⟨w4.heap.size, 0, none⟩ 1 1 [.slice A4 (gl ls k).length c4] (by rfl) rfl hnews (by simp [Value.oneCell']) (by omega) (by simp only [maxLen]; omega) (by omega) hbs4 _ rfl ?_
           intro g7 c7 w7 hown7 hgrow7 hat7 hlt7
           have HS7 : Hid (PSt w7 w.heap.size (ls.take (k + 1)) (.slice (some ⟨g7, 0, none⟩) (k + 1) c7) (hd ++ [.slice A4 (gl ls k).length c4])) := (show PSt _ _ _ _ _ from by
             rw [HTK.out]
             exact PSt.push HS.out hbz HB4.out HIO4.out (by rw [HTL.out]; exact hown7) hgrow7)
           have HB7 : Hid (Below w.heap.size w w7) := (show Below _ _ _ from HBA.out.grown hgrow7 hbs4 (fun t ht => (HS.out.lt t ht).1))
           clear hown7 hgrow7 hat7 hlt7)
        | (with_reducible refine HC.out.mono ?_
           rintro e w4 ⟨v4, rfl, hio4, hb4⟩
           obtain ⟨A4, c4, rfl⟩ := hio4.shape
           have HB4 := Lib.hid hb4
           have HIO4 := Lib.hid hio4
           have HBW4 := Lib.hid (HB.out.trans (hb4.mono hbz))
           have HBA := Lib.hid (HBW4.out.alloc HBW4.out.size (.cells #[.slice A4 (gl ls k).length c4] 30))
           have hbs4 : w.heap.size ≤ (w4.alloc (.cells #[.slice A4 (gl ls k).length c4] 30)).heap.size := HBA.out.size
           have HOWN : Hid ((w4.alloc (.cells #[.slice A4 (gl ls k).length c4] 30)).ownsRow w.heap.size 30 1 (.slice A3 k c3) k hd) := (show World.ownsRow _ _ _ _ _ _ _ from by
             have := ((HS.out.below hb4).below (below_new w4 (.cells #[.slice A4 (gl ls k).length c4] 30))).row
             rw [HTL.out] at this
             exact this)
           have hnews : ∀ j u, ([.slice A4 (gl ls k).length c4] : List Value)[j]? = some u → (w4.alloc (.cells #[.slice A4 (gl ls k).length c4] 30)).cell? ((⟨w4.heap.size, 0, none⟩ : Addr).add j) = some u := World.news_of_block (w := w4.alloc (.cells #[.slice A4 (gl ls k).length c4] 30)) (heap_alloc_new w4 _)
           clear hio4 hb4))
      go_roundg (N - (k + 1))
      case measure => omega
      case rel => exact ⟨k + 1, _, by omega, by omega, by go_num, HS7.out, HB7.out⟩
    · have hltz : ¬ (k : Int) < (N : Int) := by omega
      have hke : k = N := by omega
      have HS2 : Hid (PSt wr w.heap.size ls u3 hd) := (show PSt _ _ _ _ _ from by have := HS.out; rw [hke, HTE.out] at this; exact this)
      clear hke HS
      go_wp2_with fail
      go_ret
      exact HP.out _ _ _ HS2.out HB.out
/-- A task copied. -/
def CtPost (t : Tsk) (w : World) (e : Ending) (w' : World) : Prop := ∃ v vc vi vw, e = .returned (.agg (xts t v vc vi vw)) ∧ TkV w' t v vc vi vw ∧ Below w.heap.size w w'
theorem Blk.all7 {W : World} {g : Nat} {t : TypeId} {c0 c1 c2 c3 c4 c5 c6 : Value} (h : Blk W g t #[c0, c1, c2, c3, c4, c5, c6]) (d0 d1 d2 d3 d4 d5 d6 : Value) :
    Blk (((((((W.setCell ⟨g, 0, none⟩ d0).setCell ⟨g, 1, none⟩ d1).setCell ⟨g, 2, none⟩ d2).setCell ⟨g, 3, none⟩ d3).setCell ⟨g, 4, none⟩ d4).setCell ⟨g, 5, none⟩ d5).setCell ⟨g, 6, none⟩ d6) g t #[d0, d1, d2, d3, d4, d5, d6] := by
  have := (((((((h.set_ 0 d0).set_ 1 d1).set_ 2 d2).set_ 3 d3).set_ 4 d4).set_ 5 d5).set_ 6 d6)
  simpa only [List.setIfInBounds_toArray, List.set_cons_zero, List.set_cons_succ] using this
theorem below_all7 {B : Nat} {W0 W : World} {g : Nat} (h : Below B W0 W) (hg : B ≤ g) (d0 d1 d2 d3 d4 d5 d6 : Value) :
    Below B W0 (((((((W.setCell ⟨g, 0, none⟩ d0).setCell ⟨g, 1, none⟩ d1).setCell ⟨g, 2, none⟩ d2).setCell ⟨g, 3, none⟩ d3).setCell ⟨g, 4, none⟩ d4).setCell ⟨g, 5, none⟩ d5).setCell ⟨g, 6, none⟩ d6) := (((((((h.setCell (p := ⟨g, 0, none⟩) hg d0).setCell (p := ⟨g, 1, none⟩) hg d1).setCell (p := ⟨g, 2, none⟩) hg d2).setCell (p := ⟨g, 3, none⟩) hg d3).setCell (p := ⟨g, 4, none⟩) hg d4).setCell (p := ⟨g, 5, none⟩) hg d5).setCell (p := ⟨g, 6, none⟩) hg d6)
theorem own_all7 {W : World} {B g : Nat} {e : TypeId} {sz n : Nat} {v : Value} {xs : List Value} (h : W.ownsRow B e sz v n xs) (hg : g < B) (d0 d1 d2 d3 d4 d5 d6 : Value) :
    World.ownsRow (((((((W.setCell ⟨g, 0, none⟩ d0).setCell ⟨g, 1, none⟩ d1).setCell ⟨g, 2, none⟩ d2).setCell ⟨g, 3, none⟩ d3).setCell ⟨g, 4, none⟩ d4).setCell ⟨g, 5, none⟩ d5).setCell ⟨g, 6, none⟩ d6) B e sz v n xs := (ownsRow_setCell_below (ownsRow_setCell_below (ownsRow_setCell_below (ownsRow_setCell_below (ownsRow_setCell_below (ownsRow_setCell_below (ownsRow_setCell_below h (a := ⟨g, 0, none⟩) hg d0) (a := ⟨g, 1, none⟩) hg d1) (a := ⟨g, 2, none⟩) hg d2) (a := ⟨g, 3, none⟩) hg d3) (a := ⟨g, 4, none⟩) hg d4) (a := ⟨g, 5, none⟩) hg d5) (a := ⟨g, 6, none⟩) hg d6)
theorem pst_all7 {W : World} {B g : Nat} {pss : List (List Int)} {vo : Value} {hd : List Value} (h : PSt W B pss vo hd) (hg : g < B) (d0 d1 d2 d3 d4 d5 d6 : Value) :
    PSt (((((((W.setCell ⟨g, 0, none⟩ d0).setCell ⟨g, 1, none⟩ d1).setCell ⟨g, 2, none⟩ d2).setCell ⟨g, 3, none⟩ d3).setCell ⟨g, 4, none⟩ d4).setCell ⟨g, 5, none⟩ d5).setCell ⟨g, 6, none⟩ d6) B pss vo hd := (PSt.set_ (PSt.set_ (PSt.set_ (PSt.set_ (PSt.set_ (PSt.set_ (PSt.set_ h (a := ⟨g, 0, none⟩) hg d0) (a := ⟨g, 1, none⟩) hg d1) (a := ⟨g, 2, none⟩) hg d2) (a := ⟨g, 3, none⟩) hg d3) (a := ⟨g, 4, none⟩) hg d4) (a := ⟨g, 5, none⟩) hg d5) (a := ⟨g, 6, none⟩) hg d6)
theorem ct_res {W : World} {bR : Nat} {cs : Array Value} (hg : Blk W bR 51 cs) (hs : cs.size = 7) (tmps : Array Value) (hp : tmps.getD 2 undef = .pointer (some ⟨bR, 0, none⟩)) :
    (results Try.f20 tmps).run Try.prog W = .ok (.agg cs) W := by
  have h : Try.f20.results = #[.cell 2 51] := rfl
  have hi : (Try.prog.info? 51).map (·.size) = some cs.size := by rw [hs]; kernel_rfl
  have hp' : tmps[2]?.getD undef = .pointer (some ⟨bR, 0, none⟩) := by simpa using hp
  simp only [results, h]
  simp [Sem.run_bind, Result.andThen, hp', asAddr, run_loadVar_row W bR 51 51 cs (0, 0) _ hg Try.underlying51 rfl hi]
set_option maxRecDepth 100000 in
set_option maxHeartbeats 8000000 in
theorem copy20_any (t : Tsk) (v vc vi vw : Value) (w : World) (h : TkV w t v vc vi vw) (hm : t.f.sorts.length ≤ 100000) (hcm : t.cs.length ≤ 1000000) (him : t.ind.length ≤ 1000000) (hwm : t.words.length ≤ 1000) (hwl : ∀ k, k < t.words.length → (gl t.words k).length ≤ 1000000) :
    Calls Try.prog 20 #[.agg (xts t v vc vi vw)] w (CtPost t w) := by
  have hb0 := below_new w (.cells (xts t v vc vi vw) 51)
  have hb1 := below_new (w.alloc (.cells (xts t v vc vi vw) 51)) (.cells #[.string ⟨#[]⟩, .int .i64 0, .slice none 0 0, .slice none 0 0, .slice none 0 0, .slice none 0 0, .int .i64 0] 51)
  have hK := (Blk.new w 51 (xts t v vc vi vw)).below hb1 (by simp)
  have hR := Blk.new (w.alloc (.cells (xts t v vc vi vw) 51)) 51 #[.string ⟨#[]⟩, .int .i64 0, .slice none 0 0, .slice none 0 0, .slice none 0 0, .slice none 0 0, .int .i64 0]
  rw [World.size_alloc] at hR
  have HB := Lib.hid (hb0.trans (hb1.mono hb0.size))
  have HT := Lib.hid ((h.below hb0).below hb1)
  have HK := Lib.hid hK
  have HR := Lib.hid hR
  have HSZ : Hid (SzOk t.f.sorts) := by obtain ⟨_, _, _, _, _, _, _, _, _, hz⟩ := h.s; exact hz
  obtain ⟨Av, cv, rfl⟩ := h.s.shape
  obtain ⟨Ac, _, _, cc, rfl, -⟩ := h.c.open
  obtain ⟨Ai, _, _, ci, rfl, -⟩ := h.i.open
  obtain ⟨Aw, cw, rfl, -, -⟩ := h.w.shape
  clear hb0 hb1 hK hR h
  go_enter Try.func20, Try.ntmps20
  go_wp2_with fail
  generalize (w.alloc (.cells (xts t (.slice Av t.f.sorts.length cv) (.slice Ac t.cs.length cc) (.slice Ai t.ind.length ci) (.slice Aw t.words.length cw)) 51)).alloc (.cells #[.string ⟨#[]⟩, .int .i64 0, .slice none 0 0, .slice none 0 0, .slice none 0 0, .slice none 0 0, .int .i64 0] 51) = W0 at *
  have HKS : Hid (∀ W, Below W0.heap.size W0 W → (W.cell? ⟨w.heap.size, 0, none⟩ = some (.string t.f.name) ∧ W.cell? ⟨w.heap.size, 1, none⟩ = some (.int .i64 t.f.body) ∧ W.cell? ⟨w.heap.size, 2, none⟩ = some (.slice Av t.f.sorts.length cv) ∧ W.cell? ⟨w.heap.size, 3, none⟩ = some (.slice Ac t.cs.length cc) ∧ W.cell? ⟨w.heap.size, 4, none⟩ = some (.slice Ai t.ind.length ci) ∧ W.cell? ⟨w.heap.size, 5, none⟩ = some (.slice Aw t.words.length cw) ∧ W.cell? ⟨w.heap.size, 6, none⟩ = some (.int .i64 t.me))) := (show ∀ W, _ from fun W hW => by
    have h := HK.out.below hW HK.out.lt
    exact ⟨h.cell 0, h.cell 1, h.cell 2, h.cell 3, h.cell 4, h.cell 5, h.cell 6⟩)
  have HC1 : Hid (∀ W, Below W0.heap.size W0 W → Calls Try.prog 22 #[.agg (fcs t.f (.slice Av t.f.sorts.length cv))] W (CfPost t.f W)) := (show ∀ W, _ from fun W hW => copyFount_any t.f _ W (HT.out.s.below hW) hm)
  have HC2 : Hid (∀ W, Below W0.heap.size W0 W → Calls Try.prog 11 #[.slice Ac t.cs.length cc] W (CloPost W t.cs)) := (show ∀ W, _ from fun W hW => copyInts_any _ _ W (HT.out.c.below hW) hcm)
  have HC3 : Hid (∀ W, Below W0.heap.size W0 W → Calls Try.prog 11 #[.slice Ai t.ind.length ci] W (CloPost W t.ind)) := (show ∀ W, _ from fun W hW => copyInts_any _ _ W (HT.out.i.below hW) him)
  have HC4 : Hid (∀ W, Below W0.heap.size W0 W → Calls Try.prog 59 #[.slice Aw t.words.length cw] W (ClsPost W t.words)) := (show ∀ W, _ from fun W hW => copyLists_any _ _ W (HT.out.w.below hW) hwm hwl)
  have HRL : Hid (w.heap.size + 1 < W0.heap.size) := HR.out.lt
  have hbd : Below W0.heap.size W0 W0.drew := (Below.refl _ _).drew
  have hS0 := HKS.out _ hbd
  go_upto_region 1 with fail
  refine wp_region_split (fun W => (W.cell? ⟨w.heap.size, 0, none⟩ = some (.string t.f.name) ∧ W.cell? ⟨w.heap.size, 1, none⟩ = some (.int .i64 t.f.body) ∧ W.cell? ⟨w.heap.size, 2, none⟩ = some (.slice Av t.f.sorts.length cv) ∧ W.cell? ⟨w.heap.size, 3, none⟩ = some (.slice Ac t.cs.length cc) ∧ W.cell? ⟨w.heap.size, 4, none⟩ = some (.slice Ai t.ind.length ci) ∧ W.cell? ⟨w.heap.size, 5, none⟩ = some (.slice Aw t.words.length cw) ∧ W.cell? ⟨w.heap.size, 6, none⟩ = some (.int .i64 t.me))) 15 (by kernel_rfl) (by decide) ?_
  refine wpG_take 15 0 (v := ?_) rfl (by kernel_rfl) (fun _ _ _ h => h) (Or.inl ⟨by rfl, ?_⟩) (by assumption) ?_
  rotate_left
  · intro w hSw; (try dsimp only at hSw); go_simp; (try with_reducible rfl)
  (try simp only [Act.put, List.getElem_toArray, List.getElem_cons_zero, List.getElem_cons_succ, List.setIfInBounds_toArray, List.set_cons_zero, List.set_cons_succ])
  refine wpG_take 15 1 (v := ?_) rfl (by kernel_rfl) (fun _ _ _ h => h) (Or.inl ⟨by rfl, ?_⟩) (by assumption) ?_
  rotate_left
  · intro w hSw; (try dsimp only at hSw); go_simp; (try with_reducible rfl)
  (try simp only [Act.put, List.getElem_toArray, List.getElem_cons_zero, List.getElem_cons_succ, List.setIfInBounds_toArray, List.set_cons_zero, List.set_cons_succ])
  refine wpG_take 15 3 (v := ?_) rfl (by kernel_rfl) (fun _ _ _ h => h) (Or.inl ⟨by rfl, ?_⟩) (by assumption) ?_
  rotate_left
  · intro w hSw; (try dsimp only at hSw); go_simp; (try with_reducible rfl)
  (try simp only [Act.put, List.getElem_toArray, List.getElem_cons_zero, List.getElem_cons_succ, List.setIfInBounds_toArray, List.set_cons_zero, List.set_cons_succ])
  refine wpG_take 15 4 (v := ?_) rfl (by kernel_rfl) (fun _ _ _ h => h) (Or.inl ⟨by rfl, ?_⟩) (by assumption) ?_
  rotate_left
  · intro w hSw; (try dsimp only at hSw); go_simp; (try with_reducible rfl)
  (try simp only [Act.put, List.getElem_toArray, List.getElem_cons_zero, List.getElem_cons_succ, List.setIfInBounds_toArray, List.set_cons_zero, List.set_cons_succ])
  refine wpG_take 15 6 (v := ?_) rfl (by kernel_rfl) (fun _ _ _ h => h) (Or.inl ⟨by rfl, ?_⟩) (by assumption) ?_
  rotate_left
  · intro w hSw; (try dsimp only at hSw); go_simp; (try with_reducible rfl)
  (try simp only [Act.put, List.getElem_toArray, List.getElem_cons_zero, List.getElem_cons_succ, List.setIfInBounds_toArray, List.set_cons_zero, List.set_cons_succ])
  refine wpG_take 15 7 (v := ?_) rfl (by kernel_rfl) (fun _ _ _ h => h) (Or.inl ⟨by rfl, ?_⟩) (by assumption) ?_
  rotate_left
  · intro w hSw; (try dsimp only at hSw); go_simp; (try with_reducible rfl)
  (try simp only [Act.put, List.getElem_toArray, List.getElem_cons_zero, List.getElem_cons_succ, List.setIfInBounds_toArray, List.set_cons_zero, List.set_cons_succ])
  refine wpG_take 15 9 (v := ?_) rfl (by kernel_rfl) (fun _ _ _ h => h) (Or.inl ⟨by rfl, ?_⟩) (by assumption) ?_
  rotate_left
  · intro w hSw; (try dsimp only at hSw); go_simp; (try with_reducible rfl)
  (try simp only [Act.put, List.getElem_toArray, List.getElem_cons_zero, List.getElem_cons_succ, List.setIfInBounds_toArray, List.set_cons_zero, List.set_cons_succ])
  refine wpG_take 15 10 (v := ?_) rfl (by kernel_rfl) (fun _ _ _ h => h) (Or.inl ⟨by rfl, ?_⟩) (by assumption) ?_
  rotate_left
  · intro w hSw; (try dsimp only at hSw); go_simp; (try with_reducible rfl)
  (try simp only [Act.put, List.getElem_toArray, List.getElem_cons_zero, List.getElem_cons_succ, List.setIfInBounds_toArray, List.set_cons_zero, List.set_cons_succ])
  refine wpG_take 15 12 (v := ?_) rfl (by kernel_rfl) (fun _ _ _ h => h) (Or.inl ⟨by rfl, ?_⟩) (by assumption) ?_
  rotate_left
  · intro w hSw; (try dsimp only at hSw); go_simp; (try with_reducible rfl)
  (try simp only [Act.put, List.getElem_toArray, List.getElem_cons_zero, List.getElem_cons_succ, List.setIfInBounds_toArray, List.set_cons_zero, List.set_cons_succ])
  refine wpG_take 15 13 (v := ?_) rfl (by kernel_rfl) (fun _ _ _ h => h) (Or.inl ⟨by rfl, ?_⟩) (by assumption) ?_
  rotate_left
  · intro w hSw; (try dsimp only at hSw); go_simp; (try with_reducible rfl)
  (try simp only [Act.put, List.getElem_toArray, List.getElem_cons_zero, List.getElem_cons_succ, List.setIfInBounds_toArray, List.set_cons_zero, List.set_cons_succ])
  refine wpG_one (i := 2) (by kernel_rfl) ?_
  refine wpOp_step rfl (fun K hK => ?_)
  go_simp
  go_at_call 22
  (with_reducible refine (HC1.out _ hbd).mono ?_)
  rintro e w1 ⟨v1, rfl, hso, hbb⟩
  have b_w1 : Below W0.heap.size W0 w1 := hbd.trans (hbb.mono hbd.size)
  obtain ⟨A1, c1, rfl⟩ := SoO.shape hso
  have HSO := Lib.hid hso
  have HZ1 := Lib.hid hbd.size
  have HQ1 := Lib.hid b_w1
  clear hso
  have n_w1 := HKS.out w1 b_w1
  (try dsimp only)
  refine hK _ _ ⟨n_w1, ?_⟩
  clear hK K
  (try simp only [Act.put, List.getElem_toArray, List.getElem_cons_zero, List.getElem_cons_succ, List.setIfInBounds_toArray, List.set_cons_zero, List.set_cons_succ])
  refine wpG_one (i := 5) (by kernel_rfl) ?_
  refine wpOp_step rfl (fun K hK => ?_)
  go_simp
  go_at_call 11
  (with_reducible refine (HC2.out _ b_w1).mono ?_)
  rintro e w2 ⟨v2, rfl, hio2, hbb⟩
  have b_w2 : Below W0.heap.size W0 w2 := b_w1.trans (hbb.mono b_w1.size)
  obtain ⟨A2, c2, rfl⟩ := hio2.shape
  have HIO2 := Lib.hid hio2
  have HD2 := Lib.hid hbb
  have n_w2 := HKS.out w2 b_w2
  (try dsimp only)
  refine hK _ _ ⟨n_w2, ?_⟩
  clear hK K
  (try simp only [Act.put, List.getElem_toArray, List.getElem_cons_zero, List.getElem_cons_succ, List.setIfInBounds_toArray, List.set_cons_zero, List.set_cons_succ])
  refine wpG_one (i := 8) (by kernel_rfl) ?_
  refine wpOp_step rfl (fun K hK => ?_)
  go_simp
  go_at_call 11
  (with_reducible refine (HC3.out _ b_w2).mono ?_)
  rintro e w3 ⟨v3, rfl, hio3, hbb⟩
  have b_w3 : Below W0.heap.size W0 w3 := b_w2.trans (hbb.mono b_w2.size)
  obtain ⟨A3, c3, rfl⟩ := hio3.shape
  have HIO3 := Lib.hid hio3
  have HD3 := Lib.hid hbb
  have n_w3 := HKS.out w3 b_w3
  (try dsimp only)
  refine hK _ _ ⟨n_w3, ?_⟩
  clear hK K
  (try simp only [Act.put, List.getElem_toArray, List.getElem_cons_zero, List.getElem_cons_succ, List.setIfInBounds_toArray, List.set_cons_zero, List.set_cons_succ])
  refine wpG_one (i := 11) (by kernel_rfl) ?_
  refine wpOp_step rfl (fun K hK => ?_)
  go_simp
  go_at_call 59
  (with_reducible refine (HC4.out _ b_w3).mono ?_)
  rintro e w4 ⟨v4, hd4, rfl, hps, hbb⟩
  have b_w4 : Below W0.heap.size W0 w4 := b_w3.trans (hbb.mono b_w3.size)
  obtain ⟨A4, c4, rfl⟩ := hps.shape
  have HPS := Lib.hid hps
  have HD4 := Lib.hid hbb
  have n_w4 := HKS.out w4 b_w4
  (try dsimp only)
  refine hK _ _ ⟨n_w4, ?_⟩
  clear hK K
  (try simp only [Act.put, List.getElem_toArray, List.getElem_cons_zero, List.getElem_cons_succ, List.setIfInBounds_toArray, List.set_cons_zero, List.set_cons_succ])
  refine wpG_take 15 14 (v := ?_) rfl (by kernel_rfl) (fun _ _ _ h => h) (Or.inl ⟨by rfl, ?_⟩) (by assumption) ?_
  rotate_left
  · intro w hSw; (try dsimp only at hSw); go_simp; (try with_reducible rfl)
  (try simp only [Act.put, List.getElem_toArray, List.getElem_cons_zero, List.getElem_cons_succ, List.setIfInBounds_toArray, List.set_cons_zero, List.set_cons_succ])
  refine ⟨by kernel_rfl, ?_⟩
  simp only [List.drop_succ_cons, List.drop_zero]
  have HR4 := Lib.hid (HR.out.below b_w4 HR.out.lt)
  have HB4 := Lib.hid (HB.out.trans (b_w4.mono HB.out.size))
  have HS0 : Hid (W0.heap.size ≤ w1.heap.size ∧ w1.heap.size ≤ w2.heap.size ∧ w2.heap.size ≤ w3.heap.size) := (show _ ∧ _ ∧ _ from ⟨b_w1.size, HD2.out.size, HD3.out.size⟩)
  have HSO4 : Hid (SoO w4 W0.heap.size t.f.sorts (.slice A1 t.f.sorts.length c1)) := (show World.ownsRow _ _ _ _ _ _ _ from by
    have h1 : w1.ownsRow W0.drew.heap.size 128 4 (.slice A1 t.f.sorts.length c1) t.f.sorts.length (socl t.f.sorts) := HSO.out
    have h2 := World.ownsRow.kept (row := none) h1 (grown_of_below HD2.out none) (Classical.em _)
    have h3 := World.ownsRow.kept (row := none) h2 (grown_of_below HD3.out none) (Classical.em _)
    exact World.ownsRow.kept (row := none) h3 (grown_of_below HD4.out none) (Classical.em _))
  have HI2 : Hid (IO w4 W0.heap.size t.cs (.slice A2 t.cs.length c2)) := (show IO _ _ _ _ from ((HIO2.out.below HD3.out).below HD4.out).base (by have := HS0.out; omega))
  have HI3 : Hid (IO w4 W0.heap.size t.ind (.slice A3 t.ind.length c3)) := (show IO _ _ _ _ from (HIO3.out.below HD4.out).base (by have := HS0.out; omega))
  have HW3 : Hid (W0.heap.size ≤ w3.heap.size) := (show _ ≤ _ by have := HS0.out; omega)
  have r0 := HR4.out.cell 0
  have z0 := Blk.frozen HR4.out 0
  have r1 := HR4.out.cell 1
  have z1 := Blk.frozen HR4.out 1
  have r2 := HR4.out.cell 2
  have z2 := Blk.frozen HR4.out 2
  have r3 := HR4.out.cell 3
  have z3 := Blk.frozen HR4.out 3
  have r4 := HR4.out.cell 4
  have z4 := Blk.frozen HR4.out 4
  have r5 := HR4.out.cell 5
  have z5 := Blk.frozen HR4.out 5
  have r6 := HR4.out.cell 6
  have z6 := Blk.frozen HR4.out 6
  have rl := HR4.out.lt
  clear n_w1 n_w2 n_w3 n_w4 hS0 hbd b_w1 b_w2 b_w3 b_w4 hio2 hio3 hps
  go_wp2_with fail
  refine bodyPost_ret (ct_res (HR4.out.all7 _ _ _ _ _ _ _) rfl _ rfl) rfl ?_
  refine ⟨_, _, _, _, rfl, ⟨SoO.sov (B := W0.heap.size) (own_all7 HSO4.out HRL.out _ _ _ _ _ _ _) HSZ.out, IO.iv (B := W0.heap.size) (own_all7 HI2.out HRL.out _ _ _ _ _ _ _), IO.iv (B := W0.heap.size) (own_all7 HI3.out HRL.out _ _ _ _ _ _ _), PSt.lv (pst_all7 HPS.out (by have := HRL.out; have := HW3.out; omega) _ _ _ _ _ _ _)⟩, below_all7 HB4.out (by omega) _ _ _ _ _ _ _⟩
end Go.Proofs.Ytefjhhgfkdkfaaa
