/- best: breaks of least demerits, and labels. -/
import Derived.Test.YtefjhhgfkdkfaaaWay
import Derived.Test.YtefjhhgfkdkfaaaRvs
namespace Go.Proofs.Ytefjhhgfkdkfaaa
set_option linter.unusedSimpArgs false
set_option linter.unusedVariables false
open Go.RowKit
theorem IO.push {W' : World} {B n : Nat} {zs : List Int} {x : Int} {v' : Value} (h : W'.ownsRow B 3 1 v' (n + 1) (zv zs ++ [.int .i64 x])) (hn : zs.length = n) : IO W' B (zs ++ [x]) v' := by
  show World.ownsRow _ _ _ _ _ _ _
  rw [List.length_append, List.length_singleton, hn, zv_app]
  exact h
/-- append(l, x) of one number, l a list of the call's own. -/
theorem wpList_app1 {ops : Array Oper} {rest : List Oper} {o : Oper} {a : Act} {w : World} {Q : Exit → Act → World → Prop} (hgd : o.guard = none) (s x : Operand)
    (ho : o.op = .call { callee := .builtin .append, args := #[s, x], argTypes := #[30, 30] }) (base : Nat) (v : Value) (zs : List Int) (y : Int) (b c : Nat) (hs : a.eval s = v) (hx : a.eval x = .slice (some ⟨b, 0, none⟩) 1 c)
    (hown : IO w base zs v) (hc : w.cell? ⟨b, 0, none⟩ = some (.int .i64 y)) (hn : zs.length ≤ 1000000) (hbase : base ≤ w.heap.size)
    (h : ∀ v' w', IO w' base (zs ++ [y]) v' → Below base w w' → w.grownBy w' v.ownBlock → wpList Try.prog ops Q rest (a.put o.dst v') w') : wpList Try.prog ops Q (o :: rest) a w := by
  obtain ⟨i3, hi3, hz3, hy3, hx3⟩ := info_parts info3
  refine wpList_append_lies w hgd s x 30 ho base 3 i3 _ 1 8 Try.underlying30 hi3 hz3 hy3 hx3 rfl (by omega) v zs.length _ hs hown ⟨b, 0, none⟩ 1 c [.int .i64 y] hx rfl ?_ (by simp [Value.oneCell']) (by omega) (by simp only [maxLen]; omega) (by omega) hbase _ rfl ?_
  · intro j u hu
    cases j with
    | zero => simp only [List.getElem?_cons_zero] at hu; rw [← hu]; exact hc
    | succ j => simp at hu
  · intro g cap w' h1 h2 h3 h4
    exact h _ _ (IO.push h1 rfl) ((Below.refl base w).grown h2 hbase (fun t ht => (World.ownsRow.lt hown t ht).1)) h2
/-- The labels of the first k places. -/
def lbs (t : Tb) (N : Nat) : Nat → List Int
  | 0 => []
  | k + 1 => lbs t N k ++ [((fwd t N k).1 : Int)]
theorem lbs_len (t : Tb) (N : Nat) : ∀ k, (lbs t N k).length = k
  | 0 => rfl
  | k + 1 => by simp [lbs, lbs_len t N k]
theorem lbs_get (t : Tb) (N : Nat) : ∀ k j, j < k → gz (lbs t N k) j = ((fwd t N j).1 : Int)
  | 0, j, h => by omega
  | k + 1, j, h => by
    unfold gz lbs
    rw [List.getD_eq_getElem?_getD]
    by_cases e : j < k
    · rw [List.getElem?_append_left (by rw [lbs_len]; exact e), ← List.getD_eq_getElem?_getD]
      exact lbs_get t N k j e
    · obtain rfl : j = k := by omega
      rw [List.getElem?_append_right (by rw [lbs_len]; omega), lbs_len, Nat.sub_self]
      rfl
def ints (b : List Nat) : List Int := b.map fun (m : Nat) => (m : Int)
/-- The best breaks are being found, from the end. -/
structure BkS (t : Tb) (N at_ : Nat) (coll : List Int) (b : List Nat) (c : Nat) : Prop where
  lt : at_ < N
  ml : dist t at_ < ML
  p : Path t at_ b (N - 1) c
  s : dist t at_ + c = dist t (N - 1)
  e : coll = (ints b).reverse
theorem BkS.start {t : Tb} {N : Nat} (hN : 0 < N) (h : dist t (N - 1) < ML) : BkS t N (N - 1) [] [] 0 := ⟨by omega, h, Path.nil t _, rfl, rfl⟩
theorem BkS.step {t : Tb} {N at_ D c : Nat} {coll : List Int} {b : List Nat} (ht : TbOk t N D) (h : BkS t N at_ coll b c) (h0 : 0 < at_) :
    ∃ i d, (fwd t N at_).2 = ((i : Nat) : Int) ∧ i < at_ ∧ BkS t N i (coll ++ [(at_ : Int)]) (at_ :: b) (d + c) := by
  obtain ⟨i, d, h1, h2, h3, h4, h5⟩ := dist_by ht (Nat.le_of_lt h.lt) (by omega) h.ml
  refine ⟨i, d, h1, h2, ⟨by have := h.lt; omega, h4, Path.cons h3 h.p, ?_, ?_⟩⟩
  · have := h.s; omega
  · rw [h.e]
    show _ = (ints (at_ :: b)).reverse
    simp [ints]
def BsPost (w : World) (t : Tb) (N : Nat) (e : Ending) (w' : World) : Prop := ∃ bs vb vl, e = .returned (.tuple #[vb, vl]) ∧ IV w' bs vb ∧ IV w' (lbs t N N) vl ∧ Below w.heap.size w w' ∧
  ((dist t (N - 1) < ML ∧ ∃ b, bs = ints b ∧ Path t 0 b (N - 1) (dist t (N - 1))) ∨ (dist t (N - 1) = ML ∧ bs = []))
set_option maxRecDepth 100000 in
set_option maxHeartbeats 4000000 in
theorem best_any (f : Fnt) (v : Value) (r : Rls) (ws : List PWord) (vw vp : Value) (pb : Nat) (w : World) (h : PA w pb f v r ws vw vp) (hok : POk f r ws) :
    Calls Try.prog 37 #[.pointer (some ⟨pb, 0, none⟩)] w (BsPost w (tab f r ws) (places ws).length) := by
  have hm := hok.m
  have hpos := places_pos ws
  have HTB := Lib.hid (tab_ok hok.ru hm)
  have HW := Lib.hid (ways_any f v r ws vw vp pb w h hok)
  have HLA : Hid (∀ W, Below w.heap.size w W → Calls Try.prog 38 #[.pointer (some ⟨pb, 0, none⟩)] W fun e w' => e = .returned (.int .i64 ((places ws).length - 1 : Nat)) ∧ w' = W) := (show ∀ W, _ from fun W hW => last_any f v r ws vw vp pb W (h.step hW) hm)
  clear h hok
  generalize hN : (places ws).length = N at *
  clear hN
  generalize tab f r ws = t at *
  obtain ⟨i3, hi3, hz3, hy3, hx3⟩ := info_parts info3
  go_enter Try.func37, Try.ntmps37
  go_wp2_with fail
  refine HW.out.mono ?_
  rintro e w1 ⟨g, rfl, hR, hg, hB1⟩
  have HB1 := Lib.hid hB1
  have HR1 : Hid (WR w1 g N (fwd t N)) := hR
  have hg1 := Blk.lt hR
  clear hB1 hR HW
  go_wp2_with fail
  go_loopg [12, 3] N (fun gg s12 s3 wr => ∃ k : Nat, k ≤ N ∧ N - k ≤ gg ∧ s12 = .int .i64 k ∧ Hid (Below w1.heap.size w1 wr) ∧ Hid (IO wr w1.heap.size (lbs t N k) s3))
  case atStart => exact ⟨0, by omega, by omega, rfl, Below.refl _ _, World.ownsRow_nil _ _ _ _⟩
  case round =>
    obtain ⟨k, hk, hgk, rfl, HB, HO⟩ := hrel
    have HRW : Hid (WR wr g N (fwd t N)) := Blk.below HR1.out HB.out hg1
    have hgl := Blk.lt HRW.out
    have HBW := Lib.hid (HB1.out.trans (HB.out.mono HB1.out.size))
    by_cases hlt : k < N
    · have hltz : (k : Int) < (N : Int) := by omega
      have hc := WR.cells HRW.out hlt
      have c0 := hc.1
      have c1 := hc.2
      have hlen := lbs_len t N k
      have HL1 : Hid (lbs t N (k + 1) = lbs t N k ++ [((fwd t N k).1 : Int)]) := rfl
      clear hc
      generalize (fwd t N k).1 = dk at *
      generalize (fwd t N k).2 = ek at *
      generalize lbs t N k = ls at *
      have hb2 := (below_new wr (.cells #[.int .i64 ek, .int .i64 (dk : Int)] 106)).trans ((below_new (wr.alloc (.cells #[.int .i64 ek, .int .i64 (dk : Int)] 106)) (.cells #[.int .i64 (dk : Int)] 3)).mono (by simp))
      have hcl := (Blk.new (wr.alloc (.cells #[.int .i64 ek, .int .i64 (dk : Int)] 106)) 3 #[.int .i64 (dk : Int)]).cell 0
      have hbz := HB.out.size
      have hbs : w1.heap.size ≤ ((wr.alloc (.cells #[.int .i64 ek, .int .i64 (dk : Int)] 106)).alloc (.cells #[.int .i64 (dk : Int)] 3)).heap.size := by simp; omega
      have hsz1 : (wr.alloc (.cells #[.int .i64 ek, .int .i64 (dk : Int)] 106)).heap.size = wr.heap.size + 1 := by simp
      rw [hsz1] at hcl
      have HO2 := Lib.hid (HO.out.below hb2)
      have HB2 := Lib.hid (HB.out.trans (hb2.mono hbz))
      clear hb2 hsz1
      go_wp2_with (first
        | (at_builtin
           refine wpList_app1 rfl _ _ (by rfl) w1.heap.size _ ls (dk : Int) _ 1 (by rfl) (by rfl) HO2.out hcl (by omega) hbs ?_
           intro v' w' hio hbw hgw
           have HO3 := Lib.hid hio
           have HB3 := Lib.hid (HB2.out.trans hbw)
           clear hio hbw hgw))
      go_roundg (N - (k + 1))
      case measure => omega
      case rel => exact ⟨k + 1, by omega, by omega, by go_num, HB3.out, by show IO _ _ _ _; rw [HL1.out]; exact HO3.out⟩
    · have hltz : ¬ (k : Int) < (N : Int) := by omega
      have hke : k = N := by omega
      have HO2 : Hid (IO wr w1.heap.size (lbs t N N) u3) := by rw [hke] at HO; exact HO.out
      clear hlt HO hke
      have hc := WR.cells HRW.out (j := N - 1) (by omega)
      have c1 := hc.2
      have HD : Hid ((fwd t N (N - 1)).1 = dist t (N - 1)) := fwd_dist HTB.out (by omega)
      rw [HD.out] at c1
      have hiv := HO2.out.iv
      clear hc HD
      have HLAW := Lib.hid (HLA.out wr HBW.out)
      obtain ⟨q, hq⟩ : ∃ q, N - 1 = q := ⟨_, rfl⟩
      have hqz : (q : Int) < (N : Int) := by omega
      have HQ := Lib.hid hq
      rw [hq] at c1 HLAW
      by_cases hml : dist t q < ML
      · have hmz : ((dist t q : Nat) : Int) < 1000000000000000 := by have : ML = 1000000000000000 := rfl; omega
        have HBK : Hid (BkS t N q [] [] 0) := by show BkS _ _ _ _ _ _; rw [← hq]; exact BkS.start hpos (by rw [hq]; exact hml)
        have HPO : Hid (∀ (coll : List Int) (b : List Nat) (c : Nat) vb vl W, BkS t N 0 coll b c → IV W coll.reverse vb → IV W (lbs t N N) vl → Below w.heap.size w W → BsPost w t N (.returned (.tuple #[vb, vl])) W) := (show ∀ coll b c vb vl W, _ from fun coll b c vb vl W h0 h1 h2 h3 => ⟨coll.reverse, vb, vl, rfl, h1, h2, h3, .inl ⟨by rw [hq]; exact hml, b, by rw [h0.e, List.reverse_reverse], by
          have h4 := h0.s
          rw [dist_zero, Nat.zero_add] at h4
          rw [← h4]
          exact h0.p⟩⟩)
        clear hml hq
        generalize dist t q = dl at *
        go_wp2_with (first
          | (go_at_call 38; (with_reducible refine HLAW.out.mono ?_); rintro e w' ⟨rfl, hw'⟩; have hw'' := hw'.symm; subst hw''))
        obtain ⟨w2, hw2⟩ : ∃ x, x = wr := ⟨_, rfl⟩
        subst hw2
        go_loopg [7, 2] q (fun gg s7 s2 wr => ∃ (at_ : Nat) (coll : List Int) (b : List Nat) (c : Nat), at_ ≤ gg ∧ s7 = .int .i64 (at_ : Int) ∧ Hid (BkS t N at_ coll b c) ∧ Hid (Below w2.heap.size w2 wr) ∧ Hid (IO wr w2.heap.size coll s2) ∧ coll.length ≤ N)
        case atStart => exact ⟨q, [], [], 0, by omega, rfl, HBK.out, Below.refl _ _, World.ownsRow_nil _ _ _ _, by simp⟩
        case round =>
          obtain ⟨at_, coll, b, c, hat, rfl, HBK, HBX, HOX, hcl⟩ := hrel
          by_cases hgt : 0 < at_
          · have hgz : (0 : Int) < (at_ : Int) := by omega
            have HRX := Lib.hid (Blk.below HRW.out HBX.out hgl)
            obtain ⟨i, d, hi1, hi2, hbk⟩ := BkS.step HTB.out HBK.out hgt
            have hal := HBK.out.lt
            have hc := WR.cells HRX.out hal
            have x0 := hc.1
            rw [hi1] at x0
            have HBK2 := Lib.hid hbk
            have haz : (at_ : Int) < (N : Int) := by omega
            have hbz := HBX.out.size
            have hrl := Blk.lt HRX.out
            have hbn := below_new wr (.cells #[.int .i64 (at_ : Int)] 3)
            have hcx := (Blk.new wr 3 #[.int .i64 (at_ : Int)]).cell 0
            have HOX2 := Lib.hid (HOX.out.below hbn)
            have hbs : w2.heap.size ≤ (wr.alloc (.cells #[.int .i64 (at_ : Int)] 3)).heap.size := by have := hbn.size; omega
            have HBX2 := Lib.hid (HBX.out.trans (hbn.mono hbz))
            have hcn : coll.length < N := by
              have h1 := congrArg List.length HBK.out.e
              have h2 := HBK.out.p.len HTB.out
              rw [List.length_reverse, ints, List.length_map] at h1
              omega
            clear hbk hi1 hc
            go_wp2_with (first
              | (at_builtin
                 refine wpList_app1 rfl _ _ (by rfl) w2.heap.size _ coll (at_ : Int) _ 1 (by rfl) (by rfl) HOX2.out hcx (by omega) hbs ?_
                 intro v' w' hio hbw hgw
                 have HO3 := Lib.hid hio
                 have HB3 := Lib.hid (HBX2.out.trans hbw)
                 have y0 : w'.cell? ⟨g, at_ * 2, none⟩ = some (.int .i64 ((i : Nat) : Int)) := (hbw.cell (p := ⟨g, at_ * 2, none⟩) (by omega)).trans ((hbn.cell (p := ⟨g, at_ * 2, none⟩) hrl).trans x0)
                 have y0l : g < w'.heap.size := by have := hbw.size; have := hbn.size; omega
                 clear hio hbw hgw))
            go_roundg (i)
            case measure => omega
            case rel => exact ⟨i, coll ++ [(at_ : Int)], at_ :: b, d + c, by omega, rfl, HBK2.out, HB3.out, HO3.out, by rw [List.length_append, List.length_singleton]; omega⟩
          · have hgz : ¬ (0 : Int) < (at_ : Int) := by omega
            obtain rfl : at_ = 0 := by omega
            have HRV := Lib.hid (rev_any coll _ _ wr HOX.out)
            clear hgt
            go_wp2_with (first
              | (go_at_call 48; (with_reducible refine HRV.out.mono ?_); rintro e w5 ⟨rfl, hio5, hgr5, hsz5⟩))
            have HBX5 := HBX.out.grown hgr5 HBX.out.size (fun t ht => (World.ownsRow.lt HOX.out t ht).1)
            have HB5 := Lib.hid (HBW.out.trans (HBX5.mono HBW.out.size))
            go_ret2
            exact HPO.out coll b c _ _ _ HBK.out hio5.iv (HO2.out.iv.below HBX5) HB5.out
      · have hme : dist t q = ML := by have := dist_le_ML t q; omega
        have hML : ((ML : Nat) : Int) = 1000000000000000 := rfl
        rw [hme, hML] at c1
        have HPO : Hid (∀ vb vl W, IV W [] vb → IV W (lbs t N N) vl → Below w.heap.size w W → BsPost w t N (.returned (.tuple #[vb, vl])) W) := (show ∀ vb vl W, _ from fun vb vl W h1 h2 h3 => ⟨[], vb, vl, rfl, h1, h2, h3, .inr ⟨by rw [hq]; exact hme, rfl⟩⟩)
        clear hml hme hq hML
        go_wp2_with (first
          | (go_at_call 38; (with_reducible refine HLAW.out.mono ?_); rintro e w' ⟨rfl, hw'⟩; have hw'' := hw'.symm; subst hw''))
        go_ret2
        exact HPO.out _ _ _ (IV.nil _) hiv HBW.out
end Go.Proofs.Ytefjhhgfkdkfaaa
