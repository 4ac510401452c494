/- along: the numbers of the pieces that are so, in the order of a number of each. -/
import Derived.Test.YtlfeoofchebbkaaSrs
import Derived.Test.YtlfeoofchebbkaaHlr
import Derived.LoopN
namespace Go.Proofs.Ytlfeoofchebbkaa
set_option linter.unusedSimpArgs false
set_option linter.unusedVariables false
open Go.RowKit Go.Sort Go.Shelf
theorem insNone (p : Option Addr) (cap : Nat) (fv : Value) (w : World) : Calls Try.prog 161 #[.slice p 0 cap, .int .i64 0, .int .i64 0, fv] w fun e w' => e = .returned (.tuple #[]) ∧ w = w' := by
  go_enter Try.func161, Try.ntmps161
  go_wp2_with fail
  refine wp_loop_rounds 1 ?_
  rw [rounds_succ]
  go_wp2_with fail
  go_end0
  exact ⟨rfl, rfl⟩
theorem pdqNone (p : Option Addr) (cap : Nat) (lim : Int) (fv : Value) (w : World) : Calls Try.prog 149 #[.slice p 0 cap, .int .i64 0, .int .i64 0, .int .i64 lim, fv] w fun e w' => e = .returned (.tuple #[]) ∧ w = w' := by
  go_enter Try.func149, Try.ntmps149
  go_wp2_with fail
  refine wp_loop_rounds 1 ?_
  rw [rounds_succ]
  go_wp2_with (go_at_call 161; refine (insNone _ _ _ _).mono ?_; rintro e w' ⟨rfl, rfl⟩)
  (try simp only [Exit.inBlock, Exit.then]); refine bodyPost_ret (results_none rfl _ _ _) rfl ?_
  exact ⟨rfl, rfl⟩
theorem sortNone (p : Option Addr) (cap : Nat) (fv : Value) (w : World) : Calls Try.prog 141 #[.slice p 0 cap, fv] w fun e w' => e = .returned (.tuple #[]) ∧ w = w' := by
  have hl : Calls Try.prog 145 #[.int .u64 0] w fun e w' => e = .returned (.int .i64 (Lib.bitLen 0 : Nat)) ∧ w' = w := Try.bits_Len 0 w (by omega) (by omega)
  generalize Lib.bitLen 0 = bl at *
  go_enter Try.func141, Try.ntmps141
  go_wp2_with fail
  refine hl.mono ?_
  rintro e w' ⟨rfl, rfl⟩
  go_wp2_with fail
  refine (pdqNone _ _ _ _ _).mono ?_
  rintro e w' ⟨rfl, rfl⟩
  go_wp2_with fail
  go_end0
  exact ⟨rfl, rfl⟩
theorem sortWorld_below {α : Type} [Inhabited α] (enc : α → Value) (w : World) (blk n B : Nat) (d : Array α) (os : Array Obj) (hB : B ≤ blk) (hb : blk < w.heap.size) : Below B w (sortWorld enc w blk 0 n d os) := by
  refine ⟨rfl, rfl, rfl, by simp [sortWorld], fun k hk => ?_⟩
  unfold sortWorld
  rw [heap_grow_old _ _ (by simp; omega)]
  show (mapBlock _ _ _).heap[k]? = _
  simp only [mapBlock, Array.getElem?_modify, heap_ahead]
  rw [if_neg (by omega)]
theorem sortWorld_cell {α : Type} [Inhabited α] (enc : α → Value) (w : World) (blk n : Nat) (d0 d : Array α) (os : Array Obj) (h0 : Holds enc w blk 0 d0) (hs : d.size = d0.size) (hb : blk < w.heap.size) (j : Nat) (hj : j < d.size) : (sortWorld enc w blk 0 n d os).cell? ⟨blk, j, none⟩ = some (enc d[j]!) := by
  unfold sortWorld
  rw [cell?_grow _ _ _ (by simpa using hb)]
  have := cell?_putRow enc (Sort.ahead w n) blk 0 d0 d h0 hs j hj
  rwa [Nat.zero_add] at this
def alK (ps : List Piece) (is : Piece → Bool) (k : Nat) : List Nat := (List.range k).filter fun i => is (gp ps i)
theorem alK_all (ps : List Piece) (is : Piece → Bool) : alK ps is ps.length = aloI ps is := rfl
theorem alK_succ (ps : List Piece) (is : Piece → Bool) (k : Nat) : alK ps is (k + 1) = alK ps is k ++ if is (gp ps k) = true then [k] else [] := by
  unfold alK
  rw [List.range_succ, List.filter_append, List.filter_cons, List.filter_nil]
theorem alK_len (ps : List Piece) (is : Piece → Bool) (k : Nat) : (alK ps is k).length ≤ k := by
  have := List.length_filter_le (fun i => is (gp ps i)) (List.range k)
  simpa [alK] using this
def AlongPost (l : List Nat) (w : World) (e : Ending) (w' : World) : Prop := ∃ v, e = .returned v ∧ IntsV w' (zl l) v ∧ Below w.heap.size w w'
/-- What is asked of the sort. -/
def SortAsk (ps : List Piece) (is : Piece → Bool) (ord : Piece → Int) (ordF b off : Nat) : Prop := ∀ (i0 : Inhabited (Al ps is)) (bo bf c blk cap : Nat) (d : Array (Al ps is)) (W : World), W.cell? ⟨bo, 0, none⟩ = some (.func (.func ordF) #[] #[]) → W.cell? ⟨bf, 2, none⟩ = some (.slice (some ⟨b, off, none⟩) ps.length c) → b < W.heap.size → PsAt W b off ps → bo ≠ blk → bf ≠ blk → b ≠ blk →
  Holds encA W blk 0 d → blk < W.heap.size → d.size < 4611686018427387904 → Calls Try.prog 141 #[.slice (some ⟨blk, 0, none⟩) d.size cap, .func (.func 142) #[] #[.pointer (some ⟨bo, 0, none⟩), .pointer (some ⟨bf, 0, none⟩)]] W fun e w' =>
      e = .returned (.tuple #[]) ∧ ∃ d' n os, PermIn 0 d.size d d' ∧ SortedIn (ltOf (cfA ord)) 0 d.size d' ∧ w' = sortWorld encA W blk 0 n d' os
theorem row_ask (ps : List Piece) (is : Piece → Bool) (b off : Nat) : SortAsk ps is (fun p => p.x) 121 b off := fun i0 bo bf c blk cap d W ho hf hb hps n1 n2 n3 hH hblk hsz => row_sort ps is bo bf b off c blk cap d W ho hf hb hps n1 n2 n3 hH hblk hsz
theorem col_ask (ps : List Piece) (is : Piece → Bool) (b off : Nat) : SortAsk ps is (fun p => p.y) 123 b off := fun i0 bo bf c blk cap d W ho hf hb hps n1 n2 n3 hH hblk hsz => col_sort ps is bo bf b off c blk cap d W ho hf hb hps n1 n2 n3 hH hblk hsz
/-- What the sort does to a row of the call's own. -/
def SortPost (base : Nat) (l : List Nat) (v : Value) (W : World) (e : Ending) (w' : World) : Prop := e = .returned (.tuple #[]) ∧ IntsV w' (zl l) v ∧ Below base W w'
theorem sort_own {ps : List Piece} {is : Piece → Bool} {ord : Piece → Int} {ordF b off : Nat} (HA : SortAsk ps is ord ordF b off) (hi : ∀ i k, i ∈ aloI ps is → k ∈ aloI ps is → ord (gp ps i) = ord (gp ps k) → i = k) {base bo bf c : Nat} {v : Value} {W : World} (hn : ps.length ≤ 1000)
    (ho : W.cell? ⟨bo, 0, none⟩ = some (.func (.func ordF) #[] #[])) (hf : 0 < ps.length → W.cell? ⟨bf, 2, none⟩ = some (.slice (some ⟨b, off, none⟩) ps.length c)) (hb : 0 < ps.length → b < base) (hps : PsAt W b off ps) (h1 : bo < base) (h2 : bf < base) (hbase : base ≤ W.heap.size)
    (hown : W.ownsRow base 3 1 v (aloI ps is).length (nums (aloI ps is))) :
    Calls Try.prog 141 #[v, .func (.func 142) #[] #[.pointer (some ⟨bo, 0, none⟩), .pointer (some ⟨bf, 0, none⟩)]] W (SortPost base (aloS ps is ord) v W) := by
  have hlen : (aloS ps is ord).length = (aloI ps is).length := (aloS_perm ps is ord).length_eq
  by_cases h0 : (aloI ps is).length = 0
  · obtain ⟨A', c', rfl⟩ := own_slice hown
    rw [h0]
    have hs : aloS ps is ord = [] := List.eq_nil_of_length_eq_zero (by omega)
    refine (sortNone A' c' _ W).mono ?_
    rintro e w' ⟨he, rfl⟩
    refine ⟨he, ?_, Below.refl _ _⟩
    rw [hs]
    exact ⟨A', 0, c', rfl, fun h => absurd h (Nat.lt_irrefl _), fun j hj => absurd hj (Nat.not_lt_zero _), Nat.zero_le _, Nat.zero_le _⟩
  · have hpos : 0 < (aloI ps is).length := by omega
    have hps0 : 0 < ps.length := by
      have := List.getElem_mem (l := aloI ps is) hpos
      have := (mem_aloI.1 this).1
      omega
    obtain ⟨g, cap, cur, rfl, hbs, hg, hnc, hmx, hcs, ht⟩ := hown.2.resolve_left (fun h => by obtain ⟨_, h⟩ := h; exact h0 h)
    let i0 : Inhabited (Al ps is) := ⟨⟨(aloI ps is)[0], List.getElem_mem hpos⟩⟩
    let d : Array (Al ps is) := ((aloI ps is).attach).toArray
    have hds : d.size = (aloI ps is).length := by simp [d]
    have hdm : d.toList.map Subtype.val = aloI ps is := by simp [d]
    have hglt : g < W.heap.size := (Array.getElem?_eq_some_iff.1 hg).1
    have hH : Holds encA W g 0 d := fun j hj => by
      rw [hds] at hj
      have e1 : (cur.toList.take ((aloI ps is).length * 1))[j]? = (nums (aloI ps is))[j]? := by rw [ht]
      rw [List.getElem?_take, if_pos (by omega), Array.getElem?_toList] at e1
      have e2 : (nums (aloI ps is))[j]? = some (encA (d[j]!)) := by
        rw [getElem!_pos d j (by omega)]
        simp [nums, encA, d, List.getElem?_eq_getElem hj]
      refine ⟨?_, by simp [World.frozen?, hg]⟩
      rw [Nat.zero_add]
      simp [World.cell?, hg, e1, e2]
    refine (HA i0 bo bf c g cap d W ho (hf hps0) (Nat.lt_of_lt_of_le (hb hps0) hbase) hps (by omega) (by omega) (by have := hb hps0; omega) hH hglt (by
      have := alK_len ps is ps.length
      rw [alK_all] at this
      omega)).mono ?_ |> (hds ▸ ·)
    rintro e w' ⟨he, d', n, os, hp, hs, rfl⟩
    have hsz : d'.size = d.size := hp.1
    have hfin := sorted_is ps is ord hi d d' hdm hp hs
    refine ⟨he, ?_, sortWorld_below _ _ _ _ _ _ _ hbs hglt⟩
    have hzl : (zl (aloS ps is ord)).length = (aloI ps is).length := by simp [zl, hlen]
    refine ⟨some ⟨g, 0, none⟩, g, cap, by rw [hzl, hds], fun _ => ⟨rfl, ?_⟩, fun j hj => ?_, by rw [hzl]; exact hnc, by rw [hzl]; unfold maxLen at hmx; omega⟩
    · have := (sortWorld_below (encA (ps := ps) (is := is)) W g n 0 d' os (Nat.zero_le _) hglt).size
      omega
    · rw [hzl] at hj
      rw [Nat.zero_add, sortWorld_cell encA W g n d d' os hH hsz hglt j (by omega)]
      rw [getElem!_pos d' j (by omega)]
      have e3 : (d'.toList.map Subtype.val)[j]? = (aloS ps is ord)[j]? := by rw [hfin]
      rw [List.getElem?_map, Array.getElem?_toList, Array.getElem?_eq_getElem (by omega)] at e3
      unfold gz zl
      rw [List.getD_eq_getElem?_getD, List.getElem?_map, ← e3]
      rfl
set_option maxRecDepth 100000 in
set_option maxHeartbeats 4000000 in
theorem along_any (f : Forme) (is : Piece → Bool) (ord : Piece → Int) (isF ordF : Nat) (isC : Array Value) (A : Option Addr) (b off c : Nat) (w : World) (hA : Lies A f.ps.length w.heap.size b off) (hps : PsAt w b off f.ps) (hm : f.ps.length ≤ 1000)
    (eg : ∀ (args : Array Value) (w : World), (callFunc isF args).run Try.prog w = .ok (.enter isF args) w)
    (HI : ∀ W j, Below w.heap.size w W → j < f.ps.length → Calls Try.prog isF (#[.agg (pcs (gp f.ps j))] ++ isC) W fun e w' => e = .returned (.bool (is (gp f.ps j))) ∧ Below W.heap.size W w')
    (HA : SortAsk f.ps is ord ordF b off) (hi : ∀ i k, i ∈ aloI f.ps is → k ∈ aloI f.ps is → ord (gp f.ps i) = ord (gp f.ps k) → i = k) :
    Calls Try.prog 118 #[.agg #[.int .i64 f.W, .int .i64 f.H, .slice A f.ps.length c], .func (.func isF) #[] isC, .func (.func ordF) #[] #[]] w (AlongPost (aloS f.ps is ord) w) := by
  obtain ⟨inf, hInf, hInf0, hInf1, hInf2⟩ := info_parts Try.info3
  have hB : Below w.heap.size w ((w.alloc (Obj.cells #[Value.int IntKind.i64 f.W, Value.int IntKind.i64 f.H, Value.slice A f.ps.length c] 37)).alloc (Obj.cells #[Value.func (Fn.func ordF) #[] #[]] 139)) := (below_new _ _).alloc (by simp) _
  have hF : FAt ((w.alloc (Obj.cells #[Value.int IntKind.i64 f.W, Value.int IntKind.i64 f.H, Value.slice A f.ps.length c] 37)).alloc (Obj.cells #[Value.func (Fn.func ordF) #[] #[]] 139)) w.heap.size f (Value.slice A f.ps.length c) := (FAt_new w 37 f (Value.slice A f.ps.length c)).below (below_new _ _) (by simp)
  have hO : ((w.alloc (Obj.cells #[Value.int IntKind.i64 f.W, Value.int IntKind.i64 f.H, Value.slice A f.ps.length c] 37)).alloc (Obj.cells #[Value.func (Fn.func ordF) #[] #[]] 139)).cell? ⟨w.heap.size + 1, 0, none⟩ = some (Value.func (Fn.func ordF) #[] #[]) := by simp [go_sem]
  have hz : ((w.alloc (Obj.cells #[Value.int IntKind.i64 f.W, Value.int IntKind.i64 f.H, Value.slice A f.ps.length c] 37)).alloc (Obj.cells #[Value.func (Fn.func ordF) #[] #[]] 139)).heap.size = w.heap.size + 1 + 1 := by simp
  have HSRT : Hid (∀ (W1 W : World) (v : Value), Below w.heap.size w W1 → FAt W1 w.heap.size f (Value.slice A f.ps.length c) → W1.cell? ⟨w.heap.size + 1, 0, none⟩ = some (Value.func (Fn.func ordF) #[] #[]) → W1.heap.size = w.heap.size + 1 + 1 → Below W1.heap.size W1 W → W.ownsRow W1.heap.size 3 1 v (alK f.ps is f.ps.length).length (nums (alK f.ps is f.ps.length)) →
      Calls Try.prog 141 #[v, .func (.func 142) #[] #[.pointer (some ⟨w.heap.size + 1, 0, none⟩), .pointer (some ⟨w.heap.size, 0, none⟩)]] W (SortPost W1.heap.size (aloS f.ps is ord) v W)) := (show ∀ W1 W v, _ from fun W1 W v hB hF hO hz hBW hown => by
    rw [alK_all] at hown
    have hF2 := hF.below hBW (by omega)
    exact sort_own (c := c) HA hi hm ((hBW.cell (p := ⟨w.heap.size + 1, 0, none⟩) (by show w.heap.size + 1 < _; omega)).trans hO) (fun h => by have := hF2.2.2; rwa [(hA h).1] at this) (fun h => by have := (hA h).2; omega) (fun j hj => ((hps j hj).below hB (hA (by omega)).2).below hBW (by have := (hA (by omega)).2; omega)) (by omega) (by omega) hBW.size hown)
  have HPS : Hid (∀ W, Below w.heap.size w W → PsAt W b off f.ps) := (show ∀ W, _ from fun W hW j hj => (hps j hj).below hW (hA (by omega)).2)
  have HIS := Lib.hid HI
  have HAK := Lib.hid (alK_succ f.ps is)
  have HAL := Lib.hid (alK_len f.ps is)
  have H0 : Hid (alK f.ps is 0 = []) := rfl
  clear HI HA hi hps
  generalize aloS f.ps is ord = res at *
  generalize hK : alK f.ps is = al at *
  clear hK
  have HN : Hid (∀ j, j < f.ps.length → j < f.ps.length) := fun _ h => h
  generalize hn : f.ps.length = n at *
  have HNN := Lib.hid hn
  clear hn HN
  go_enter Try.func118, Try.ntmps118
  go_wp2_with fail
  generalize ((w.alloc (Obj.cells #[Value.int IntKind.i64 f.W, Value.int IntKind.i64 f.H, Value.slice A n c] 37)).alloc (Obj.cells #[Value.func (Fn.func ordF) #[] #[]] 139)) = W1 at *
  have HSR := Lib.hid (fun (W : World) (v : Value) => HSRT.out W1 W v hB hF hO hz)
  have HFF := Lib.hid hF
  have HBB := Lib.hid hB
  have HZ := Lib.hid hz
  clear HSRT hF hO hB hz
  go_loopg [7, 13] n (fun gg s7 s13 wr => ∃ k : Nat, k ≤ n ∧ n - k ≤ gg ∧ s13 = .int .i64 k ∧ Hid (wr.ownsRow W1.heap.size 3 1 s7 (al k).length (nums (al k))) ∧ Hid (Below W1.heap.size W1 wr))
  case atStart => exact ⟨0, Nat.zero_le _, by omega, rfl, by show World.ownsRow _ _ _ _ _ _ _; rw [H0.out]; exact World.ownsRow_nil _ _ _ _, Below.refl _ _⟩
  case round =>
    obtain ⟨k, hk, hgk, rfl, R, BW⟩ := hrel
    have hsz := BW.out.size
    have hbw := HBB.out.trans (BW.out.mono HBB.out.size)
    by_cases hlt : k < n
    · have hltz : (k : Int) < (n : Int) := by omega
      have hk0 : (0 : Int) ≤ (k : Int) := by omega
      obtain ⟨rfl, hb⟩ := hA (by omega)
      obtain ⟨c0, c1, c2, c3, c4, c5⟩ := HPS.out wr hbw k (by have := HNN.out; omega)
      have hcall := HIS.out (wr.alloc (Obj.cells (pcs (gp f.ps k)) 70)) k (hbw.alloc (by have := hbw.size; omega) _) hlt
      have HA1 := Lib.hid (HAK.out k)
      have HLK := Lib.hid (HAL.out k)
      clear hbw
      generalize gp f.ps k = p at *
      cases hq : is p with
      | true =>
        rw [hq] at hcall
        have HQ := Lib.hid hq
        clear hq
        go_wp2_with fail
        refine hcall.mono ?_
        rintro e w2 ⟨rfl, b2⟩
        have b3 := Lib.hid ((BW.out.alloc (by omega) (Obj.cells (pcs p) 70)).trans (b2.mono (by simp; omega)))
        have R2 : Hid (w2.ownsRow W1.heap.size 3 1 _ (al k).length (nums (al k))) := (R.out.alloc (Obj.cells (pcs p) 70)).kept (grown_of_below b2 none) (Classical.em _)
        have hz2 : W1.heap.size ≤ w2.heap.size := by have := b2.size; simp at this; omega
        clear b2 hcall
        go_wp2_with ((at_builtin
                      refine wpList_append_lies _ rfl (.tmp 21) (.tmp 23) 23 (by rfl) W1.heap.size 3 inf _ 1 8 Try.underlying23 hInf hInf0 hInf1 hInf2 rfl (by omega) _ (al k).length _ (by rfl) (R2.out.alloc _) ⟨w2.heap.size, 0, none⟩ 1 1 [.int .i64 k] (by rfl) (by rfl) (World.news_of_block (cs := #[.int .i64 k]) (t := 3) (fr := (0, 0)) (heap_alloc_new w2 _)) (by simp [Value.oneCell']) (by omega) (by have := HLK.out; simp only [maxLen]; omega) (by have := HLK.out; omega) (by simp; omega) (w2.heap.size + 1) (by simp) ?_
                      intro g1 cap1 w8 hown hgrow hat hlt8
                      have HO8 := Lib.hid hown
                      have HG8 := Lib.hid hgrow
                      clear hown hgrow hat))
        go_roundg (n - (k + 1))
        case measure => omega
        case rel =>
          refine ⟨k + 1, by omega, by omega, by go_num, ?_, ?_⟩
          · show World.ownsRow _ _ _ _ _ _ _
            have := HO8.out
            rw [HA1.out, if_pos HQ.out, List.length_append, show nums (al k ++ [k]) = nums (al k) ++ [.int .i64 k] by simp [nums]]
            exact this
          · show Below _ _ _
            exact (b3.out.alloc (by omega) _).grown HG8.out (by simp; omega) (fun t ht => (R2.out.lt t ht).1)
      | false =>
        rw [hq] at hcall
        have HQ := Lib.hid hq
        clear hq
        go_wp2_with fail
        refine hcall.mono ?_
        rintro e w2 ⟨rfl, b2⟩
        have b3 := Lib.hid ((BW.out.alloc (by omega) (Obj.cells (pcs p) 70)).trans (b2.mono (by simp; omega)))
        have R2 : Hid (w2.ownsRow W1.heap.size 3 1 _ (al k).length (nums (al k))) := (R.out.alloc (Obj.cells (pcs p) 70)).kept (grown_of_below b2 none) (Classical.em _)
        clear b2 hcall
        go_wp2_with fail
        go_roundg (n - (k + 1))
        case measure => omega
        case rel =>
          refine ⟨k + 1, by omega, by omega, by go_num, ?_, b3.out⟩
          show World.ownsRow _ _ _ _ _ _ _
          rw [HA1.out, if_neg (by rw [HQ.out]; exact Bool.false_ne_true), List.append_nil]
          exact R2.out
    · have hltz : ¬ (k : Int) < (n : Int) := by omega
      have he : k = n := by omega
      subst he
      have HC := Lib.hid (HSR.out wr _ BW.out R.out)
      have HBW := Lib.hid hbw
      clear R hbw HSR
      go_wp2_with fail
      refine HC.out.mono ?_
      rintro e w2 ⟨rfl, hv, b2⟩
      have HV := Lib.hid hv
      have HB2 := Lib.hid (HBW.out.trans (b2.mono (by have := HZ.out; omega)))
      clear hv b2
      go_wp2_with fail
      go_ret
      exact ⟨_, rfl, HV.out, HB2.out⟩
end Go.Proofs.Ytlfeoofchebbkaa
