/- swapped: a forme with columns and rows exchanged. -/
import Derived.Test.YtlfeoofchebbkaaMir
import Derived.Deep.AppendLies
namespace Go.Proofs.Ytlfeoofchebbkaa
set_option linter.unusedSimpArgs false
set_option linter.unusedVariables false
open Go.RowKit
def swapP (p : Piece) : Piece := { name := p.name, kind := if 3 ≤ p.kind then 7 - p.kind else p.kind, x := p.y, y := p.x, w := p.h, h := p.w }
def Forme.swapK (f : Forme) : Forme := { W := f.H, H := f.W, ps := f.ps.map swapP }
theorem swapK_across (f : Forme) (hs : List Int) : across f.swapK hs = down f hs := by
  unfold across down Forme.swapK
  simp only [List.map_map]
  rfl
theorem areas_swapK (ps : List Piece) : areas (ps.map swapP) = areas ps := by
  induction ps with
  | nil => rfl
  | cons p t ih => simp only [List.map_cons, areas, ih, swapP, Int.mul_comm]
theorem Forme.Laid.swapK {f : Forme} (h : f.Laid) : f.swapK.Laid where
  w1 := h.h1
  w2 := h.h2
  h1 := h.w1
  h2 := h.w2
  inn := fun p hp => by
    obtain ⟨q, hq, rfl⟩ := List.mem_map.1 hp
    obtain ⟨a, b, c, d, e, g⟩ := h.inn q hq
    exact ⟨b, a, d, c, g, e⟩
  apart := by
    refine List.pairwise_map.2 (h.apart.imp fun hh => ?_)
    intro hm
    exact hh ⟨hm.2.2.1, hm.2.2.2, hm.1, hm.2.1⟩
theorem Forme.Whole.swapK {f : Forme} (h : f.Whole) : f.swapK.Whole where
  toLaid := h.toLaid.swapK
  full := (areas_swapK f.ps).trans (h.full.trans (Int.mul_comm _ _))
theorem grown_comp {a w w' : World} {ob : Nat} {row : Option Nat} (h : a.grownBy w (some ob)) (hg : w.grownBy w' row) (hr : ∀ t, row = some t → a.heap.size ≤ t) : a.grownBy w' (some ob) :=
  ⟨hg.os.trans h.os, hg.tape.trans h.tape, hg.output.trans h.output, Nat.le_trans h.size hg.size, fun k hk hne => (hg.block k (Nat.lt_of_lt_of_le hk h.size) (fun e => by have := hr k e.symm; omega)).trans (h.block k hk hne)⟩
theorem pcells_snoc (ps : List Piece) {k : Nat} (hk : k < ps.length) : pcells ((ps.map swapP).take (k + 1)) = pcells ((ps.map swapP).take k) ++ (pcs (swapP (gp ps k))).toList := by
  have h : k < (ps.map swapP).length := by simpa using hk
  have e : (ps.map swapP).take (k + 1) = (ps.map swapP).take k ++ [swapP (gp ps k)] := by
    rw [List.take_succ_eq_append_getElem h, gp_get hk]; simp
  unfold pcells
  rw [e, List.flatMap_append]
  simp
theorem own_slice {w : World} {base : Nat} {e : TypeId} {size n : Nat} {v : Value} {xs : List Value} (h : w.ownsRow base e size v n xs) : ∃ A c, v = .slice A n c := by
  rcases h.2 with ⟨rfl, rfl⟩ | ⟨g, cap, cur, rfl, _⟩
  · exact ⟨none, 0, rfl⟩
  · exact ⟨_, _, rfl⟩
theorem ownsRow_setCell_blk {w : World} {base : Nat} {e : TypeId} {size n : Nat} {v : Value} {xs : List Value} (h : w.ownsRow base e size v n xs) {g i : Nat} (hg : g < base) (u : Value) : (w.setCell ⟨g, i, none⟩ u).ownsRow base e size v n xs :=
  ownsRow_setCell_below h hg u
theorem news_two (w : World) (o : Obj) (cs : Array Value) (t : TypeId) : ∀ j u, cs.toList[j]? = some u → ((w.alloc o).alloc (.cells cs t)).cell? ((⟨w.heap.size + 1, 0, none⟩ : Addr).add j) = some u := by
  intro j u h
  have h1 := World.news_of_block (heap_alloc_new (w.alloc o) (.cells cs t)) j u h
  rwa [World.size_alloc] at h1
/-- Behind a round: what is known of the world. -/
theorem swp_step {W1 wr w2 : World} {ob k : Nat} {v : Value} {xs : List Value} {H W : Int} {o1 o2 : Obj} (hob1 : ob < W1.heap.size) (G : W1.grownBy wr (some ob)) (O : Blk wr ob 37 #[.int .i64 H, .int .i64 W, v]) (R : wr.ownsRow W1.heap.size 70 6 v k xs)
    (hg : ((wr.alloc o1).alloc o2).grownBy w2 v.ownBlock) : W1.grownBy w2 (some ob) ∧ Blk w2 ob 37 #[.int .i64 H, .int .i64 W, v] := by
  have h1 : ∀ t, v.ownBlock = some t → W1.heap.size ≤ t := fun t ht => (R.lt t ht).1
  have hs := G.size
  have g2 : W1.grownBy ((wr.alloc o1).alloc o2) (some ob) := ⟨G.os, G.tape, G.output, by simp; omega, fun j hj hne => by
    rw [Below.heap_alloc _ _ _ (by simp; omega), Below.heap_alloc _ _ _ (by omega)]
    exact G.block j hj hne⟩
  have O2 : Blk ((wr.alloc o1).alloc o2) ob 37 #[.int .i64 H, .int .i64 W, v] := (Below.heap_alloc _ _ _ (by simp; omega)).trans ((Below.heap_alloc _ _ _ (by omega)).trans O)
  exact ⟨grown_comp g2 hg h1, O2.grown hg (fun e => by have := h1 ob e.symm; omega)⟩
set_option maxRecDepth 100000 in
set_option maxHeartbeats 4000000 in
theorem swapped_any (f : Forme) (A : Option Addr) (b off c : Nat) (w : World) (hA : Lies A f.ps.length w.heap.size b off) (hps : PsAt w b off f.ps) (hk4 : ∀ i, i < f.ps.length → 1 ≤ (gp f.ps i).kind ∧ (gp f.ps i).kind ≤ 4) (hm : f.ps.length ≤ 1000000) :
    Calls Try.prog 89 #[.agg #[.int .i64 f.W, .int .i64 f.H, .slice A f.ps.length c]] w (CopyFPost w f.swapK) := by
  obtain ⟨i0, hi0, hz0, hz1, hz2⟩ := info_parts Try.info70
  go_enter Try.func89, Try.ntmps89
  go_wp2_with fail
  have hB : Below w.heap.size w (((w.alloc (Obj.cells #[Value.int IntKind.i64 f.W, Value.int IntKind.i64 f.H, Value.slice A f.ps.length c] 37)).alloc (Obj.cells #[Value.int IntKind.i64 0, Value.int IntKind.i64 0, Value.slice none 0 0] 37)).alloc (Obj.cells #[Value.int IntKind.i64 f.H, Value.int IntKind.i64 f.W, Value.slice none 0 0] 37)) := ((below_new _ _).alloc (by simp) _).alloc (by simp; omega) _
  have hF : Blk (((w.alloc (Obj.cells #[Value.int IntKind.i64 f.W, Value.int IntKind.i64 f.H, Value.slice A f.ps.length c] 37)).alloc (Obj.cells #[Value.int IntKind.i64 0, Value.int IntKind.i64 0, Value.slice none 0 0] 37)).alloc (Obj.cells #[Value.int IntKind.i64 f.H, Value.int IntKind.i64 f.W, Value.slice none 0 0] 37)) w.heap.size 37 #[Value.int IntKind.i64 f.W, Value.int IntKind.i64 f.H, Value.slice A f.ps.length c] :=
    (Below.heap_alloc _ _ _ (by simp; omega)).trans ((Below.heap_alloc _ _ _ (by simp)).trans (Blk.new w 37 _))
  have hR : Blk (((w.alloc (Obj.cells #[Value.int IntKind.i64 f.W, Value.int IntKind.i64 f.H, Value.slice A f.ps.length c] 37)).alloc (Obj.cells #[Value.int IntKind.i64 0, Value.int IntKind.i64 0, Value.slice none 0 0] 37)).alloc (Obj.cells #[Value.int IntKind.i64 f.H, Value.int IntKind.i64 f.W, Value.slice none 0 0] 37)) (w.heap.size + 1) 37 #[Value.int IntKind.i64 0, Value.int IntKind.i64 0, Value.slice none 0 0] := by
    have := Blk.new (w.alloc (Obj.cells #[Value.int IntKind.i64 f.W, Value.int IntKind.i64 f.H, Value.slice A f.ps.length c] 37)) 37 #[Value.int IntKind.i64 0, Value.int IntKind.i64 0, Value.slice none 0 0]
    rw [World.size_alloc] at this
    exact (Below.heap_alloc _ _ _ (by simp)).trans this
  have hO := Blk.new ((w.alloc (Obj.cells #[Value.int IntKind.i64 f.W, Value.int IntKind.i64 f.H, Value.slice A f.ps.length c] 37)).alloc (Obj.cells #[Value.int IntKind.i64 0, Value.int IntKind.i64 0, Value.slice none 0 0] 37)) 37 #[Value.int IntKind.i64 f.H, Value.int IntKind.i64 f.W, Value.slice none 0 0]
  simp only [World.size_alloc] at hO
  have hsz : (((w.alloc (Obj.cells #[Value.int IntKind.i64 f.W, Value.int IntKind.i64 f.H, Value.slice A f.ps.length c] 37)).alloc (Obj.cells #[Value.int IntKind.i64 0, Value.int IntKind.i64 0, Value.slice none 0 0] 37)).alloc (Obj.cells #[Value.int IntKind.i64 f.H, Value.int IntKind.i64 f.W, Value.slice none 0 0] 37)).heap.size = w.heap.size + 1 + 1 + 1 := by simp
  generalize (((w.alloc (Obj.cells #[Value.int IntKind.i64 f.W, Value.int IntKind.i64 f.H, Value.slice A f.ps.length c] 37)).alloc (Obj.cells #[Value.int IntKind.i64 0, Value.int IntKind.i64 0, Value.slice none 0 0] 37)).alloc (Obj.cells #[Value.int IntKind.i64 f.H, Value.int IntKind.i64 f.W, Value.slice none 0 0] 37)) = W1 at *
  have HZ := Lib.hid hsz
  generalize hob : w.heap.size + 1 + 1 = ob at *
  have HOB := Lib.hid hob
  have hob2 : w.heap.size + 1 < ob := by omega
  have hob1 : ob < W1.heap.size := by omega
  clear hob hsz
  have HSN : Hid (∀ k, k < f.ps.length → pcells ((f.ps.map swapP).take (k + 1)) = pcells ((f.ps.map swapP).take k) ++ (pcs (swapP (gp f.ps k))).toList) := fun k hk => pcells_snoc f.ps hk
  have HK4 := Lib.hid hk4
  clear hk4
  have HPS1 : Hid (∀ W, Below w.heap.size w W → PsAt W b off f.ps) := fun W hW j hj => (hps j hj).below hW (hA (by omega)).2
  have HK : Hid (∀ W, W1.grownBy W (some ob) → Blk W w.heap.size 37 #[Value.int IntKind.i64 f.W, Value.int IntKind.i64 f.H, Value.slice A f.ps.length c] ∧ Blk W (w.heap.size + 1) 37 #[Value.int IntKind.i64 0, Value.int IntKind.i64 0, Value.slice none 0 0] ∧ Below w.heap.size w W ∧ ob < W.heap.size ∧ W1.heap.size ≤ W.heap.size) := (show ∀ W, _ from fun W hW =>
    ⟨hF.grown hW (by simp; omega), hR.grown hW (by simp; omega), hB.trans (below_of_grown hW (by omega) hB.size), by have := hW.size; omega, hW.size⟩)
  have hml : f.swapK.ps.length = f.ps.length := by simp [Forme.swapK]
  have HFN : Hid (∀ (v : Value) (W' : World), W'.ownsRow w.heap.size 70 6 v f.ps.length (pcells ((f.ps.map swapP).take f.ps.length)) → Below w.heap.size w W' → CopyFPost w f.swapK (.returned (.agg #[.int .i64 f.H, .int .i64 f.W, v])) W') := by
    show ∀ (v : Value) (W' : World), _
    intro v W' ho hbel
    rw [List.take_of_length_le (by simp), ← hml] at ho
    exact ⟨v, rfl, ps_own ho, hbel⟩
  have HO := Lib.hid hO
  clear hB hF hR hO hps hml
  generalize hn : f.ps.length = n at *
  have HN := Lib.hid hn
  clear hn
  go_loopg [4] n (fun gg s4 wr => ∃ (k : Nat) (v : Value), k ≤ n ∧ n - k ≤ gg ∧ s4 = .int .i64 k ∧ Hid (W1.grownBy wr (some ob)) ∧ Hid (Blk wr ob 37 #[.int .i64 f.H, .int .i64 f.W, v]) ∧ Hid (wr.ownsRow W1.heap.size 70 6 v k (pcells ((f.ps.map swapP).take k))))
  case atStart => exact ⟨0, .slice none 0 0, Nat.zero_le _, by omega, rfl, World.grownBy.refl _ _, HO.out, World.ownsRow_nil _ _ _ _⟩
  case round =>
    obtain ⟨k, v, hk, hgk, rfl, G, O, R⟩ := hrel
    clear HO
    obtain ⟨hF, hR', hB, hob, hw1⟩ := HK.out wr G.out
    by_cases hkn : k < n
    · have hknz : (k : Int) < (n : Int) := by omega
      have hk0 : (0 : Int) ≤ (k : Int) := by omega
      obtain ⟨rfl, hbw⟩ := hA (by omega)
      obtain ⟨c0, c1, c2, c3, c4, c5⟩ := HPS1.out wr hB k (by have := HN.out; omega)
      obtain ⟨kd1, kd2⟩ := HK4.out k hkn
      have HS := Lib.hid (HSN.out k hkn)
      have f0 : wr.cell? ⟨w.heap.size, 0, none⟩ = some (.int .i64 f.W) := hF.cell 0
      have f2 : wr.cell? ⟨w.heap.size, 2, none⟩ = some (.slice (some ⟨b, off, none⟩) n c) := hF.cell 2
      have o2 : wr.cell? ⟨ob, 2, none⟩ = some v := O.out.cell 2
      have g2 := O.out.frozen 2
      have hbr : b < wr.heap.size := by have := hB.size; omega
      generalize gp f.ps k = p at *
      clear hF hR' hB
      have hwb : w.heap.size < wr.heap.size := by omega
      by_cases hk3 : 3 ≤ p.kind
      · have e7 : IntKind.i64.wrap (7 - p.kind) = 7 - p.kind := IntWalk.i64_in _ (by omega)
        have HSP : Hid (swapP p = { name := p.name, kind := 7 - p.kind, x := p.y, y := p.x, w := p.h, h := p.w }) := by show swapP p = _; unfold swapP; rw [if_pos hk3]
        go_wp2_with ((at_builtin
                      refine wpList_append_lies _ rfl (.tmp 43) (.tmp 45) 35 (by rfl) W1.heap.size 70 i0 _ 6 56 Try.underlying35 hi0 hz0 hz1 hz2 rfl (by omega) v k _ (by rfl) ((R.out.alloc _).alloc _) ⟨wr.heap.size + 1, 0, none⟩ 1 1 [.string p.name, .int .i64 (7 - p.kind), .int .i64 p.y, .int .i64 p.x, .int .i64 p.h, .int .i64 p.w] (by rfl) (by rfl) (news_two wr _ _ 70) (by simp [Value.oneCell']) (by omega) (by simp only [maxLen]; omega) (by omega) (by simp; omega) (wr.heap.size + 1 + 1) (by simp) ?_
                      intro g1 cap1 w2 hown hgrow hat hlt
                      obtain ⟨G2, O2⟩ := swp_step hob1 G.out O.out R.out hgrow
                      have HG2 := Lib.hid G2
                      have o2' : w2.cell? ⟨ob, 2, none⟩ = some v := O2.cell 2
                      have g2' := O2.frozen 2
                      have HO2 := Lib.hid O2
                      have HR2 := Lib.hid hown
                      clear hown hgrow hat G2 O2))
        go_roundg (n - (k + 1))
        case measure => omega
        case rel =>
          have hne : ∀ t, (Value.slice (some ⟨g1, 0, none⟩) (k + 1) cap1).ownBlock = some t → W1.heap.size ≤ t := fun t ht => (HR2.out.lt t ht).1
          refine ⟨k + 1, .slice (some ⟨g1, 0, none⟩) (k + 1) cap1, by omega, by omega, by go_num, grown_setCell' HG2.out _ _, ?_, ?_⟩
          · show Blk _ _ _ _
            exact HO2.out.set_ 2 _
          · show World.ownsRow _ _ _ _ _ _ _
            have := HR2.out
            rw [HS.out, HSP.out]
            exact ownsRow_setCell_below this (by simpa using hob1) _
      · have HSP : Hid (swapP p = { name := p.name, kind := p.kind, x := p.y, y := p.x, w := p.h, h := p.w }) := by show swapP p = _; unfold swapP; rw [if_neg hk3]
        go_wp2_with ((at_builtin
                      refine wpList_append_lies _ rfl (.tmp 43) (.tmp 45) 35 (by rfl) W1.heap.size 70 i0 _ 6 56 Try.underlying35 hi0 hz0 hz1 hz2 rfl (by omega) v k _ (by rfl) ((R.out.alloc _).alloc _) ⟨wr.heap.size + 1, 0, none⟩ 1 1 [.string p.name, .int .i64 p.kind, .int .i64 p.y, .int .i64 p.x, .int .i64 p.h, .int .i64 p.w] (by rfl) (by rfl) (news_two wr _ _ 70) (by simp [Value.oneCell']) (by omega) (by simp only [maxLen]; omega) (by omega) (by simp; omega) (wr.heap.size + 1 + 1) (by simp) ?_
                      intro g1 cap1 w2 hown hgrow hat hlt
                      obtain ⟨G2, O2⟩ := swp_step hob1 G.out O.out R.out hgrow
                      have HG2 := Lib.hid G2
                      have o2' : w2.cell? ⟨ob, 2, none⟩ = some v := O2.cell 2
                      have g2' := O2.frozen 2
                      have HO2 := Lib.hid O2
                      have HR2 := Lib.hid hown
                      clear hown hgrow hat G2 O2))
        go_roundg (n - (k + 1))
        case measure => omega
        case rel =>
          have hne : ∀ t, (Value.slice (some ⟨g1, 0, none⟩) (k + 1) cap1).ownBlock = some t → W1.heap.size ≤ t := fun t ht => (HR2.out.lt t ht).1
          refine ⟨k + 1, .slice (some ⟨g1, 0, none⟩) (k + 1) cap1, by omega, by omega, by go_num, grown_setCell' HG2.out _ _, ?_, ?_⟩
          · show Blk _ _ _ _
            exact HO2.out.set_ 2 _
          · show World.ownsRow _ _ _ _ _ _ _
            have := HR2.out
            rw [HS.out, HSP.out]
            exact ownsRow_setCell_below this (by simpa using hob1) _
    · have hknz : ¬ (k : Int) < (n : Int) := by omega
      have he : k = n := by omega
      subst he
      obtain ⟨A', c', rfl⟩ := own_slice R.out
      have o0 : wr.cell? ⟨ob, 0, none⟩ = some (.int .i64 f.H) := O.out.cell 0
      have o1 : wr.cell? ⟨ob, 1, none⟩ = some (.int .i64 f.W) := O.out.cell 1
      have o2 : wr.cell? ⟨ob, 2, none⟩ = some (.slice A' k c') := O.out.cell 2
      have f2 : wr.cell? ⟨w.heap.size, 2, none⟩ = some (.slice A k c) := hF.cell 2
      have s0 : wr.cell? ⟨w.heap.size + 1, 0, none⟩ = some (.int .i64 0) := hR'.cell 0
      have s1 : wr.cell? ⟨w.heap.size + 1, 1, none⟩ = some (.int .i64 0) := hR'.cell 1
      have s2 : wr.cell? ⟨w.heap.size + 1, 2, none⟩ = some (.slice none 0 0) := hR'.cell 2
      have t0 := hR'.frozen 0
      have t1 := hR'.frozen 1
      have t2 := hR'.frozen 2
      have hzr := hR'.lt
      have HB' := Lib.hid hB
      have RR := Lib.hid (own_mono R.out (show w.heap.size ≤ W1.heap.size by omega))
      have hRW := R.out
      have HRW := Lib.hid hRW
      clear hF hR' hB R hRW O
      go_wp2_with fail
      have hfin := HFN.out _ (((wr.setCell ⟨w.heap.size + 1, 0, none⟩ (Value.int IntKind.i64 f.H)).setCell ⟨w.heap.size + 1, 1, none⟩ (Value.int IntKind.i64 f.W)).setCell ⟨w.heap.size + 1, 2, none⟩ (Value.slice A' k c'))
        (own_mono (ownsRow_setCell_blk (ownsRow_setCell_blk (ownsRow_setCell_blk HRW.out (by omega) _) (by omega) _) (by omega) _) (show w.heap.size ≤ W1.heap.size by omega))
        (((HB'.out.setCell (by simp) _).setCell (by simp) _).setCell (by simp) _)
      exact bodyPost_ret (v := .agg #[.int .i64 f.H, .int .i64 f.W, .slice A' k c']) (by simp [results, Try.results89, go_sem, s0, s1, s2, hzr]) rfl hfin
end Go.Proofs.Ytlfeoofchebbkaa
