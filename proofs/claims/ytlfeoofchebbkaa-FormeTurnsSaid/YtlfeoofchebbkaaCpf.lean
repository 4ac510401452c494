/- Copy, CopyReal, Light, few, Neighbours. -/
import Derived.Test.YtlfeoofchebbkaaRow
import Derived.Deep.RegionHeld3
namespace Go.Proofs.Ytlfeoofchebbkaa
set_option linter.unusedSimpArgs false
set_option linter.unusedVariables false
open Go.RowKit
def nbB (p q : Piece) : Bool := p.x + p.w == q.x && (decide (p.y < q.y + q.h) && decide (q.y < p.y + p.h))
def Sml (p : Piece) : Prop := 0 ≤ p.x ∧ p.x ≤ 4000 ∧ 0 ≤ p.y ∧ p.y ≤ 4000 ∧ 0 ≤ p.w ∧ p.w ≤ 4000 ∧ 0 ≤ p.h ∧ p.h ≤ 4000
theorem neighbours_any (p q : Piece) (w : World) (hp : Sml p) (hq : Sml q) : Calls Try.prog 91 #[.agg (pcs p), .agg (pcs q)] w fun e w' => e = .returned (.bool (nbB p q)) ∧ Below w.heap.size w w' := by
  obtain ⟨a1, a2, a3, a4, a5, a6, a7, a8⟩ := hp
  obtain ⟨b1, b2, b3, b4, b5, b6, b7, b8⟩ := hq
  have HB : Hid (nbB p q = (p.x + p.w == q.x && (decide (p.y < q.y + q.h) && decide (q.y < p.y + p.h)))) := rfl
  generalize nbB p q = nb at *
  go_enter Try.func91, Try.ntmps91
  go_wp2_with fail
  all_goals go_ret
  all_goals exact ⟨ret_bool (by rw [HB.out]; simp [*] <;> omega), ((Below.refl _ _).alloc (Nat.le_refl _) _).alloc (by simp) _⟩
def lightB (f : Forme) : Bool := decide ((∀ j, j < f.ps.length → (gp f.ps j).name.size ≤ 20) ∧ (f.ps.length ≤ 12 ∨ 60 < f.ps.length ∧ f.ps.length ≤ 62))
set_option maxHeartbeats 1000000 in
theorem light_any (f : Forme) (A : Option Addr) (b off c : Nat) (w : World) (hA : Lies A f.ps.length w.heap.size b off) (hps : PsAt w b off f.ps) (hm : f.ps.length ≤ 9223372036854775807) :
    Calls Try.prog 25 #[.agg #[.int .i64 f.W, .int .i64 f.H, .slice A f.ps.length c]] w fun e w' => e = .returned (.bool (lightB f)) ∧ Below w.heap.size w w' := by
  have HL : Hid (lightB f = decide ((∀ j, j < f.ps.length → (gp f.ps j).name.size ≤ 20) ∧ (f.ps.length ≤ 12 ∨ 60 < f.ps.length ∧ f.ps.length ≤ 62))) := rfl
  generalize lightB f = lb at *
  generalize hn : f.ps.length = n at *
  have HN := Lib.hid hn
  clear hn
  go_enter Try.func25, Try.ntmps25
  go_wp2_with fail
  have hB := Lib.hid (below_new w (Obj.cells #[Value.int IntKind.i64 f.W, Value.int IntKind.i64 f.H, Value.slice A n c] 37))
  have hF := (FAt_new w 37 f (Value.slice A n c))
  have hz : w.heap.size < (w.alloc (Obj.cells #[Value.int IntKind.i64 f.W, Value.int IntKind.i64 f.H, Value.slice A n c] 37)).heap.size := by simp
  generalize w.alloc (Obj.cells #[Value.int IntKind.i64 f.W, Value.int IntKind.i64 f.H, Value.slice A n c] 37) = W0 at *
  obtain ⟨a0, a1, a2⟩ := hF
  go_loopg [3] n (fun gg s3 wr => ∃ k : Nat, k ≤ n ∧ n - k ≤ gg ∧ s3 = .int .i64 k ∧ W0 = wr ∧ Hid (∀ j, j < k → (gp f.ps j).name.size ≤ 20))
  case atStart => exact ⟨0, Nat.zero_le _, by omega, rfl, rfl, fun j hj => absurd hj (Nat.not_lt_zero _)⟩
  case round =>
    obtain ⟨k, hk, hg, rfl, rfl, E⟩ := hrel
    by_cases hlt : k < n
    · have hltz : (k : Int) < (n : Int) := by omega
      obtain ⟨rfl, hb⟩ := hA (by omega)
      obtain ⟨c0, c1, c2, c3, c4, c5⟩ := (hps k (by have := HN.out; omega)).below hB.out hb
      clear hps hA
      have HY : Hid (∀ j, j = k → (gp f.ps j).name = (gp f.ps k).name) := fun j e => by rw [e]
      generalize (gp f.ps k).name = y at *
      by_cases h20 : y.size ≤ 20
      · have h20z : ¬ (20 : Int) < (y.size : Int) := by omega
        go_wp2_with fail
        go_roundg (n - (k + 1))
        case measure => omega
        case rel =>
          refine ⟨k + 1, by omega, by omega, by go_num, rfl, (show ∀ j, _ from fun j hj => ?_)⟩
          by_cases e : j = k
          · rw [HY.out j e]; exact h20
          · exact E.out j (by omega)
      · have h20z : (20 : Int) < (y.size : Int) := by omega
        go_wp2_with fail
        go_ret
        refine ⟨ret_bool ?_, hB.out⟩
        rw [HL.out]
        symm
        rw [decide_eq_false_iff_not]
        rintro ⟨h, _⟩
        have := h k hlt
        rw [HY.out k rfl] at this
        omega
    · have hltz : ¬ (k : Int) < (n : Int) := by omega
      have he : k = n := by omega
      subst he
      have HQ : Hid (lb = decide (k ≤ 12 ∨ 60 < k ∧ k ≤ 62)) := by
        show _ = _
        rw [HL.out]
        exact decide_eq_decide.2 ⟨fun h => h.2, fun h => ⟨E.out, h⟩⟩
      clear HL E
      by_cases h1 : k ≤ 12
      · have h1z : (k : Int) ≤ 12 := by omega
        go_wp2_with fail
        go_ret
        exact ⟨ret_bool (by rw [HQ.out]; symm; exact decide_eq_true (by omega)), hB.out⟩
      · have h1z : ¬ (k : Int) ≤ 12 := by omega
        by_cases h2 : 60 < k
        · have h2z : (60 : Int) < (k : Int) := by omega
          go_wp2_with fail
          go_ret
          exact ⟨ret_bool (by rw [HQ.out]; exact decide_eq_decide.2 (by omega)), hB.out⟩
        · have h2z : ¬ (60 : Int) < (k : Int) := by omega
          go_wp2_with fail
          go_ret
          exact ⟨ret_bool (by rw [HQ.out]; symm; exact decide_eq_false (by omega)), hB.out⟩
def fewB (r : Real) : Bool := decide (r.ws.length ≤ 70 ∧ r.hs.length ≤ 70 ∧ r.ts.length ≤ 70)
theorem few_any (r : Real) (A1 A2 A3 : Option Addr) (c1 c2 c3 : Nat) (w : World) :
    Calls Try.prog 26 #[.agg #[.slice A1 r.ws.length c1, .slice A2 r.hs.length c2, .slice A3 r.ts.length c3]] w fun e w' => e = .returned (.bool (fewB r)) ∧ Below w.heap.size w w' := by
  have HL : Hid (fewB r = decide (r.ws.length ≤ 70 ∧ r.hs.length ≤ 70 ∧ r.ts.length ≤ 70)) := rfl
  generalize fewB r = lb at *
  generalize r.ws.length = n1 at *
  generalize r.hs.length = n2 at *
  generalize r.ts.length = n3 at *
  by_cases h1 : n1 ≤ 70
  · have h1z : (n1 : Int) ≤ 70 := by omega
    by_cases h2 : n2 ≤ 70
    · have h2z : (n2 : Int) ≤ 70 := by omega
      by_cases h3 : n3 ≤ 70
      · have h3z : (n3 : Int) ≤ 70 := by omega
        go_enter Try.func26, Try.ntmps26
        go_wp2_with fail
        go_ret
        exact ⟨ret_bool (by rw [HL.out]; symm; exact decide_eq_true (by omega)), below_new _ _⟩
      · have h3z : ¬ (n3 : Int) ≤ 70 := by omega
        go_enter Try.func26, Try.ntmps26
        go_wp2_with fail
        go_ret
        exact ⟨ret_bool (by rw [HL.out]; symm; exact decide_eq_false (by omega)), below_new _ _⟩
    · have h2z : ¬ (n2 : Int) ≤ 70 := by omega
      go_enter Try.func26, Try.ntmps26
      go_wp2_with fail
      go_ret
      exact ⟨ret_bool (by rw [HL.out]; symm; exact decide_eq_false (by omega)), below_new _ _⟩
  · have h1z : ¬ (n1 : Int) ≤ 70 := by omega
    go_enter Try.func26, Try.ntmps26
    go_wp2_with fail
    go_ret
    exact ⟨ret_bool (by rw [HL.out]; symm; exact decide_eq_false (by omega)), below_new _ _⟩
theorem wpList_copy' {P : Program} {ops : Array Oper} {rest : List Oper} {o : Oper} {a : Act} {w w0 : World} {Q : Exit → Act → World → Prop} (hgd : o.guard = none) (s x : Operand) (t : TypeId)
    (ho : o.op = .call { callee := .builtin .append, args := #[s, x], argTypes := #[t, t] })
    (e : TypeId) (i : TypeInfo) (z : Value) (size bytes : Nat) (ht : P.underlying t = some (.slice e)) (hi : P.info? e = some i) (hz : i.zero = some z)
    (hsize : i.size = size) (hby : i.bytes = bytes) (hzs : z.cells.size = size) (hsz : 0 < size)
    (hw : w = w0.alloc (.cells #[] e)) (H : Nat) (hH : w0.heap.size = H) (hs : a.eval s = .slice (some ⟨H, 0, none⟩) 0 0)
    (A : Option Addr) (b off m c : Nat) (news : List Value) (hx : a.eval x = .slice A m c) (hl : news.length = m * size) (hA : Lies A m H b off) (hnews : ∀ j, j < m * size → w0.cell? ⟨b, off + j, none⟩ = news[j]?) (h1 : ∀ u ∈ news, u.oneCell' = true)
    (h63 : m ≤ maxLen) (hbytes : m * bytes ≤ 140737488355328)
    (h : ∀ v' w', w'.ownsRow H e size v' m news → Below H w0 w' → wpList P ops Q rest (a.put o.dst v') w') : wpList P ops Q (o :: rest) a w := by
  subst hH
  exact wpList_copy hgd s x t ho e i z size bytes ht hi hz hsize hby hzs hsz hw hs A b off m c news hx hl hA hnews h1 h63 hbytes h
set_option maxRecDepth 100000 in
set_option maxHeartbeats 1000000 in
theorem copyF_any (f : Forme) (A : Option Addr) (b off c : Nat) (w : World) (hA : Lies A f.ps.length w.heap.size b off) (hps : PsAt w b off f.ps) (hm : f.ps.length ≤ 1000000) :
    Calls Try.prog 28 #[.agg #[.int .i64 f.W, .int .i64 f.H, .slice A f.ps.length c]] w (CopyFPost w f) := by
  obtain ⟨i0, hi0, hz0, hz1, hz2⟩ := info_parts Try.info70
  have hB2 : Below w.heap.size w ((w.alloc (Obj.cells #[Value.int IntKind.i64 f.W, Value.int IntKind.i64 f.H, Value.slice A f.ps.length c] 37)).alloc (Obj.cells #[Value.int IntKind.i64 0, Value.int IntKind.i64 0, Value.slice none 0 0] 37)) := (below_new _ _).trans ((below_new _ _).mono (by simp))
  have hh : ∀ j, j < f.ps.length * 6 → ((w.alloc (Obj.cells #[Value.int IntKind.i64 f.W, Value.int IntKind.i64 f.H, Value.slice A f.ps.length c] 37)).alloc (Obj.cells #[Value.int IntKind.i64 0, Value.int IntKind.i64 0, Value.slice none 0 0] 37)).cell? ⟨b, off + j, none⟩ = (pcells f.ps)[j]? := fun j hj => by
    rw [hB2.cell (p := ⟨b, off + j, none⟩) (hA (by omega)).2, hps.all j hj, pcells_get _ j hj]
  have HH := Lib.hid hh
  have HB2 := Lib.hid hB2
  have hlen := pcells_length f.ps
  have HLEN := Lib.hid hlen
  have hA' : Lies A f.ps.length (w.heap.size + 1 + 1) b off := hA.mono (by omega)
  have hF : Blk ((w.alloc (Obj.cells #[Value.int IntKind.i64 f.W, Value.int IntKind.i64 f.H, Value.slice A f.ps.length c] 37)).alloc (Obj.cells #[Value.int IntKind.i64 0, Value.int IntKind.i64 0, Value.slice none 0 0] 37)) w.heap.size 37 #[Value.int IntKind.i64 f.W, Value.int IntKind.i64 f.H, Value.slice A f.ps.length c] :=
    (Below.heap_alloc _ _ _ (by simp)).trans (Blk.new w 37 _)
  have hR : Blk ((w.alloc (Obj.cells #[Value.int IntKind.i64 f.W, Value.int IntKind.i64 f.H, Value.slice A f.ps.length c] 37)).alloc (Obj.cells #[Value.int IntKind.i64 0, Value.int IntKind.i64 0, Value.slice none 0 0] 37)) (w.heap.size + 1) 37 #[Value.int IntKind.i64 0, Value.int IntKind.i64 0, Value.slice none 0 0] := by
    have := Blk.new (w.alloc (Obj.cells #[Value.int IntKind.i64 f.W, Value.int IntKind.i64 f.H, Value.slice A f.ps.length c] 37)) 37 #[Value.int IntKind.i64 0, Value.int IntKind.i64 0, Value.slice none 0 0]
    rwa [World.size_alloc] at this
  have HF := Lib.hid hF
  have HR := Lib.hid hR
  clear hps hh hB2 hF hR hlen
  have HPO : Hid (∀ v w', w'.ownsRow (w.heap.size + 1 + 1) 70 6 v f.ps.length (pcells f.ps) → PsOwn w' (w.heap.size + 1 + 1) f.ps v) := (show ∀ v w', _ from fun v w' h => ps_own h)
  have HFin : Hid (∀ (A' : Option Addr) (c' b' : Nat) (W' : World), Lies A' f.ps.length W'.heap.size b' 0 → f.ps.length ≤ c' → (0 < f.ps.length → w.heap.size ≤ b' ∧ rowG W' b' (f.ps.length * 6) (pcell f.ps)) → Below w.heap.size w W' → CopyFPost w f (.returned (.agg #[.int .i64 f.W, .int .i64 f.H, .slice A' f.ps.length c'])) W') := by
    show ∀ (A' : Option Addr) (c' b' : Nat) (W' : World), _
    intro A' c' b' W' h1 h2 h3 h4
    refine ⟨_, rfl, ⟨A', b', c', rfl, h2, h1, ?_, h3⟩, h4⟩
    rcases Nat.eq_zero_or_pos f.ps.length with e | e
    · exact fun j hj => by omega
    · exact PsAt.of_row (h3 e).2
  unfold PsOwn at HPO
  generalize f.ps.length = n at *
  go_enter Try.func28, Try.ntmps28
  go_wp2_with ((at_builtin
                refine wpList_copy' rfl (.tmp 3) (.tmp 5) 35 rfl 70 i0 _ 6 56 Try.underlying35 hi0 hz0 hz1 hz2 rfl (by omega) rfl (w.heap.size + 1 + 1) (by simp) (by rfl) A b off n c _ (by rfl) HLEN.out hA' HH.out (pcells_one f.ps) (by simp only [maxLen]; omega) (by omega) ?_
                intro v1 w1 hown1 hg1
                obtain ⟨A', b', c', rfl, hc', hl', hps', hr'⟩ := HPO.out _ _ hown1
                have HBF : Blk w1 w.heap.size 37 _ := (hg1.block _ (by omega)).trans HF.out
                have HBR : Blk w1 (w.heap.size + 1) 37 _ := (hg1.block _ (by omega)).trans HR.out
                have HB3 := Lib.hid (HB2.out.trans (hg1.mono (by omega)))
                have p0 := HBF.cell 0
                have p1 := HBF.cell 1
                have p2 := HBF.cell 2
                have f2 := HBF.frozen 2
                have r0 := HBR.frozen 0
                have r1 := HBR.frozen 1
                have r2 := HBR.frozen 2
                have s0 := HBR.cell 0
                have s1 := HBR.cell 1
                have s2 := HBR.cell 2
                have HL' := Lib.hid hl'
                have HR' := Lib.hid hr'
                have hz1' : w.heap.size + 1 < w1.heap.size := by have := HBR.lt; omega
                simp only [Array.getElem?_eq_getElem, List.getElem_toArray, List.getElem_cons_zero, List.getElem_cons_succ, List.size_toArray, List.length_cons, List.length_nil, Nat.reduceAdd, Nat.reduceLT] at p0 p1 p2 s0 s1 s2
                clear hown1 hg1 hps' HBF HBR hl' hr' HPO))
  have hfin := HFin.out A' c' b' ((((w1.setCell ⟨w.heap.size, 2, none⟩ (Value.slice A' n c')).setCell ⟨w.heap.size + 1, 0, none⟩ (Value.int IntKind.i64 f.W)).setCell ⟨w.heap.size + 1, 1, none⟩ (Value.int IntKind.i64 f.H)).setCell ⟨w.heap.size + 1, 2, none⟩ (Value.slice A' n c'))
    (HL'.out.mono (by simp [World.setCell])) hc' (fun h0 => ⟨by have := (HR'.out h0).1; omega, ((((HR'.out h0).2.setOther (by have := (HR'.out h0).1; simp; omega) _).setOther (by have := (HR'.out h0).1; simp; omega) _).setOther (by have := (HR'.out h0).1; simp; omega) _).setOther (by have := (HR'.out h0).1; simp; omega) _⟩)
    ((((HB3.out.setCell (by simp) _).setCell (by simp) _).setCell (by simp) _).setCell (by simp) _)
  exact bodyPost_ret (v := .agg #[.int .i64 f.W, .int .i64 f.H, .slice A' n c']) (by simp [results, Try.results28, go_sem, p0, p1, p2, s0, s1, s2, hz1']) rfl hfin
/-- Three lists that the call owns, in blocks of their own. -/
structure RealOwn (w : World) (B : Nat) (r : Real) (A1 A2 A3 : Option Addr) (c1 c2 c3 b1 b2 b3 : Nat) : Prop where
  k1 : r.ws.length ≤ c1
  k2 : r.hs.length ≤ c2
  k3 : r.ts.length ≤ c3
  l1 : Lies A1 r.ws.length w.heap.size b1 0
  l2 : Lies A2 r.hs.length w.heap.size b2 0
  l3 : Lies A3 r.ts.length w.heap.size b3 0
  r1 : 0 < r.ws.length → B ≤ b1 ∧ rowG w b1 r.ws.length (fun j => .int .i64 (gz r.ws j))
  r2 : 0 < r.hs.length → B ≤ b2 ∧ rowG w b2 r.hs.length (fun j => .int .i64 (gz r.hs j))
  r3 : 0 < r.ts.length → B ≤ b3 ∧ rowG w b3 r.ts.length (fun j => .int .i64 (gz r.ts j))
  d12 : 0 < r.ws.length → 0 < r.hs.length → b1 ≠ b2
  d13 : 0 < r.ws.length → 0 < r.ts.length → b1 ≠ b3
  d23 : 0 < r.hs.length → 0 < r.ts.length → b2 ≠ b3
theorem RealOwn.rat {w : World} {B : Nat} {r : Real} {A1 A2 A3 : Option Addr} {c1 c2 c3 b1 b2 b3 : Nat} (h : RealOwn w B r A1 A2 A3 c1 c2 c3 b1 b2 b3) : RAt w w.heap.size r A1 A2 A3 b1 0 b2 0 b3 0 where
  l1 := h.l1
  l2 := h.l2
  l3 := h.l3
  z1 := fun j hj => ZsAt.of_row (h.r1 (by omega)).2 j hj
  z2 := fun j hj => ZsAt.of_row (h.r2 (by omega)).2 j hj
  z3 := fun j hj => ZsAt.of_row (h.r3 (by omega)).2 j hj
def CopyRPost (w : World) (r : Real) (e : Ending) (w' : World) : Prop :=
  ∃ (A1 A2 A3 : Option Addr) (c1 c2 c3 b1 b2 b3 : Nat), e = .returned (.agg #[.slice A1 r.ws.length c1, .slice A2 r.hs.length c2, .slice A3 r.ts.length c3]) ∧ RealOwn w' w.heap.size r A1 A2 A3 c1 c2 c3 b1 b2 b3 ∧ Below w.heap.size w w'
theorem realOwn_of {w W0 w4 w5 w6 W' : World} {r : Real} {X1 X2 X3 : Option Addr} {z1 z2 z3 y1 y2 y3 : Nat} (hz : w.heap.size + 1 < W0.heap.size) (hB : Below w.heap.size w W0)
    (h4 : Below W0.heap.size W0 w4) (h5 : Below w4.heap.size w4 w5) (h6 : Below w5.heap.size w5 w6)
    (k1 : r.ws.length ≤ z1) (l1 : Lies X1 r.ws.length w4.heap.size y1 0) (q1 : 0 < r.ws.length → W0.heap.size ≤ y1 ∧ rowG w4 y1 r.ws.length fun j => .int .i64 (gz r.ws j))
    (k2 : r.hs.length ≤ z2) (l2 : Lies X2 r.hs.length w5.heap.size y2 0) (q2 : 0 < r.hs.length → w4.heap.size ≤ y2 ∧ rowG w5 y2 r.hs.length fun j => .int .i64 (gz r.hs j))
    (k3 : r.ts.length ≤ z3) (l3 : Lies X3 r.ts.length w6.heap.size y3 0) (q3 : 0 < r.ts.length → w5.heap.size ≤ y3 ∧ rowG w6 y3 r.ts.length fun j => .int .i64 (gz r.ts j))
    (hs : w6.heap.size ≤ W'.heap.size) (hb : ∀ k, W0.heap.size ≤ k → k < w6.heap.size → W'.heap[k]? = w6.heap[k]?) (hlow : Below w.heap.size w W') :
    CopyRPost w r (.returned (.agg #[.slice X1 r.ws.length z1, .slice X2 r.hs.length z2, .slice X3 r.ts.length z3])) W' := by
  have s4 := h4.size
  have s5 := h5.size
  have s6 := h6.size
  have s0 := hB.size
  refine ⟨X1, X2, X3, z1, z2, z3, y1, y2, y3, rfl, ⟨k1, k2, k3, l1.mono (by omega), l2.mono (by omega), l3.mono (by omega), fun h => ⟨by have := (q1 h).1; omega, ?_⟩, fun h => ⟨by have := (q2 h).1; omega, ?_⟩, fun h => ⟨by have := (q3 h).1; omega, ?_⟩, ?_, ?_, ?_⟩, hlow⟩
  · have hl := (q1 h).2.lt
    refine ((q1 h).2.of_block ((h6.block _ (by omega)).trans (h5.block _ hl))).of_block (hb _ (q1 h).1 (by omega))
  · have hl := (q2 h).2.lt
    refine ((q2 h).2.of_block (h6.block _ hl)).of_block (hb _ (by have := (q2 h).1; omega) (by omega))
  · have hl := (q3 h).2.lt
    refine ((q3 h).2).of_block (hb _ (by have := (q3 h).1; omega) (by omega))
  · intro h h'
    have := (q1 h).2.lt
    have := (q2 h').1
    omega
  · intro h h'
    have := (q1 h).2.lt
    have := (q3 h').1
    omega
  · intro h h'
    have := (q2 h).2.lt
    have := (q3 h').1
    omega
set_option maxRecDepth 100000 in
set_option maxHeartbeats 1000000 in
theorem copyReal_any (r : Real) (A1 A2 A3 : Option Addr) (b1 o1 b2 o2 b3 o3 c1 c2 c3 : Nat) (w : World) (h : RAt w w.heap.size r A1 A2 A3 b1 o1 b2 o2 b3 o3) (m1 : r.ws.length ≤ 1000000) (m2 : r.hs.length ≤ 1000000) (m3 : r.ts.length ≤ 1000000) :
    Calls Try.prog 29 #[.agg #[.slice A1 r.ws.length c1, .slice A2 r.hs.length c2, .slice A3 r.ts.length c3]] w (CopyRPost w r) := by
  have HR := Lib.hid h
  clear h
  have hB2 : Below w.heap.size w ((w.alloc (Obj.cells #[Value.slice A1 r.ws.length c1, Value.slice A2 r.hs.length c2, Value.slice A3 r.ts.length c3] 39)).alloc (Obj.cells #[Value.slice none 0 0, Value.slice none 0 0, Value.slice none 0 0] 39)) := (below_new _ _).trans ((below_new _ _).mono (by simp))
  have hF : Blk ((w.alloc (Obj.cells #[Value.slice A1 r.ws.length c1, Value.slice A2 r.hs.length c2, Value.slice A3 r.ts.length c3] 39)).alloc (Obj.cells #[Value.slice none 0 0, Value.slice none 0 0, Value.slice none 0 0] 39)) w.heap.size 39 #[Value.slice A1 r.ws.length c1, Value.slice A2 r.hs.length c2, Value.slice A3 r.ts.length c3] :=
    (Below.heap_alloc _ _ _ (by simp)).trans (Blk.new w 39 _)
  have hG : Blk ((w.alloc (Obj.cells #[Value.slice A1 r.ws.length c1, Value.slice A2 r.hs.length c2, Value.slice A3 r.ts.length c3] 39)).alloc (Obj.cells #[Value.slice none 0 0, Value.slice none 0 0, Value.slice none 0 0] 39)) (w.heap.size + 1) 39 #[Value.slice none 0 0, Value.slice none 0 0, Value.slice none 0 0] := by
    have := Blk.new (w.alloc (Obj.cells #[Value.slice A1 r.ws.length c1, Value.slice A2 r.hs.length c2, Value.slice A3 r.ts.length c3] 39)) 39 #[Value.slice none 0 0, Value.slice none 0 0, Value.slice none 0 0]
    rwa [World.size_alloc] at this
  have hsz : ((w.alloc (Obj.cells #[Value.slice A1 r.ws.length c1, Value.slice A2 r.hs.length c2, Value.slice A3 r.ts.length c3] 39)).alloc (Obj.cells #[Value.slice none 0 0, Value.slice none 0 0, Value.slice none 0 0] 39)).heap.size = w.heap.size + 1 + 1 := by simp
  go_enter Try.func29, Try.ntmps29
  go_wp2_with fail
  generalize ((w.alloc (Obj.cells #[Value.slice A1 r.ws.length c1, Value.slice A2 r.hs.length c2, Value.slice A3 r.ts.length c3] 39)).alloc (Obj.cells #[Value.slice none 0 0, Value.slice none 0 0, Value.slice none 0 0] 39)) = W0 at *
  have HZ := Lib.hid hsz
  clear hsz
  have hz0 : w.heap.size + 1 < W0.heap.size := by have := HZ.out; omega
  have HC1 : Hid (∀ W, Below W0.heap.size W0 W → Calls Try.prog 22 #[.slice A1 r.ws.length c1] W (CopyPost W r.ws)) := (show ∀ W, _ from fun W hW => by
    have hx := HR.out.below (hB2.trans (hW.mono hB2.size))
    exact copyIntsO_any r.ws A1 b1 o1 c1 W (hx.l1.mono (Nat.le_trans hB2.size hW.size)) hx.z1 m1)
  have HC2 : Hid (∀ W, Below W0.heap.size W0 W → Calls Try.prog 22 #[.slice A2 r.hs.length c2] W (CopyPost W r.hs)) := (show ∀ W, _ from fun W hW => by
    have hx := HR.out.below (hB2.trans (hW.mono hB2.size))
    exact copyIntsO_any r.hs A2 b2 o2 c2 W (hx.l2.mono (Nat.le_trans hB2.size hW.size)) hx.z2 m2)
  have HC3 : Hid (∀ W, Below W0.heap.size W0 W → Calls Try.prog 22 #[.slice A3 r.ts.length c3] W (CopyPost W r.ts)) := (show ∀ W, _ from fun W hW => by
    have hx := HR.out.below (hB2.trans (hW.mono hB2.size))
    exact copyIntsO_any r.ts A3 b3 o3 c3 W (hx.l3.mono (Nat.le_trans hB2.size hW.size)) hx.z3 m3)
  have HB := Lib.hid hB2
  have HFb := Lib.hid hF
  have HGb := Lib.hid hG
  clear hB2 hF hG HR
  have hS0 : W0.drew.cell? ⟨w.heap.size, 0, none⟩ = some (.slice A1 r.ws.length c1) ∧ W0.drew.cell? ⟨w.heap.size, 1, none⟩ = some (.slice A2 r.hs.length c2) ∧ W0.drew.cell? ⟨w.heap.size, 2, none⟩ = some (.slice A3 r.ts.length c3) := ⟨HFb.out.cell 0, HFb.out.cell 1, HFb.out.cell 2⟩
  have hK : ∀ W, Below W0.heap.size W0 W → (W.cell? ⟨w.heap.size, 0, none⟩ = some (.slice A1 r.ws.length c1) ∧ W.cell? ⟨w.heap.size, 1, none⟩ = some (.slice A2 r.hs.length c2) ∧ W.cell? ⟨w.heap.size, 2, none⟩ = some (.slice A3 r.ts.length c3)) := fun W hW => by
    have hx : Blk W w.heap.size 39 _ := (hW.block _ (by omega)).trans HFb.out
    exact ⟨hx.cell 0, hx.cell 1, hx.cell 2⟩
  have HK := Lib.hid hK
  clear hK
  go_region_held3 (fun W => (W.cell? ⟨w.heap.size, 0, none⟩ = some (.slice A1 r.ws.length c1) ∧ W.cell? ⟨w.heap.size, 1, none⟩ = some (.slice A2 r.hs.length c2) ∧ W.cell? ⟨w.heap.size, 2, none⟩ = some (.slice A3 r.ts.length c3)))
    (first
      | exact hS0
      | exact HK.out _ hb6
      | exact HK.out _ hb5
      | exact HK.out _ hb4
      | go_keep)
    (first
      | (go_at_call 22; (with_reducible refine (HC1.out _ ((Below.refl _ _).drew)).mono ?_); rintro e w4 ⟨v1, rfl, ⟨X1, y1, z1, rfl, k1, l1, p1, q1⟩, hb4'⟩; have hb4 : Below W0.heap.size W0 w4 := ((Below.refl _ _).drew).trans hb4')
      | (go_at_call 22; (with_reducible refine (HC2.out _ hb4).mono ?_); rintro e w5 ⟨v2, rfl, ⟨X2, y2, z2, rfl, k2, l2, p2, q2⟩, hb5'⟩; have hb5 : Below W0.heap.size W0 w5 := hb4.trans (hb5'.mono hb4.size))
      | (go_at_call 22; (with_reducible refine (HC3.out _ hb5).mono ?_); rintro e w6 ⟨v3, rfl, ⟨X3, y3, z3, rfl, k3, l3, p3, q3⟩, hb6'⟩; have hb6 : Below W0.heap.size W0 w6 := hb5.trans (hb6'.mono hb5.size); have hx6 : Blk w6 (w.heap.size + 1) 39 #[Value.slice none 0 0, Value.slice none 0 0, Value.slice none 0 0] := (hb6.block _ (by omega)).trans HGb.out; have s0 : w6.cell? ⟨w.heap.size + 1, 0, none⟩ = some (Value.slice none 0 0) := hx6.cell 0; have s1 : w6.cell? ⟨w.heap.size + 1, 1, none⟩ = some (Value.slice none 0 0) := hx6.cell 1; have s2 : w6.cell? ⟨w.heap.size + 1, 2, none⟩ = some (Value.slice none 0 0) := hx6.cell 2; have t0 := hx6.frozen 0; have t1 := hx6.frozen 1; have t2 := hx6.frozen 2; have hz6 := hx6.lt; clear hx6))
  have hfin := realOwn_of (W' := ((w6.setCell ⟨w.heap.size + 1, 0, none⟩ (Value.slice X1 r.ws.length z1)).setCell ⟨w.heap.size + 1, 1, none⟩ (Value.slice X2 r.hs.length z2)).setCell ⟨w.heap.size + 1, 2, none⟩ (Value.slice X3 r.ts.length z3)) hz0 HB.out hb4 hb5' hb6' k1 l1 q1 k2 l2 q2 k3 l3 q3
    (by simp [World.setCell]) (fun k hk _ => ((Below.heap_setCell _ _ _ _ (by simp; omega)).trans ((Below.heap_setCell _ _ _ _ (by simp; omega)).trans (Below.heap_setCell _ _ _ _ (by simp; omega)))))
    ((((HB.out.trans (hb6.mono (by omega))).setCell (by simp) _).setCell (by simp) _).setCell (by simp) _)
  have HFN := Lib.hid hfin
  clear hfin q1 q2 q3 p1 p2 p3 l1 l2 l3 k1 k2 k3 hb4 hb5 hb6 hb4' hb5' hb6' HC1 HC2 HC3 hS0 HK
  go_wp2_with fail
  exact bodyPost_ret (v := .agg #[.slice X1 r.ws.length z1, .slice X2 r.hs.length z2, .slice X3 r.ts.length z3]) (by simp [results, Try.results29, go_sem, s0, s1, s2, hz6]) rfl HFN.out
end Go.Proofs.Ytlfeoofchebbkaa
