/- Driven: the true sizes behind the driving of all quoins. -/
import Derived.Test.YtlfeoofchebbkaaDrp
import Derived.Deep.DeepCutAuto
namespace Go.Proofs.Ytlfeoofchebbkaa
set_option linter.unusedSimpArgs false
set_option linter.unusedVariables false
open Go.RowKit
theorem boxes3 (w : World) (f : Forme) (v u1 u2 u3 n1 n2 n3 : Value) :
    Below w.heap.size w (((w.alloc (.cells #[.int .i64 f.W, .int .i64 f.H, v] 37)).alloc (.cells #[u1, u2, u3] 39)).alloc (.cells #[n1, n2, n3] 39)) ∧
    Blk (((w.alloc (.cells #[.int .i64 f.W, .int .i64 f.H, v] 37)).alloc (.cells #[u1, u2, u3] 39)).alloc (.cells #[n1, n2, n3] 39)) w.heap.size 37 #[.int .i64 f.W, .int .i64 f.H, v] ∧
    Blk (((w.alloc (.cells #[.int .i64 f.W, .int .i64 f.H, v] 37)).alloc (.cells #[u1, u2, u3] 39)).alloc (.cells #[n1, n2, n3] 39)) (w.heap.size + 1) 39 #[u1, u2, u3] ∧
    Blk (((w.alloc (.cells #[.int .i64 f.W, .int .i64 f.H, v] 37)).alloc (.cells #[u1, u2, u3] 39)).alloc (.cells #[n1, n2, n3] 39)) (w.heap.size + 1 + 1) 39 #[n1, n2, n3] ∧
    (((w.alloc (.cells #[.int .i64 f.W, .int .i64 f.H, v] 37)).alloc (.cells #[u1, u2, u3] 39)).alloc (.cells #[n1, n2, n3] 39)).heap.size = w.heap.size + 1 + 1 + 1 := by
  refine ⟨((below_new _ _).alloc (by simp) _).alloc (by simp; omega) _, (Below.heap_alloc _ _ _ (by simp; omega)).trans ((Below.heap_alloc _ _ _ (by simp)).trans (Blk.new w 37 _)), ?_, ?_, by simp⟩
  · have := Blk.new (w.alloc (.cells #[.int .i64 f.W, .int .i64 f.H, v] 37)) 39 #[u1, u2, u3]
    rw [World.size_alloc] at this
    exact (Below.heap_alloc _ _ _ (by simp)).trans this
  · have := Blk.new ((w.alloc (.cells #[.int .i64 f.W, .int .i64 f.H, v] 37)).alloc (.cells #[u1, u2, u3] 39)) 39 #[n1, n2, n3]
    rwa [World.size_alloc, World.size_alloc] at this
theorem ds_of {w w1 w6 W' : World} {f : Forme} {r : Real} {n : Nat} {A : Option Addr} {c sb y1 y2 y3 d1 d2 d3 : Nat} (hF : Blk w1 w.heap.size 37 #[.int .i64 f.W, .int .i64 f.H, .slice A n c]) (hO : Blk w1 (w.heap.size + 1 + 1) 39 #[.slice none 0 0, .slice none 0 0, .slice none 0 0])
    (hB : Below w.heap.size w w1) (h6 : Below w1.heap.size w1 w6) (r1 : rowG w6 y1 n (fun j => .int .i64 (gz r.ws j))) (r2 : rowG w6 y2 n (fun j => .int .i64 (gz r.hs j))) (r3 : rowG w6 y3 n (fun j => .int .i64 (gz r.ts j)))
    (ne12 : y1 ≠ y2) (ne13 : y1 ≠ y3) (ne23 : y2 ≠ y3) (sn1 : y1 ≠ sb) (sn2 : y2 ≠ sb) (sn3 : y3 ≠ sb) (g1 : w1.heap.size ≤ y1) (g2 : w1.heap.size ≤ y2) (g3 : w1.heap.size ≤ y3) (sg : w1.heap.size ≤ sb)
    (hS : Blk W' sb 39 #[.slice (some ⟨y1, 0, none⟩) n d1, .slice (some ⟨y2, 0, none⟩) n d2, .slice (some ⟨y3, 0, none⟩) n d3]) (hbk : ∀ j, j < w6.heap.size → j ≠ sb → W'.heap[j]? = w6.heap[j]?) (hBW : Below w.heap.size w W') :
    DS w W' f r n A c w.heap.size (w.heap.size + 1 + 1) sb y1 y2 y3 d1 d2 d3 := by
  have hF6 := hF.below h6 hF.lt
  have hO6 := hO.below h6 hO.lt
  have l1 := hF.lt
  have l2 := hO.lt
  have hsz := hB.size
  exact ⟨hBW, (hbk _ hF6.lt (by omega)).trans hF6, (hbk _ hO6.lt (by omega)).trans hO6, hS, r1.of_block (hbk _ r1.lt sn1), r2.of_block (hbk _ r2.lt sn2), r3.of_block (hbk _ r3.lt sn3),
    ⟨by omega, by omega, sn1, by omega⟩, ⟨by omega, by omega, sn2, by omega⟩, ⟨by omega, by omega, sn3, by omega⟩, ne12, ne13, ne23⟩
theorem ds_across {w W : World} {f : Forme} {r : Real} {n : Nat} {A : Option Addr} {b off c bf rs sb y1 y2 y3 d1 d2 d3 : Nat} (h : DS w W f r n A c bf rs sb y1 y2 y3 d1 d2 d3) (hn : f.ps.length = n) (hf : f.Right) (ho : Okf f r) (hA : Lies A f.ps.length w.heap.size b off) (hps : PsAt w b off f.ps) :
    Calls Try.prog 85 #[.agg #[.int .i64 f.W, .int .i64 f.H, .slice A n c], .agg #[.slice (some ⟨y1, 0, none⟩) n d1, .slice (some ⟨y2, 0, none⟩) n d2, .slice (some ⟨y3, 0, none⟩) n d3]] W (DirPost' W (across f r.ws) y1 0) := by
  have l1 := ho.fit.ws.len
  have l2 := ho.fit.hs.len
  have l3 := ho.fit.ts
  have := across_dir' f r A (some ⟨y1, 0, none⟩) (some ⟨y2, 0, none⟩) (some ⟨y3, 0, none⟩) b off y1 0 y2 0 y3 0 c d1 d2 d3 W ⟨hA.mono h.B.size, fun j hj => (hps j hj).below h.B (hA (by omega)).2, h.rat (by omega) (by omega) (by omega)⟩ hf l1
  rw [l1, l2, l3, hn] at this
  exact this
theorem ds_down {w W : World} {f : Forme} {r : Real} {n : Nat} {A : Option Addr} {b off c bf rs sb y1 y2 y3 d1 d2 d3 : Nat} (h : DS w W f r n A c bf rs sb y1 y2 y3 d1 d2 d3) (hn : f.ps.length = n) (hf : f.Right) (ho : Okf f r) (hA : Lies A f.ps.length w.heap.size b off) (hps : PsAt w b off f.ps) :
    Calls Try.prog 87 #[.agg #[.int .i64 f.W, .int .i64 f.H, .slice A n c], .agg #[.slice (some ⟨y1, 0, none⟩) n d1, .slice (some ⟨y2, 0, none⟩) n d2, .slice (some ⟨y3, 0, none⟩) n d3]] W (DirPost' W (down f r.hs) y2 0) := by
  have l1 := ho.fit.ws.len
  have l2 := ho.fit.hs.len
  have l3 := ho.fit.ts
  have := down_dir' f r A (some ⟨y1, 0, none⟩) (some ⟨y2, 0, none⟩) (some ⟨y3, 0, none⟩) b off y1 0 y2 0 y3 0 c d1 d2 d3 W ⟨hA.mono h.B.size, fun j hj => (hps j hj).below h.B (hA (by omega)).2, h.rat (by omega) (by omega) (by omega)⟩ hf l2
  rw [l1, l2, l3, hn] at this
  exact this
def RealNew (B : Nat) (W : World) (r : Real) (v : Value) : Prop := ∃ A1 A2 A3 c1 c2 c3 b1 b2 b3, v = .agg #[.slice A1 r.ws.length c1, .slice A2 r.hs.length c2, .slice A3 r.ts.length c3] ∧ RAt W W.heap.size r A1 A2 A3 b1 0 b2 0 b3 0 ∧ r.ws.length ≤ c1 ∧ r.hs.length ≤ c2 ∧ r.ts.length ≤ c3 ∧ B ≤ b1 ∧ B ≤ b2 ∧ B ≤ b3
def DrvNo (s : Int) (w : World) (e : Ending) (w' : World) : Prop := e = .returned (.tuple #[.agg #[.slice none 0 0, .slice none 0 0, .slice none 0 0], .int .i64 s]) ∧ Below w.heap.size w w'
def DrvYes (r : Real) (w : World) (e : Ending) (w' : World) : Prop := ∃ v, e = .returned (.tuple #[v, .int .i64 0]) ∧ RealNew w.heap.size w' r v ∧ Below w.heap.size w w'
set_option maxRecDepth 100000 in
set_option maxHeartbeats 4000000 in
theorem driven_no (f : Forme) (r : Real) (A A1 A2 A3 : Option Addr) (b off b1 o1 b2 o2 b3 o3 c c1 c2 c3 : Nat) (w : World) (h : FR w w.heap.size f r A A1 A2 A3 b off b1 o1 b2 o2 b3 o3) (hnm : NameOk f.ps) (hc : f.ps.length ≤ c) (hm : f.ps.length ≤ 1000) (hc1 : r.ws.length ≤ c1) (hc2 : r.hs.length ≤ c2) (hc3 : r.ts.length ≤ c3) (hs : (checkR f r).2 ≠ 0) :
    Calls Try.prog 46 #[.agg #[.int .i64 f.W, .int .i64 f.H, .slice A f.ps.length c], .agg #[.slice A1 r.ws.length c1, .slice A2 r.hs.length c2, .slice A3 r.ts.length c3]] w (DrvNo (checkR f r).2 w) := by
  obtain ⟨B0, F0, T0, O0, Z0⟩ := boxes3 w f (.slice A f.ps.length c) (.slice A1 r.ws.length c1) (.slice A2 r.hs.length c2) (.slice A3 r.ts.length c3) (.slice none 0 0) (.slice none 0 0) (.slice none 0 0)
  have hFR := (h.below B0).mono B0.size
  have HN := Lib.hid hnm
  clear hnm
  go_enter Try.func46, Try.ntmps46
  go_wp2_with fail
  generalize ((w.alloc (.cells #[.int .i64 f.W, .int .i64 f.H, .slice A f.ps.length c] 37)).alloc (.cells #[.slice A1 r.ws.length c1, .slice A2 r.hs.length c2, .slice A3 r.ts.length c3] 39)).alloc (.cells #[.slice none 0 0, .slice none 0 0, .slice none 0 0] 39) = W0 at *
  have hcall := checkReal_any f r A A1 A2 A3 b off b1 o1 b2 o2 b3 o3 c c1 c2 c3 W0 hFR HN.out hc (by omega) hc1 hc2 hc3
  have hsb := bne_t hs
  generalize checkR f r = cr at *
  have HS := Lib.hid hs
  clear hs h hFR
  refine hcall.mono ?_
  rintro e w1 ⟨rfl, b1⟩
  have hO1 := O0.below b1 O0.lt
  have s0 : w1.cell? ⟨w.heap.size + 1 + 1, 0, none⟩ = some (.slice none 0 0) := hO1.cell 0
  have s1 : w1.cell? ⟨w.heap.size + 1 + 1, 1, none⟩ = some (.slice none 0 0) := hO1.cell 1
  have s2 : w1.cell? ⟨w.heap.size + 1 + 1, 2, none⟩ = some (.slice none 0 0) := hO1.cell 2
  have t0 := hO1.frozen 0
  have t1 := hO1.frozen 1
  have t2 := hO1.frozen 2
  have hz := hO1.lt
  have HB := Lib.hid (B0.trans (b1.mono B0.size))
  clear hcall hO1 b1 B0 F0 T0 O0 Z0
  go_wp2_with fail
  exact bodyPost_ret (v := .tuple #[.agg #[.slice none 0 0, .slice none 0 0, .slice none 0 0], .int .i64 cr.2]) (by simp [results, Try.results46, go_sem, s0, s1, s2, hz]) rfl ⟨rfl, (((HB.out.setCell (by simp; omega) _).setCell (by simp; omega) _).setCell (by simp; omega) _)⟩
set_option maxRecDepth 100000 in
set_option maxHeartbeats 8000000 in
theorem driven_yes (f : Forme) (r : Real) (A A1 A2 A3 : Option Addr) (b off b1 o1 b2 o2 b3 o3 c c1 c2 c3 : Nat) (w : World) (h : FR w w.heap.size f r A A1 A2 A3 b off b1 o1 b2 o2 b3 o3) (hnm : NameOk f.ps) (hc : f.ps.length ≤ c) (hm : f.ps.length ≤ 1000) (hc1 : r.ws.length ≤ c1) (hc2 : r.hs.length ≤ c2) (hc3 : r.ts.length ≤ c3) (hs : (checkR f r).2 = 0) :
    Calls Try.prog 46 #[.agg #[.int .i64 f.W, .int .i64 f.H, .slice A f.ps.length c], .agg #[.slice A1 r.ws.length c1, .slice A2 r.hs.length c2, .slice A3 r.ts.length c3]] w (DrvYes (r.driven f f.ps.length) w) := by
  obtain ⟨B0, F0, T0, O0, Z0⟩ := boxes3 w f (.slice A f.ps.length c) (.slice A1 r.ws.length c1) (.slice A2 r.hs.length c2) (.slice A3 r.ts.length c3) (.slice none 0 0) (.slice none 0 0) (.slice none 0 0)
  have hFR := (h.below B0).mono B0.size
  have HN := Lib.hid hnm
  clear hnm
  go_enter Try.func46, Try.ntmps46
  go_wp2_with fail
  generalize ((w.alloc (.cells #[.int .i64 f.W, .int .i64 f.H, .slice A f.ps.length c] 37)).alloc (.cells #[.slice A1 r.ws.length c1, .slice A2 r.hs.length c2, .slice A3 r.ts.length c3] 39)).alloc (.cells #[.slice none 0 0, .slice none 0 0, .slice none 0 0] 39) = W0 at *
  have hcall := checkReal_any f r A A1 A2 A3 b off b1 o1 b2 o2 b3 o3 c c1 c2 c3 W0 hFR HN.out hc (by omega) hc1 hc2 hc3
  obtain ⟨hok, -, -⟩ := checkR_zero hs
  have hokf := okf_of hs
  rw [hs] at hcall
  generalize (checkR f r).1 = cr1 at *
  have HOK := Lib.hid hok
  have HKF := Lib.hid hokf
  have hn0 : 0 < f.ps.length := by have := (across_full hok.w hok.ws).some; have h2 : (across f r.ws).n = f.ps.length := hok.ws.len; omega
  have HH := Lib.hid h
  clear hs h hFR hok hokf
  refine hcall.mono ?_
  rintro e w1 ⟨rfl, e1⟩
  have HF1 := Lib.hid (F0.below e1 F0.lt)
  have HT1 := Lib.hid (T0.below e1 T0.lt)
  have HO1 := Lib.hid (O0.below e1 O0.lt)
  have HB1 := Lib.hid (B0.trans (e1.mono B0.size))
  have hz1 : w.heap.size + 1 + 1 < w1.heap.size := HO1.out.lt
  have hFR := (HH.out.below HB1.out).mono HB1.out.size
  obtain ⟨rfl, hb1l⟩ := hFR.rr.l1 (by rw [HOK.out.ws.len]; exact hn0)
  obtain ⟨rfl, hb2l⟩ := hFR.rr.l2 (by rw [HOK.out.hs.len]; exact hn0)
  obtain ⟨rfl, hb3l⟩ := hFR.rr.l3 (by rw [HOK.out.ts]; exact hn0)
  have hfew := HOK.out.right.few
  have hwl : r.ws.length ≤ 1000000 := by rw [HOK.out.ws.len]; omega
  have hhl : r.hs.length ≤ 1000000 := by rw [HOK.out.hs.len]; omega
  have htl : r.ts.length ≤ 1000000 := by rw [HOK.out.ts]; omega
  have HC1 : Hid (∀ W, Below w1.heap.size w1 W → Calls Try.prog 108 #[.slice (some ⟨b1, o1, none⟩) r.ws.length c1] W (CopyPost W r.ws)) := (show ∀ W, _ from fun W hW => clone_any r.ws _ b1 o1 c1 W (hFR.rr.l1.mono hW.size) (ZsAt.mono' hFR.rr.l1 hFR.rr.z1 hW) hwl)
  have HC2 : Hid (∀ W, Below w1.heap.size w1 W → Calls Try.prog 108 #[.slice (some ⟨b2, o2, none⟩) r.hs.length c2] W (CopyPost W r.hs)) := (show ∀ W, _ from fun W hW => clone_any r.hs _ b2 o2 c2 W (hFR.rr.l2.mono hW.size) (ZsAt.mono' hFR.rr.l2 hFR.rr.z2 hW) hhl)
  have HC3 : Hid (∀ W, Below w1.heap.size w1 W → Calls Try.prog 108 #[.slice (some ⟨b3, o3, none⟩) r.ts.length c3] W (CopyPost W r.ts)) := (show ∀ W, _ from fun W hW => clone_any r.ts _ b3 o3 c3 W (hFR.rr.l3.mono hW.size) (ZsAt.mono' hFR.rr.l3 hFR.rr.z3 hW) htl)
  have HK : Hid (∀ W, Below w1.heap.size w1 W → (W.cell? ⟨w.heap.size + 1, 0, none⟩ = some (.slice (some ⟨b1, o1, none⟩) r.ws.length c1) ∧ W.cell? ⟨w.heap.size + 1, 1, none⟩ = some (.slice (some ⟨b2, o2, none⟩) r.hs.length c2) ∧ W.cell? ⟨w.heap.size + 1, 2, none⟩ = some (.slice (some ⟨b3, o3, none⟩) r.ts.length c3))) := (show ∀ W, _ from fun W hW => by
    have hx := HT1.out.below hW HT1.out.lt
    exact ⟨hx.cell 0, hx.cell 1, hx.cell 2⟩)
  have HN1 := Lib.hid HOK.out.ws.len
  have HN2 := Lib.hid HOK.out.hs.len
  have HN3 := Lib.hid HOK.out.ts
  have HW1 := Lib.hid (Below.refl w1.heap.size w1)
  have h0 : Below w1.heap.size w1 w1.drew := (Below.refl _ _).drew
  have H0 := Lib.hid h0
  have hS0 := HK.out w1.drew h0
  clear hcall B0 F0 T0 O0 Z0 hFR h0 e1
  rw [HN1.out, HN2.out, HN3.out]
  rw [HN1.out] at HC1
  rw [HN2.out] at HC2
  rw [HN3.out] at HC3
  rw [HN1.out, HN2.out, HN3.out] at HK hS0 HT1
  go_upto_region 4 with (fail)
  go_cut [8] (fun s8 wx => ∃ (sb y1 y2 y3 z1 z2 z3 : Nat), s8 = .pointer (some ⟨sb, 0, none⟩) ∧ f.ps.length ≤ z1 ∧ f.ps.length ≤ z2 ∧ f.ps.length ≤ z3 ∧ Hid (DS w wx f r f.ps.length A c w.heap.size (w.heap.size + 1 + 1) sb y1 y2 y3 z1 z2 z3))
  case first =>
    go_region_held3 (fun W => (W.cell? ⟨w.heap.size + 1, 0, none⟩ = some (.slice (some ⟨b1, o1, none⟩) f.ps.length c1) ∧ W.cell? ⟨w.heap.size + 1, 1, none⟩ = some (.slice (some ⟨b2, o2, none⟩) f.ps.length c2) ∧ W.cell? ⟨w.heap.size + 1, 2, none⟩ = some (.slice (some ⟨b3, o3, none⟩) f.ps.length c3)))
      (first
        | exact hS0
        | exact HK.out _ hb6
        | exact HK.out _ (hb6.alloc hb6.size _)
        | exact HK.out _ (hb5.alloc hb5.size _)
        | exact HK.out _ (hb4.alloc hb4.size _)
        | exact HK.out _ ((below_new w1 _).drew)
        | exact HKS.out _ _ _
        | (go_split_ands; exact HKS.out _ _ _)
        | (go_split_ands; obtain ⟨e0, e1, e2⟩ := HKS.out (Value.slice (some ⟨y1, 0, none⟩) r.ws.length z1) (Value.slice (some ⟨y2, 0, none⟩) r.hs.length z2) (Value.slice (some ⟨y3, 0, none⟩) r.ts.length z3); exact ⟨e0, e1, e2⟩)
        | exact HK.out _ hb5
        | exact HK.out _ hb4
        | go_keep)
      (first
        | (go_at_call 108; (with_reducible refine (HC1.out w1.drew H0.out).mono ?_); rintro e w4 ⟨v1, rfl, ⟨X1, y1, z1, rfl, k1, l1, p1, q1⟩, hb4'⟩; have hb4 : Below w1.heap.size w1 w4 := H0.out.trans (hb4'.mono H0.out.size); obtain ⟨g1, r1⟩ := q1 (by rw [HN1.out]; exact hn0); obtain ⟨rfl, -⟩ := l1 (by rw [HN1.out]; exact hn0); have g1 : w1.heap.size ≤ y1 := (by simpa using g1); have lt1 := r1.lt; have sz1 : w1.heap.size ≤ w4.heap.size := (by have := hb4'.size; simpa using this); (first | (have sbk := sbk.below hb4' (by have := HSBQ.out; omega); have sn1 : y1 ≠ sb := by have := HSBQ.out; omega) | skip))
        | (go_at_call 108; (with_reducible refine (HC1.out (w1.alloc (Obj.cells #[Value.slice none 0 0, Value.slice none 0 0, Value.slice none 0 0] 39)).drew ((below_new w1 (Obj.cells #[Value.slice none 0 0, Value.slice none 0 0, Value.slice none 0 0] 39)).drew)).mono ?_); rintro e w4 ⟨v1, rfl, ⟨X1, y1, z1, rfl, k1, l1, p1, q1⟩, hb4'⟩; have hb4 : Below w1.heap.size w1 w4 := ((below_new w1 (Obj.cells #[Value.slice none 0 0, Value.slice none 0 0, Value.slice none 0 0] 39)).drew).trans (hb4'.mono ((below_new w1 (Obj.cells #[Value.slice none 0 0, Value.slice none 0 0, Value.slice none 0 0] 39)).drew).size); obtain ⟨g1, r1⟩ := q1 (by rw [HN1.out]; exact hn0); obtain ⟨rfl, -⟩ := l1 (by rw [HN1.out]; exact hn0); have g1 : w1.heap.size + 1 ≤ y1 := (by simpa using g1); have lt1 := r1.lt; have sz1 : w1.heap.size + 1 ≤ w4.heap.size := (by have := hb4'.size; simpa using this); have sbk : Blk w4 w1.heap.size 39 #[Value.slice none 0 0, Value.slice none 0 0, Value.slice none 0 0] := (hb4'.block _ (by simp [World.drew])).trans (Blk.new w1 39 _); have sn1 : y1 ≠ w1.heap.size := (by omega); generalize hsbq : w1.heap.size = sb at sbk sn1; have HSBQ := Lib.hid hsbq; clear hsbq; have sg : w1.heap.size ≤ sb := (by have := HSBQ.out; omega))
        | (go_at_call 108; (with_reducible refine (HC2.out w4 hb4).mono ?_); rintro e w5 ⟨v2, rfl, ⟨X2, y2, z2, rfl, k2, l2, p2, q2⟩, hb5'⟩; have hb5 : Below w1.heap.size w1 w5 := hb4.trans (hb5'.mono hb4.size); obtain ⟨g2, r2⟩ := q2 (by rw [HN2.out]; exact hn0); obtain ⟨rfl, -⟩ := l2 (by rw [HN2.out]; exact hn0); have g2 : w4.heap.size ≤ y2 := (by simpa using g2); have lt2 := r2.lt; have sz2 : w4.heap.size ≤ w5.heap.size := (by have := hb5'.size; simpa using this); have r1 := r1.of_block (hb5'.block y1 (by omega)); have ne12 : y1 ≠ y2 := (by omega); (first | (have sbk := sbk.below hb5' (by have := HSBQ.out; omega); have sn2 : y2 ≠ sb := by have := HSBQ.out; omega) | skip))
        | (go_at_call 108; (with_reducible refine (HC2.out (w4.alloc (Obj.cells #[Value.slice none 0 0, Value.slice none 0 0, Value.slice none 0 0] 39)) (hb4.alloc hb4.size (Obj.cells #[Value.slice none 0 0, Value.slice none 0 0, Value.slice none 0 0] 39))).mono ?_); rintro e w5 ⟨v2, rfl, ⟨X2, y2, z2, rfl, k2, l2, p2, q2⟩, hb5'⟩; have hb5 : Below w1.heap.size w1 w5 := (hb4.alloc hb4.size (Obj.cells #[Value.slice none 0 0, Value.slice none 0 0, Value.slice none 0 0] 39)).trans (hb5'.mono (hb4.alloc hb4.size (Obj.cells #[Value.slice none 0 0, Value.slice none 0 0, Value.slice none 0 0] 39)).size); obtain ⟨g2, r2⟩ := q2 (by rw [HN2.out]; exact hn0); obtain ⟨rfl, -⟩ := l2 (by rw [HN2.out]; exact hn0); have g2 : w4.heap.size + 1 ≤ y2 := (by simpa using g2); have lt2 := r2.lt; have sz2 : w4.heap.size + 1 ≤ w5.heap.size := (by have := hb5'.size; simpa using this); have r1 := r1.of_block ((hb5'.block y1 (by simp; omega)).trans (Below.heap_alloc w4 _ y1 (by omega))); have ne12 : y1 ≠ y2 := (by omega); have sbk : Blk w5 w4.heap.size 39 #[Value.slice none 0 0, Value.slice none 0 0, Value.slice none 0 0] := (hb5'.block _ (by simp)).trans (Blk.new w4 39 _); have sn1 : y1 ≠ w4.heap.size := (by omega); have sn2 : y2 ≠ w4.heap.size := (by omega); generalize hsbq : w4.heap.size = sb at sbk sn1 sn2; have HSBQ := Lib.hid hsbq; clear hsbq; have sg : w1.heap.size ≤ sb := (by have := HSBQ.out; omega))
        | (go_at_call 108; (with_reducible refine (HC3.out w5 hb5).mono ?_); rintro e w6 ⟨v3, rfl, ⟨X3, y3, z3, rfl, k3, l3, p3, q3⟩, hb6'⟩; have hb6 : Below w1.heap.size w1 w6 := hb5.trans (hb6'.mono hb5.size); obtain ⟨g3, r3⟩ := q3 (by rw [HN3.out]; exact hn0); obtain ⟨rfl, -⟩ := l3 (by rw [HN3.out]; exact hn0); have g3 : w5.heap.size ≤ y3 := (by simpa using g3); have lt3 := r3.lt; have sz3 : w5.heap.size ≤ w6.heap.size := (by have := hb6'.size; simpa using this); have r1 := r1.of_block (hb6'.block y1 (by omega)); have ne13 : y1 ≠ y3 := (by omega); have r2 := r2.of_block (hb6'.block y2 (by omega)); have ne23 : y2 ≠ y3 := (by omega); (first | (have sbk := sbk.below hb6' (by have := HSBQ.out; omega); have sn3 : y3 ≠ sb := by have := HSBQ.out; omega) | skip); (first | (have hu0 : w6.cell? ⟨sb, 0, none⟩ = some (Value.slice none 0 0) := sbk.cell 0; have hu1 : w6.cell? ⟨sb, 1, none⟩ = some (Value.slice none 0 0) := sbk.cell 1; have hu2 : w6.cell? ⟨sb, 2, none⟩ = some (Value.slice none 0 0) := sbk.cell 2; have hf0 := sbk.frozen 0; have hf1 := sbk.frozen 1; have hf2 := sbk.frozen 2; have hsl := sbk.lt; have HKS := Lib.hid (fun (a b c : Value) => HK.out (((w6.setCell ⟨sb, 0, none⟩ a).setCell ⟨sb, 1, none⟩ b).setCell ⟨sb, 2, none⟩ c) (((hb6.setCell (p := ⟨sb, 0, none⟩) sg a).setCell (p := ⟨sb, 1, none⟩) sg b).setCell (p := ⟨sb, 2, none⟩) sg c))) | skip))
        | (go_at_call 108; (with_reducible refine (HC3.out (w5.alloc (Obj.cells #[Value.slice none 0 0, Value.slice none 0 0, Value.slice none 0 0] 39)) (hb5.alloc hb5.size (Obj.cells #[Value.slice none 0 0, Value.slice none 0 0, Value.slice none 0 0] 39))).mono ?_); rintro e w6 ⟨v3, rfl, ⟨X3, y3, z3, rfl, k3, l3, p3, q3⟩, hb6'⟩; have hb6 : Below w1.heap.size w1 w6 := (hb5.alloc hb5.size (Obj.cells #[Value.slice none 0 0, Value.slice none 0 0, Value.slice none 0 0] 39)).trans (hb6'.mono (hb5.alloc hb5.size (Obj.cells #[Value.slice none 0 0, Value.slice none 0 0, Value.slice none 0 0] 39)).size); obtain ⟨g3, r3⟩ := q3 (by rw [HN3.out]; exact hn0); obtain ⟨rfl, -⟩ := l3 (by rw [HN3.out]; exact hn0); have g3 : w5.heap.size + 1 ≤ y3 := (by simpa using g3); have lt3 := r3.lt; have sz3 : w5.heap.size + 1 ≤ w6.heap.size := (by have := hb6'.size; simpa using this); have r1 := r1.of_block ((hb6'.block y1 (by simp; omega)).trans (Below.heap_alloc w5 _ y1 (by omega))); have ne13 : y1 ≠ y3 := (by omega); have r2 := r2.of_block ((hb6'.block y2 (by simp; omega)).trans (Below.heap_alloc w5 _ y2 (by omega))); have ne23 : y2 ≠ y3 := (by omega); have sbk : Blk w6 w5.heap.size 39 #[Value.slice none 0 0, Value.slice none 0 0, Value.slice none 0 0] := (hb6'.block _ (by simp)).trans (Blk.new w5 39 _); have sn1 : y1 ≠ w5.heap.size := (by omega); have sn2 : y2 ≠ w5.heap.size := (by omega); have sn3 : y3 ≠ w5.heap.size := (by omega); generalize hsbq : w5.heap.size = sb at sbk sn1 sn2 sn3; have HSBQ := Lib.hid hsbq; clear hsbq; have sg : w1.heap.size ≤ sb := (by have := HSBQ.out; omega); (first | (have hu0 : w6.cell? ⟨sb, 0, none⟩ = some (Value.slice none 0 0) := sbk.cell 0; have hu1 : w6.cell? ⟨sb, 1, none⟩ = some (Value.slice none 0 0) := sbk.cell 1; have hu2 : w6.cell? ⟨sb, 2, none⟩ = some (Value.slice none 0 0) := sbk.cell 2; have hf0 := sbk.frozen 0; have hf1 := sbk.frozen 1; have hf2 := sbk.frozen 2; have hsl := sbk.lt; have HKS := Lib.hid (fun (a b c : Value) => HK.out (((w6.setCell ⟨sb, 0, none⟩ a).setCell ⟨sb, 1, none⟩ b).setCell ⟨sb, 2, none⟩ c) (((hb6.setCell (p := ⟨sb, 0, none⟩) sg a).setCell (p := ⟨sb, 1, none⟩) sg b).setCell (p := ⟨sb, 2, none⟩) sg c))) | skip)))
    all_goals
      rw [HN1.out, HN2.out, HN3.out]
      rw [HN1.out] at r1
      rw [HN2.out] at r2
      rw [HN3.out] at r3
    all_goals first
      | (have hDS : DS w (((w6.setCell ⟨sb, 0, none⟩ (.slice (some ⟨y1, 0, none⟩) f.ps.length z1)).setCell ⟨sb, 1, none⟩ (.slice (some ⟨y2, 0, none⟩) f.ps.length z2)).setCell ⟨sb, 2, none⟩ (.slice (some ⟨y3, 0, none⟩) f.ps.length z3)) f r f.ps.length A c w.heap.size (w.heap.size + 1 + 1) sb y1 y2 y3 z1 z2 z3 := ds_of HF1.out HO1.out HB1.out hb6 r1 r2 r3 ne12 ne13 ne23 sn1 sn2 sn3 (by omega) (by omega) (by omega) sg (((sbk.set_ 0 _).set_ 1 _).set_ 2 _)
            (fun j _ hj => (Below.heap_setCell _ _ _ _ hj).trans ((Below.heap_setCell _ _ _ _ hj).trans (Below.heap_setCell _ _ _ _ hj)))
            ((((HB1.out.trans (hb6.mono HB1.out.size)).setCell (p := ⟨sb, 0, none⟩) (by have := HB1.out.size; show _ ≤ sb; omega) _).setCell (p := ⟨sb, 1, none⟩) (by have := HB1.out.size; show _ ≤ sb; omega) _).setCell (p := ⟨sb, 2, none⟩) (by have := HB1.out.size; show _ ≤ sb; omega) _)
         generalize (((w6.setCell ⟨sb, 0, none⟩ (.slice (some ⟨y1, 0, none⟩) f.ps.length z1)).setCell ⟨sb, 1, none⟩ (.slice (some ⟨y2, 0, none⟩) f.ps.length z2)).setCell ⟨sb, 2, none⟩ (.slice (some ⟨y3, 0, none⟩) f.ps.length z3)) = W7 at *
         have HDS0 := Lib.hid hDS
         clear hDS HSBQ sbk hu0 hu1 hu2 hf0 hf1 hf2 hsl HKS sn1 sn2 sn3 sg)
      | (have hDS : DS w (w6.alloc (Obj.cells #[Value.slice (some ⟨y1, 0, none⟩) f.ps.length z1, Value.slice (some ⟨y2, 0, none⟩) f.ps.length z2, Value.slice (some ⟨y3, 0, none⟩) f.ps.length z3] 39)) f r f.ps.length A c w.heap.size (w.heap.size + 1 + 1) w6.heap.size y1 y2 y3 z1 z2 z3 := ds_of HF1.out HO1.out HB1.out hb6 r1 r2 r3 ne12 ne13 ne23 (by omega) (by omega) (by omega) (by omega) (by omega) (by omega) hb6.size (Blk.new w6 39 _)
            (fun j hj _ => Below.heap_alloc _ _ _ hj) ((HB1.out.trans (hb6.mono HB1.out.size)).alloc (by have := HB1.out.size; have := hb6.size; omega) _)
         generalize (w6.alloc (Obj.cells #[Value.slice (some ⟨y1, 0, none⟩) f.ps.length z1, Value.slice (some ⟨y2, 0, none⟩) f.ps.length z2, Value.slice (some ⟨y3, 0, none⟩) f.ps.length z3] 39)) = W7 at *
         generalize w6.heap.size = sb at *
         have HDS0 := Lib.hid hDS
         clear hDS)
    all_goals (go_wp2_with fail; go_meet; exact ⟨sb, y1, y2, y3, z1, z2, z3, rfl, by rw [← HN1.out]; exact k1, by rw [← HN2.out]; exact k2, by rw [← HN3.out]; exact k3, HDS0.out⟩)
  case rest =>
    obtain ⟨sb, y1, y2, y3, z1, z2, z3, rfl, k1, k2, k3, HDS0⟩ := hcut
    clear HT1 HC1 HC2 HC3 HK HW1 H0 hS0
    have f2 := HDS0.out.F.cell 2
    simp only [Array.getElem?_eq_getElem, List.getElem_toArray, List.getElem_cons_zero, List.getElem_cons_succ, List.size_toArray, List.length_cons, List.length_nil, Nat.reduceAdd, Nat.reduceLT] at f2
    have w1' := HOK.out.right.w1
    have w2' := HOK.out.right.w2
    have w3' := HOK.out.right.h1
    have w4' := HOK.out.right.h2
    go_wp2_with fail
    go_loopg [9, 10, 11, 12, 36] f.ps.length (fun gg _ _ _ _ s36 wr => ∃ k : Nat, k ≤ f.ps.length ∧ f.ps.length - k ≤ gg ∧ s36 = .int .i64 k ∧ Hid (DS w wr f (r.driven f k) f.ps.length A c w.heap.size (w.heap.size + 1 + 1) sb y1 y2 y3 z1 z2 z3))
    case atStart => exact ⟨0, Nat.zero_le _, by omega, rfl, HDS0.out⟩
    case round =>
      obtain ⟨k, hk, hgk, rfl, HD⟩ := hrel
      clear f2
      by_cases hlt : k < f.ps.length
      · have hltz : (k : Int) < (f.ps.length : Int) := by omega
        have hk0 : (0 : Int) ≤ (k : Int) := by omega
        have hokk := HKF.out.driven HOK.out.right.toLaid k (by omega)
        have HDRV : Hid (r.driven f (k + 1) = (r.driven f k).drive f k) := rfl
        obtain ⟨m1, m2, m3, m4, m5, m6, m7, m8, m9, m10⟩ := hokk.nums HOK.out.right.toLaid hlt
        generalize r.driven f k = rk at *
        have HOKK := Lib.hid hokk
        obtain ⟨rfl, hbA⟩ := HH.out.la (by omega)
        obtain ⟨c0, c1', c2', c3', c4, c5⟩ := (HH.out.ps k hlt).below HD.out.B hbA
        have hkd : 1 ≤ (gp f.ps k).kind ∧ (gp f.ps k).kind ≤ 4 := by rw [gp_get hlt]; exact HOK.out.right.kind _ (List.getElem_mem hlt)
        have HQ3 : Hid ((gp f.ps k).kind = 3 → rk.drive f k = { rk with ws := rk.ws.set k (gz rk.ws k + byA f rk k), ts := rk.ts.set k (gz rk.ts k - byA f rk k) }) := fun h => drive_a h
        have HQ4 : Hid ((gp f.ps k).kind = 4 → rk.drive f k = { rk with hs := rk.hs.set k (gz rk.hs k + byD f rk k), ts := rk.ts.set k (gz rk.ts k - byD f rk k) }) := fun h => drive_d h
        have HQN : Hid ((gp f.ps k).kind ≠ 3 → (gp f.ps k).kind ≠ 4 → rk.drive f k = rk) := fun h3 h4 => drive_n h3 h4
        have hbr : b < wr.heap.size := by have := HD.out.B.size; omega
        clear hokk
        generalize gp f.ps k = p at *
        obtain ⟨kd1, kd2⟩ := hkd
        go_wp2_with fail
        refine (isQuoin_any p _).mono ?_
        rintro e w2 ⟨rfl, b2⟩
        have b2' := (below_new wr (Obj.cells (pcs p) 70)).trans (b2.mono (by simp))
        have HDS2 := Lib.hid (HD.out.below b2')
        have hpb : Blk w2 wr.heap.size 70 (pcs p) := (b2.block _ (by simp)).trans (Blk.new wr 70 _)
        have pk0 : w2.cell? ⟨wr.heap.size, 0, none⟩ = some (.string p.name) := hpb.cell 0
        have pk1 : w2.cell? ⟨wr.heap.size, 1, none⟩ = some (.int .i64 p.kind) := hpb.cell 1
        have hpl := hpb.lt
        have F0 : w2.cell? ⟨w.heap.size, 0, none⟩ = some (.int .i64 f.W) := HDS2.out.F.cell 0
        have F1 : w2.cell? ⟨w.heap.size, 1, none⟩ = some (.int .i64 f.H) := HDS2.out.F.cell 1
        have F2 : w2.cell? ⟨w.heap.size, 2, none⟩ = some (.slice (some ⟨b, off, none⟩) f.ps.length c) := HDS2.out.F.cell 2
        have S0 : w2.cell? ⟨sb, 0, none⟩ = some (.slice (some ⟨y1, 0, none⟩) f.ps.length z1) := HDS2.out.S.cell 0
        have S1 : w2.cell? ⟨sb, 1, none⟩ = some (.slice (some ⟨y2, 0, none⟩) f.ps.length z2) := HDS2.out.S.cell 1
        have S2 : w2.cell? ⟨sb, 2, none⟩ = some (.slice (some ⟨y3, 0, none⟩) f.ps.length z3) := HDS2.out.S.cell 2
        clear b2 b2' hpb c0 c1' c2' c3' c4 c5
        by_cases k3 : p.kind = 3
        · have hq : isQ p.kind = true := by unfold isQ; simp [k3]
          have hk4 : (p.kind == 4) = false := by simp [k3]
          have K3 := Lib.hid k3
          clear k3
          go_wp2_with fail
          refine (ds_across HDS2.out rfl HOK.out.right HOKK.out HH.out.la HH.out.ps).mono ?_
          rintro e w3 ⟨dg, Aa, Ab, Az, ca, cb, cz, ba, oa, bb, ob, rfl, hD, b3, hdg, hbab⟩
          have hDn : (across f rk.ws).n = f.ps.length := HOKK.out.fit.ws.len
          have hkD : k < (across f rk.ws).n := by omega
          have hkDz : (k : Int) < ((across f rk.ws).n : Int) := by omega
          have hwf := across_wf HOK.out.right.toLaid HOKK.out.fit.ws
          have hus := HOKK.out.uw HOK.out.right.toLaid
          have HRM : Hid (∀ W, Below w3.heap.size w3 W → Calls Try.prog 93 #[.pointer (some ⟨dg, 0, none⟩)] W fun e w' => e = .returned (.int .i64 (60 * f.W)) ∧ W = w') := (show ∀ W, _ from fun W hW => room_any (across f rk.ws) w3.heap.size dg Aa Ab Az ca cb cz ba oa bb ob y1 0 W (hD.keep fun b o hb => hW.cell (p := ⟨b, o, none⟩) hb) (by show 0 ≤ f.W; omega) (by show f.W ≤ 4000; omega))
          have HTH : Hid (∀ W, Below w3.heap.size w3 W → Calls Try.prog 92 #[.pointer (some ⟨dg, 0, none⟩)] W (ThrPost W (across f rk.ws))) := (show ∀ W, _ from fun W hW => through_any (across f rk.ws) hwf (by omega) (across_T HOK.out.right.toLaid hus) (fun i hi => Dir.T_small (Dir.mir_wf hwf) (fun i _ => sz_le hus.b (by omega) i) (by show 0 ≤ f.W; omega) (by show f.W ≤ 4000; omega) i hi) w3.heap.size dg Aa Ab Az ca cb cz ba oa bb ob y1 0 W (hD.keep fun b o hb => hW.cell (p := ⟨b, o, none⟩) hb) hW.size (by show 0 ≤ f.W; omega) (by show f.W ≤ 4000; omega))
          have hc2 := hD.c2
          obtain ⟨rfl, -⟩ := hD.lz (by omega)
          have hdgl := hD.gB
          have HDS3 := Lib.hid (HDS2.out.below b3)
          have HK3 : Hid (∀ W, Below w3.heap.size w3 W → (W.cell? ⟨sb, 2, none⟩ = some (.slice (some ⟨y3, 0, none⟩) f.ps.length z3) ∧ W.cell? ⟨y3, k, none⟩ = some (.int .i64 (gz rk.ts k)))) := (show ∀ W, _ from fun W hW => ⟨(HDS3.out.below hW).S.cell 2, (HDS3.out.below hW).r3.cell hlt⟩)
          have h0 : Below w3.heap.size w3 w3.drew := (Below.refl _ _).drew
          have H0 := Lib.hid h0
          have hS0 := HK3.out w3.drew h0
          have hkind : w3.cell? ⟨wr.heap.size, 1, none⟩ = some (.int .i64 p.kind) := (b3.cell (p := ⟨wr.heap.size, 1, none⟩) (by show wr.heap.size < _; omega)).trans pk1
          have HDNN := Lib.hid hDn
          clear hD h0 b3 hwf hus hDn S0 S1 S2 F0 F1 F2 pk1 hdg hbab
          by_cases hle : gz rk.ts k ≤ 60 * f.W - (across f rk.ws).thr k
          · have HBY : Hid (byA f rk k = gz rk.ts k) := by show min _ _ = _; omega
            have e1 : IntKind.i64.wrap (60 * f.W - (across f rk.ws).thr k) = 60 * f.W - (across f rk.ws).thr k := IntWalk.i64_in _ (by omega)
            have e2 : IntKind.i64.wrap (gz rk.ws k + gz rk.ts k) = gz rk.ws k + gz rk.ts k := IntWalk.i64_in _ (by omega)
            have e3 : IntKind.i64.wrap (gz rk.ts k - gz rk.ts k) = gz rk.ts k - gz rk.ts k := IntWalk.i64_in _ (by omega)
            go_upto_region 12 with (fail)
            go_cut [12] (fun s12 wx => s12 = .int .i64 (gz rk.ts k) ∧ Hid (DS w wx f rk f.ps.length (some ⟨b, off, none⟩) c w.heap.size (w.heap.size + 1 + 1) sb y1 y2 y3 z1 z2 z3) ∧ Hid (wx.cell? ⟨dg, 2, none⟩ = some (.slice (some ⟨y1, 0, none⟩) (across f rk.ws).n cz)))
            case first =>
              have m1' : w3.cell? ⟨sb, 2, none⟩ = some (.slice (some ⟨y3, 0, none⟩) f.ps.length z3) := HDS3.out.S.cell 2
              have m2' : w3.cell? ⟨y3, k, none⟩ = some (.int .i64 (gz rk.ts k)) := HDS3.out.r3.cell hlt
              refine wp_region_split (fun W => (W.cell? ⟨sb, 2, none⟩ = some (.slice (some ⟨y3, 0, none⟩) f.ps.length z3) ∧ W.cell? ⟨y3, k, none⟩ = some (.int .i64 (gz rk.ts k)))) 14 (by kernel_rfl) (by decide) ?_
              refine wpG_take 14 0 (v := ?_) rfl (by kernel_rfl) (fun _ _ _ h => h) (Or.inl ⟨by rfl, ?_⟩) (by assumption) ?_
              rotate_left
              · intro w hSw; (try dsimp only at hSw); go_simp; (try with_reducible rfl)
              (try simp only [Act.put, List.setIfInBounds_toArray, List.set_cons_zero, List.set_cons_succ])
              refine wpG_take 14 1 (v := ?_) rfl (by kernel_rfl) (fun _ _ _ h => h) (Or.inl ⟨by rfl, ?_⟩) (by assumption) ?_
              rotate_left
              · intro w hSw; (try dsimp only at hSw); go_simp; (try with_reducible rfl)
              (try simp only [Act.put, List.setIfInBounds_toArray, List.set_cons_zero, List.set_cons_succ])
              refine wpG_take 14 2 (v := ?_) rfl (by kernel_rfl) (fun _ _ _ h => h) (Or.inl ⟨by rfl, ?_⟩) (by assumption) ?_
              rotate_left
              · intro w hSw; (try dsimp only at hSw); go_simp; (try with_reducible rfl)
              (try simp only [Act.put, List.setIfInBounds_toArray, List.set_cons_zero, List.set_cons_succ])
              refine wpG_take 14 3 (v := ?_) rfl (by kernel_rfl) (fun _ _ _ h => h) (Or.inl ⟨by rfl, ?_⟩) (by assumption) ?_
              rotate_left
              · intro w hSw; (try dsimp only at hSw); go_simp; (try with_reducible rfl)
              (try simp only [Act.put, List.setIfInBounds_toArray, List.set_cons_zero, List.set_cons_succ])
              refine wpG_take 14 4 (v := ?_) rfl (by kernel_rfl) (fun _ _ _ h => h) (Or.inl ⟨by rfl, ?_⟩) (by assumption) ?_
              rotate_left
              · intro w hSw; (try dsimp only at hSw); go_simp; (try with_reducible rfl)
              (try simp only [Act.put, List.setIfInBounds_toArray, List.set_cons_zero, List.set_cons_succ])
              refine wpG_take 14 5 (v := ?_) rfl (by kernel_rfl) (fun _ _ _ h => h) (Or.inl ⟨by rfl, ?_⟩) (by assumption) ?_
              rotate_left
              · intro w hSw; (try dsimp only at hSw); go_simp; (try with_reducible rfl)
              (try simp only [Act.put, List.setIfInBounds_toArray, List.set_cons_zero, List.set_cons_succ])
              refine wpG_take 14 7 (v := ?_) rfl (by kernel_rfl) (fun _ _ _ h => h) (Or.inl ⟨by rfl, ?_⟩) (by assumption) ?_
              rotate_left
              · intro w hSw; (try dsimp only at hSw); go_simp; (try with_reducible rfl)
              (try simp only [Act.put, List.setIfInBounds_toArray, List.set_cons_zero, List.set_cons_succ])
              refine wpG_take 14 9 (v := ?_) rfl (by kernel_rfl) (fun _ _ _ h => h) (Or.inl ⟨by rfl, ?_⟩) (by assumption) ?_
              rotate_left
              · intro w hSw; (try dsimp only at hSw); go_simp; (try with_reducible rfl)
              (try simp only [Act.put, List.setIfInBounds_toArray, List.set_cons_zero, List.set_cons_succ])
              refine wpG_one (i := 6) (by kernel_rfl) ?_
              refine wpOp_step rfl (fun K hK => ?_)
              go_simp
              go_at_call 93
              (with_reducible refine (HRM.out _ H0.out).mono ?_)
              rintro e w4 ⟨rfl, rfl⟩
              (try dsimp only)
              refine hK _ _ ⟨hS0, ?_⟩
              clear hK K
              (try simp only [Act.put, List.setIfInBounds_toArray, List.set_cons_zero, List.set_cons_succ])
              refine wpG_one (i := 8) (by kernel_rfl) ?_
              refine wpOp_step rfl (fun K hK => ?_)
              go_simp
              go_at_call 92
              (with_reducible refine (HTH.out _ H0.out).mono ?_)
              rintro e w5 ⟨gT, rfl, hgT, RT, hb5'⟩
              have hb5 : Below w3.heap.size w3 w5 := H0.out.trans hb5'
              have hthr := RT.cell hkD
              have HDS5 := Lib.hid (HDS3.out.below hb5)
              have n5 := HK3.out w5 hb5
              have HQD : Hid (w5.cell? ⟨dg, 2, none⟩ = some (.slice (some ⟨y1, 0, none⟩) (across f rk.ws).n cz)) := (hb5.cell (p := ⟨dg, 2, none⟩) hdgl).trans hc2
              have H5 := Lib.hid hb5
              (try dsimp only)
              refine hK _ _ ⟨n5, ?_⟩
              clear hK K hb5' hb5 hS0 m1' m2'
              (try simp only [Act.put, List.setIfInBounds_toArray, List.set_cons_zero, List.set_cons_succ])
              refine wpG_take 14 10 (v := ?_) rfl (by kernel_rfl) (fun _ _ _ h => h) (Or.inl ⟨by rfl, ?_⟩) (by assumption) ?_
              rotate_left
              · intro w hSw; (try dsimp only at hSw); go_simp; (try with_reducible rfl)
              (try simp only [Act.put, List.setIfInBounds_toArray, List.set_cons_zero, List.set_cons_succ])
              refine wpG_one (i := 11) (by kernel_rfl) ?_
              refine wpOp_step rfl (fun K hK => ?_)
              go_simp
              refine hK _ _ ⟨n5, ?_⟩
              clear hK K
              (try simp only [Act.put, List.setIfInBounds_toArray, List.set_cons_zero, List.set_cons_succ])
              refine wpG_take 14 12 (v := ?_) rfl (by kernel_rfl) (fun _ _ _ h => h) (Or.inl ⟨by rfl, ?_⟩) (by assumption) ?_
              rotate_left
              · intro w hSw; (try dsimp only at hSw); go_simp; (try with_reducible rfl)
              (try simp only [Act.put, List.setIfInBounds_toArray, List.set_cons_zero, List.set_cons_succ])
              refine wpG_one (i := 13) (by kernel_rfl) ?_
              refine wpOp_step rfl (fun K hK => ?_)
              go_simp
              refine hK _ _ ⟨n5, ?_⟩
              clear hK K
              (try simp only [Act.put, List.setIfInBounds_toArray, List.set_cons_zero, List.set_cons_succ])
              refine ⟨by kernel_rfl, ?_⟩
              simp only [List.drop_succ_cons, List.drop_zero]
              go_wp2_with fail
              go_meet
              exact ⟨rfl, HDS5.out, HQD.out⟩
            case rest =>
              obtain ⟨rfl, HDS5, HQD⟩ := hcut
              have q1 := HDS5.out.r1.cell hlt
              have q1f := HDS5.out.r1.frozen k
              have q3 := HDS5.out.r3.cell hlt
              have q3f := HDS5.out.r3.frozen k
              have qs : World.cell? _ ⟨sb, 2, none⟩ = some (.slice (some ⟨y3, 0, none⟩) f.ps.length z3) := HDS5.out.S.cell 2
              have qd := HQD.out
              have hne1 : ¬ sb = y1 := fun e => HDS5.out.n1.2.2.1 e.symm
              have hne3 : ¬ y3 = y1 := fun e => HDS5.out.d13 e.symm
              have HNE : Hid (y1 ≠ y3) := HDS5.out.d13
              clear hS0 e1
              go_wp2_with fail
              clear e2 e3
              go_roundg (f.ps.length - (k + 1))
              case measure => omega
              case rel =>
                refine ⟨k + 1, by omega, by omega, by go_num, ?_⟩
                show DS _ _ _ _ _ _ _ _ _ _ _ _ _ _ _ _
                rw [HDRV.out, HQ3.out K3.out, HBY.out, Int.sub_self]
                exact (HDS5.out.set1 (by have := HOKK.out.fit.ws.len; omega) hlt _).set3 (by have := HOKK.out.fit.ts; show rk.ts.length = _; omega) hlt _
          · have HBY : Hid (byA f rk k = (60 * f.W - (across f rk.ws).thr k)) := by show min _ _ = _; omega
            have e1 : IntKind.i64.wrap (60 * f.W - (across f rk.ws).thr k) = 60 * f.W - (across f rk.ws).thr k := IntWalk.i64_in _ (by omega)
            have e2 : IntKind.i64.wrap (gz rk.ws k + (60 * f.W - (across f rk.ws).thr k)) = gz rk.ws k + (60 * f.W - (across f rk.ws).thr k) := IntWalk.i64_in _ (by omega)
            have e3 : IntKind.i64.wrap (gz rk.ts k - (60 * f.W - (across f rk.ws).thr k)) = gz rk.ts k - (60 * f.W - (across f rk.ws).thr k) := IntWalk.i64_in _ (by omega)
            go_upto_region 12 with (fail)
            go_cut [12] (fun s12 wx => s12 = .int .i64 (60 * f.W - (across f rk.ws).thr k) ∧ Hid (DS w wx f rk f.ps.length (some ⟨b, off, none⟩) c w.heap.size (w.heap.size + 1 + 1) sb y1 y2 y3 z1 z2 z3) ∧ Hid (wx.cell? ⟨dg, 2, none⟩ = some (.slice (some ⟨y1, 0, none⟩) (across f rk.ws).n cz)))
            case first =>
              have m1' : w3.cell? ⟨sb, 2, none⟩ = some (.slice (some ⟨y3, 0, none⟩) f.ps.length z3) := HDS3.out.S.cell 2
              have m2' : w3.cell? ⟨y3, k, none⟩ = some (.int .i64 (gz rk.ts k)) := HDS3.out.r3.cell hlt
              refine wp_region_split (fun W => (W.cell? ⟨sb, 2, none⟩ = some (.slice (some ⟨y3, 0, none⟩) f.ps.length z3) ∧ W.cell? ⟨y3, k, none⟩ = some (.int .i64 (gz rk.ts k)))) 14 (by kernel_rfl) (by decide) ?_
              refine wpG_take 14 0 (v := ?_) rfl (by kernel_rfl) (fun _ _ _ h => h) (Or.inl ⟨by rfl, ?_⟩) (by assumption) ?_
              rotate_left
              · intro w hSw; (try dsimp only at hSw); go_simp; (try with_reducible rfl)
              (try simp only [Act.put, List.setIfInBounds_toArray, List.set_cons_zero, List.set_cons_succ])
              refine wpG_take 14 1 (v := ?_) rfl (by kernel_rfl) (fun _ _ _ h => h) (Or.inl ⟨by rfl, ?_⟩) (by assumption) ?_
              rotate_left
              · intro w hSw; (try dsimp only at hSw); go_simp; (try with_reducible rfl)
              (try simp only [Act.put, List.setIfInBounds_toArray, List.set_cons_zero, List.set_cons_succ])
              refine wpG_take 14 2 (v := ?_) rfl (by kernel_rfl) (fun _ _ _ h => h) (Or.inl ⟨by rfl, ?_⟩) (by assumption) ?_
              rotate_left
              · intro w hSw; (try dsimp only at hSw); go_simp; (try with_reducible rfl)
              (try simp only [Act.put, List.setIfInBounds_toArray, List.set_cons_zero, List.set_cons_succ])
              refine wpG_take 14 3 (v := ?_) rfl (by kernel_rfl) (fun _ _ _ h => h) (Or.inl ⟨by rfl, ?_⟩) (by assumption) ?_
              rotate_left
              · intro w hSw; (try dsimp only at hSw); go_simp; (try with_reducible rfl)
              (try simp only [Act.put, List.setIfInBounds_toArray, List.set_cons_zero, List.set_cons_succ])
              refine wpG_take 14 4 (v := ?_) rfl (by kernel_rfl) (fun _ _ _ h => h) (Or.inl ⟨by rfl, ?_⟩) (by assumption) ?_
              rotate_left
              · intro w hSw; (try dsimp only at hSw); go_simp; (try with_reducible rfl)
              (try simp only [Act.put, List.setIfInBounds_toArray, List.set_cons_zero, List.set_cons_succ])
              refine wpG_take 14 5 (v := ?_) rfl (by kernel_rfl) (fun _ _ _ h => h) (Or.inl ⟨by rfl, ?_⟩) (by assumption) ?_
              rotate_left
              · intro w hSw; (try dsimp only at hSw); go_simp; (try with_reducible rfl)
              (try simp only [Act.put, List.setIfInBounds_toArray, List.set_cons_zero, List.set_cons_succ])
              refine wpG_take 14 7 (v := ?_) rfl (by kernel_rfl) (fun _ _ _ h => h) (Or.inl ⟨by rfl, ?_⟩) (by assumption) ?_
              rotate_left
              · intro w hSw; (try dsimp only at hSw); go_simp; (try with_reducible rfl)
              (try simp only [Act.put, List.setIfInBounds_toArray, List.set_cons_zero, List.set_cons_succ])
              refine wpG_take 14 9 (v := ?_) rfl (by kernel_rfl) (fun _ _ _ h => h) (Or.inl ⟨by rfl, ?_⟩) (by assumption) ?_
              rotate_left
              · intro w hSw; (try dsimp only at hSw); go_simp; (try with_reducible rfl)
              (try simp only [Act.put, List.setIfInBounds_toArray, List.set_cons_zero, List.set_cons_succ])
              refine wpG_one (i := 6) (by kernel_rfl) ?_
              refine wpOp_step rfl (fun K hK => ?_)
              go_simp
              go_at_call 93
              (with_reducible refine (HRM.out _ H0.out).mono ?_)
              rintro e w4 ⟨rfl, rfl⟩
              (try dsimp only)
              refine hK _ _ ⟨hS0, ?_⟩
              clear hK K
              (try simp only [Act.put, List.setIfInBounds_toArray, List.set_cons_zero, List.set_cons_succ])
              refine wpG_one (i := 8) (by kernel_rfl) ?_
              refine wpOp_step rfl (fun K hK => ?_)
              go_simp
              go_at_call 92
              (with_reducible refine (HTH.out _ H0.out).mono ?_)
              rintro e w5 ⟨gT, rfl, hgT, RT, hb5'⟩
              have hb5 : Below w3.heap.size w3 w5 := H0.out.trans hb5'
              have hthr := RT.cell hkD
              have HDS5 := Lib.hid (HDS3.out.below hb5)
              have n5 := HK3.out w5 hb5
              have HQD : Hid (w5.cell? ⟨dg, 2, none⟩ = some (.slice (some ⟨y1, 0, none⟩) (across f rk.ws).n cz)) := (hb5.cell (p := ⟨dg, 2, none⟩) hdgl).trans hc2
              have H5 := Lib.hid hb5
              (try dsimp only)
              refine hK _ _ ⟨n5, ?_⟩
              clear hK K hb5' hb5 hS0 m1' m2'
              (try simp only [Act.put, List.setIfInBounds_toArray, List.set_cons_zero, List.set_cons_succ])
              refine wpG_take 14 10 (v := ?_) rfl (by kernel_rfl) (fun _ _ _ h => h) (Or.inl ⟨by rfl, ?_⟩) (by assumption) ?_
              rotate_left
              · intro w hSw; (try dsimp only at hSw); go_simp; (try with_reducible rfl)
              (try simp only [Act.put, List.setIfInBounds_toArray, List.set_cons_zero, List.set_cons_succ])
              refine wpG_one (i := 11) (by kernel_rfl) ?_
              refine wpOp_step rfl (fun K hK => ?_)
              go_simp
              refine hK _ _ ⟨n5, ?_⟩
              clear hK K
              (try simp only [Act.put, List.setIfInBounds_toArray, List.set_cons_zero, List.set_cons_succ])
              refine wpG_take 14 12 (v := ?_) rfl (by kernel_rfl) (fun _ _ _ h => h) (Or.inl ⟨by rfl, ?_⟩) (by assumption) ?_
              rotate_left
              · intro w hSw; (try dsimp only at hSw); go_simp; (try with_reducible rfl)
              (try simp only [Act.put, List.setIfInBounds_toArray, List.set_cons_zero, List.set_cons_succ])
              refine wpG_one (i := 13) (by kernel_rfl) ?_
              refine wpOp_step rfl (fun K hK => ?_)
              go_simp
              refine hK _ _ ⟨n5, ?_⟩
              clear hK K
              (try simp only [Act.put, List.setIfInBounds_toArray, List.set_cons_zero, List.set_cons_succ])
              refine ⟨by kernel_rfl, ?_⟩
              simp only [List.drop_succ_cons, List.drop_zero]
              go_wp2_with fail
              go_meet
              exact ⟨rfl, HDS5.out, HQD.out⟩
            case rest =>
              obtain ⟨rfl, HDS5, HQD⟩ := hcut
              have q1 := HDS5.out.r1.cell hlt
              have q1f := HDS5.out.r1.frozen k
              have q3 := HDS5.out.r3.cell hlt
              have q3f := HDS5.out.r3.frozen k
              have qs : World.cell? _ ⟨sb, 2, none⟩ = some (.slice (some ⟨y3, 0, none⟩) f.ps.length z3) := HDS5.out.S.cell 2
              have qd := HQD.out
              have hne1 : ¬ sb = y1 := fun e => HDS5.out.n1.2.2.1 e.symm
              have hne3 : ¬ y3 = y1 := fun e => HDS5.out.d13 e.symm
              have HNE : Hid (y1 ≠ y3) := HDS5.out.d13
              clear hS0 e1
              go_wp2_with fail
              clear e2 e3
              go_roundg (f.ps.length - (k + 1))
              case measure => omega
              case rel =>
                refine ⟨k + 1, by omega, by omega, by go_num, ?_⟩
                show DS _ _ _ _ _ _ _ _ _ _ _ _ _ _ _ _
                rw [HDRV.out, HQ3.out K3.out, HBY.out]
                exact (HDS5.out.set1 (by have := HOKK.out.fit.ws.len; omega) hlt _).set3 (by have := HOKK.out.fit.ts; show rk.ts.length = _; omega) hlt _
        · by_cases k4 : p.kind = 4
          · have hq : isQ p.kind = true := by unfold isQ; simp [k4]
            have hk4 : (p.kind == 4) = true := by simp [k4]
            have K4 := Lib.hid k4
            clear k4
            go_wp2_with fail
            refine (ds_across HDS2.out rfl HOK.out.right HOKK.out HH.out.la HH.out.ps).mono ?_
            rintro e wa ⟨dg0, Aa0, Ab0, Az0, ca0, cb0, cz0, ba0, oa0, bb0, ob0, rfl, hD0, ba3, hdg0, hbab0⟩
            have HDSa := Lib.hid (HDS2.out.below ba3)
            have pk1a : wa.cell? ⟨wr.heap.size, 1, none⟩ = some (.int .i64 p.kind) := (ba3.cell (p := ⟨wr.heap.size, 1, none⟩) (by show wr.heap.size < _; omega)).trans pk1
            have hpla : wr.heap.size < wa.heap.size := by have := ba3.size; omega
            clear HDS2 pk0 pk1 hpl F0 F1 F2 S0 S1 S2 hD0 ba3 hdg0 hbab0
            have pk1 := pk1a
            have hpl := hpla
            have HDS2 := Lib.hid HDSa.out
            have F0 : wa.cell? ⟨w.heap.size, 0, none⟩ = some (.int .i64 f.W) := HDS2.out.F.cell 0
            have F1 : wa.cell? ⟨w.heap.size, 1, none⟩ = some (.int .i64 f.H) := HDS2.out.F.cell 1
            have F2 : wa.cell? ⟨w.heap.size, 2, none⟩ = some (.slice (some ⟨b, off, none⟩) f.ps.length c) := HDS2.out.F.cell 2
            have S0 : wa.cell? ⟨sb, 0, none⟩ = some (.slice (some ⟨y1, 0, none⟩) f.ps.length z1) := HDS2.out.S.cell 0
            have S1 : wa.cell? ⟨sb, 1, none⟩ = some (.slice (some ⟨y2, 0, none⟩) f.ps.length z2) := HDS2.out.S.cell 1
            have S2 : wa.cell? ⟨sb, 2, none⟩ = some (.slice (some ⟨y3, 0, none⟩) f.ps.length z3) := HDS2.out.S.cell 2
            clear pk1a hpla HDSa
            go_wp2_with fail
            refine (ds_down HDS2.out rfl HOK.out.right HOKK.out HH.out.la HH.out.ps).mono ?_
            rintro e w3 ⟨dg, Aa, Ab, Az, ca, cb, cz, ba, oa, bb, ob, rfl, hD, b3, hdg, hbab⟩
            have hDn : (down f rk.hs).n = f.ps.length := HOKK.out.fit.hs.len
            have hkD : k < (down f rk.hs).n := by omega
            have hkDz : (k : Int) < ((down f rk.hs).n : Int) := by omega
            have hwf := down_wf HOK.out.right.toLaid HOKK.out.fit.hs
            have hus := HOKK.out.uh HOK.out.right.toLaid
            have HRM : Hid (∀ W, Below w3.heap.size w3 W → Calls Try.prog 93 #[.pointer (some ⟨dg, 0, none⟩)] W fun e w' => e = .returned (.int .i64 (60 * f.H)) ∧ W = w') := (show ∀ W, _ from fun W hW => room_any (down f rk.hs) w3.heap.size dg Aa Ab Az ca cb cz ba oa bb ob y2 0 W (hD.keep fun b o hb => hW.cell (p := ⟨b, o, none⟩) hb) (by show 0 ≤ f.H; omega) (by show f.H ≤ 4000; omega))
            have HTH : Hid (∀ W, Below w3.heap.size w3 W → Calls Try.prog 92 #[.pointer (some ⟨dg, 0, none⟩)] W (ThrPost W (down f rk.hs))) := (show ∀ W, _ from fun W hW => through_any (down f rk.hs) hwf (by omega) (down_T HOK.out.right.toLaid hus) (fun i hi => Dir.T_small (Dir.mir_wf hwf) (fun i _ => sz_le hus.b (by omega) i) (by show 0 ≤ f.H; omega) (by show f.H ≤ 4000; omega) i hi) w3.heap.size dg Aa Ab Az ca cb cz ba oa bb ob y2 0 W (hD.keep fun b o hb => hW.cell (p := ⟨b, o, none⟩) hb) hW.size (by show 0 ≤ f.H; omega) (by show f.H ≤ 4000; omega))
            have hc2 := hD.c2
            obtain ⟨rfl, -⟩ := hD.lz (by omega)
            have hdgl := hD.gB
            have HDS3 := Lib.hid (HDS2.out.below b3)
            have HK3 : Hid (∀ W, Below w3.heap.size w3 W → (W.cell? ⟨sb, 2, none⟩ = some (.slice (some ⟨y3, 0, none⟩) f.ps.length z3) ∧ W.cell? ⟨y3, k, none⟩ = some (.int .i64 (gz rk.ts k)))) := (show ∀ W, _ from fun W hW => ⟨(HDS3.out.below hW).S.cell 2, (HDS3.out.below hW).r3.cell hlt⟩)
            have h0 : Below w3.heap.size w3 w3.drew := (Below.refl _ _).drew
            have H0 := Lib.hid h0
            have hS0 := HK3.out w3.drew h0
            have hkind : w3.cell? ⟨wr.heap.size, 1, none⟩ = some (.int .i64 p.kind) := (b3.cell (p := ⟨wr.heap.size, 1, none⟩) (by show wr.heap.size < _; omega)).trans pk1
            have HDNN := Lib.hid hDn
            clear hD h0 b3 hwf hus hDn S0 S1 S2 F0 F1 F2 pk1 hdg hbab
            by_cases hle : gz rk.ts k ≤ 60 * f.H - (down f rk.hs).thr k
            · have HBY : Hid (byD f rk k = gz rk.ts k) := by show min _ _ = _; omega
              have e1 : IntKind.i64.wrap (60 * f.H - (down f rk.hs).thr k) = 60 * f.H - (down f rk.hs).thr k := IntWalk.i64_in _ (by omega)
              have e2 : IntKind.i64.wrap (gz rk.hs k + gz rk.ts k) = gz rk.hs k + gz rk.ts k := IntWalk.i64_in _ (by omega)
              have e3 : IntKind.i64.wrap (gz rk.ts k - gz rk.ts k) = gz rk.ts k - gz rk.ts k := IntWalk.i64_in _ (by omega)
              go_upto_region 12 with (fail)
              go_cut [12] (fun s12 wx => s12 = .int .i64 (gz rk.ts k) ∧ Hid (DS w wx f rk f.ps.length (some ⟨b, off, none⟩) c w.heap.size (w.heap.size + 1 + 1) sb y1 y2 y3 z1 z2 z3) ∧ Hid (wx.cell? ⟨dg, 2, none⟩ = some (.slice (some ⟨y2, 0, none⟩) (down f rk.hs).n cz)))
              case first =>
                have m1' : w3.cell? ⟨sb, 2, none⟩ = some (.slice (some ⟨y3, 0, none⟩) f.ps.length z3) := HDS3.out.S.cell 2
                have m2' : w3.cell? ⟨y3, k, none⟩ = some (.int .i64 (gz rk.ts k)) := HDS3.out.r3.cell hlt
                refine wp_region_split (fun W => (W.cell? ⟨sb, 2, none⟩ = some (.slice (some ⟨y3, 0, none⟩) f.ps.length z3) ∧ W.cell? ⟨y3, k, none⟩ = some (.int .i64 (gz rk.ts k)))) 14 (by kernel_rfl) (by decide) ?_
                refine wpG_take 14 0 (v := ?_) rfl (by kernel_rfl) (fun _ _ _ h => h) (Or.inl ⟨by rfl, ?_⟩) (by assumption) ?_
                rotate_left
                · intro w hSw; (try dsimp only at hSw); go_simp; (try with_reducible rfl)
                (try simp only [Act.put, List.setIfInBounds_toArray, List.set_cons_zero, List.set_cons_succ])
                refine wpG_take 14 1 (v := ?_) rfl (by kernel_rfl) (fun _ _ _ h => h) (Or.inl ⟨by rfl, ?_⟩) (by assumption) ?_
                rotate_left
                · intro w hSw; (try dsimp only at hSw); go_simp; (try with_reducible rfl)
                (try simp only [Act.put, List.setIfInBounds_toArray, List.set_cons_zero, List.set_cons_succ])
                refine wpG_take 14 2 (v := ?_) rfl (by kernel_rfl) (fun _ _ _ h => h) (Or.inl ⟨by rfl, ?_⟩) (by assumption) ?_
                rotate_left
                · intro w hSw; (try dsimp only at hSw); go_simp; (try with_reducible rfl)
                (try simp only [Act.put, List.setIfInBounds_toArray, List.set_cons_zero, List.set_cons_succ])
                refine wpG_take 14 3 (v := ?_) rfl (by kernel_rfl) (fun _ _ _ h => h) (Or.inl ⟨by rfl, ?_⟩) (by assumption) ?_
                rotate_left
                · intro w hSw; (try dsimp only at hSw); go_simp; (try with_reducible rfl)
                (try simp only [Act.put, List.setIfInBounds_toArray, List.set_cons_zero, List.set_cons_succ])
                refine wpG_take 14 4 (v := ?_) rfl (by kernel_rfl) (fun _ _ _ h => h) (Or.inl ⟨by rfl, ?_⟩) (by assumption) ?_
                rotate_left
                · intro w hSw; (try dsimp only at hSw); go_simp; (try with_reducible rfl)
                (try simp only [Act.put, List.setIfInBounds_toArray, List.set_cons_zero, List.set_cons_succ])
                refine wpG_take 14 5 (v := ?_) rfl (by kernel_rfl) (fun _ _ _ h => h) (Or.inl ⟨by rfl, ?_⟩) (by assumption) ?_
                rotate_left
                · intro w hSw; (try dsimp only at hSw); go_simp; (try with_reducible rfl)
                (try simp only [Act.put, List.setIfInBounds_toArray, List.set_cons_zero, List.set_cons_succ])
                refine wpG_take 14 7 (v := ?_) rfl (by kernel_rfl) (fun _ _ _ h => h) (Or.inl ⟨by rfl, ?_⟩) (by assumption) ?_
                rotate_left
                · intro w hSw; (try dsimp only at hSw); go_simp; (try with_reducible rfl)
                (try simp only [Act.put, List.setIfInBounds_toArray, List.set_cons_zero, List.set_cons_succ])
                refine wpG_take 14 9 (v := ?_) rfl (by kernel_rfl) (fun _ _ _ h => h) (Or.inl ⟨by rfl, ?_⟩) (by assumption) ?_
                rotate_left
                · intro w hSw; (try dsimp only at hSw); go_simp; (try with_reducible rfl)
                (try simp only [Act.put, List.setIfInBounds_toArray, List.set_cons_zero, List.set_cons_succ])
                refine wpG_one (i := 6) (by kernel_rfl) ?_
                refine wpOp_step rfl (fun K hK => ?_)
                go_simp
                go_at_call 93
                (with_reducible refine (HRM.out _ H0.out).mono ?_)
                rintro e w4 ⟨rfl, rfl⟩
                (try dsimp only)
                refine hK _ _ ⟨hS0, ?_⟩
                clear hK K
                (try simp only [Act.put, List.setIfInBounds_toArray, List.set_cons_zero, List.set_cons_succ])
                refine wpG_one (i := 8) (by kernel_rfl) ?_
                refine wpOp_step rfl (fun K hK => ?_)
                go_simp
                go_at_call 92
                (with_reducible refine (HTH.out _ H0.out).mono ?_)
                rintro e w5 ⟨gT, rfl, hgT, RT, hb5'⟩
                have hb5 : Below w3.heap.size w3 w5 := H0.out.trans hb5'
                have hthr := RT.cell hkD
                have HDS5 := Lib.hid (HDS3.out.below hb5)
                have n5 := HK3.out w5 hb5
                have HQD : Hid (w5.cell? ⟨dg, 2, none⟩ = some (.slice (some ⟨y2, 0, none⟩) (down f rk.hs).n cz)) := (hb5.cell (p := ⟨dg, 2, none⟩) hdgl).trans hc2
                have H5 := Lib.hid hb5
                (try dsimp only)
                refine hK _ _ ⟨n5, ?_⟩
                clear hK K hb5' hb5 hS0 m1' m2'
                (try simp only [Act.put, List.setIfInBounds_toArray, List.set_cons_zero, List.set_cons_succ])
                refine wpG_take 14 10 (v := ?_) rfl (by kernel_rfl) (fun _ _ _ h => h) (Or.inl ⟨by rfl, ?_⟩) (by assumption) ?_
                rotate_left
                · intro w hSw; (try dsimp only at hSw); go_simp; (try with_reducible rfl)
                (try simp only [Act.put, List.setIfInBounds_toArray, List.set_cons_zero, List.set_cons_succ])
                refine wpG_one (i := 11) (by kernel_rfl) ?_
                refine wpOp_step rfl (fun K hK => ?_)
                go_simp
                refine hK _ _ ⟨n5, ?_⟩
                clear hK K
                (try simp only [Act.put, List.setIfInBounds_toArray, List.set_cons_zero, List.set_cons_succ])
                refine wpG_take 14 12 (v := ?_) rfl (by kernel_rfl) (fun _ _ _ h => h) (Or.inl ⟨by rfl, ?_⟩) (by assumption) ?_
                rotate_left
                · intro w hSw; (try dsimp only at hSw); go_simp; (try with_reducible rfl)
                (try simp only [Act.put, List.setIfInBounds_toArray, List.set_cons_zero, List.set_cons_succ])
                refine wpG_one (i := 13) (by kernel_rfl) ?_
                refine wpOp_step rfl (fun K hK => ?_)
                go_simp
                refine hK _ _ ⟨n5, ?_⟩
                clear hK K
                (try simp only [Act.put, List.setIfInBounds_toArray, List.set_cons_zero, List.set_cons_succ])
                refine ⟨by kernel_rfl, ?_⟩
                simp only [List.drop_succ_cons, List.drop_zero]
                go_wp2_with fail
                go_meet
                exact ⟨rfl, HDS5.out, HQD.out⟩
              case rest =>
                obtain ⟨rfl, HDS5, HQD⟩ := hcut
                have q1 := HDS5.out.r2.cell hlt
                have q1f := HDS5.out.r2.frozen k
                have q3 := HDS5.out.r3.cell hlt
                have q3f := HDS5.out.r3.frozen k
                have qs : World.cell? _ ⟨sb, 2, none⟩ = some (.slice (some ⟨y3, 0, none⟩) f.ps.length z3) := HDS5.out.S.cell 2
                have qd := HQD.out
                have hne1 : ¬ sb = y2 := fun e => HDS5.out.n2.2.2.1 e.symm
                have hne3 : ¬ y3 = y2 := fun e => HDS5.out.d23 e.symm
                have HNE : Hid (y2 ≠ y3) := HDS5.out.d23
                clear hS0 e1
                go_wp2_with fail
                clear e2 e3
                go_roundg (f.ps.length - (k + 1))
                case measure => omega
                case rel =>
                  refine ⟨k + 1, by omega, by omega, by go_num, ?_⟩
                  show DS _ _ _ _ _ _ _ _ _ _ _ _ _ _ _ _
                  rw [HDRV.out, HQ4.out K4.out, HBY.out, Int.sub_self]
                  exact (HDS5.out.set2 (by have := HOKK.out.fit.hs.len; omega) hlt _).set3 (by have := HOKK.out.fit.ts; show rk.ts.length = _; omega) hlt _
            · have HBY : Hid (byD f rk k = (60 * f.H - (down f rk.hs).thr k)) := by show min _ _ = _; omega
              have e1 : IntKind.i64.wrap (60 * f.H - (down f rk.hs).thr k) = 60 * f.H - (down f rk.hs).thr k := IntWalk.i64_in _ (by omega)
              have e2 : IntKind.i64.wrap (gz rk.hs k + (60 * f.H - (down f rk.hs).thr k)) = gz rk.hs k + (60 * f.H - (down f rk.hs).thr k) := IntWalk.i64_in _ (by omega)
              have e3 : IntKind.i64.wrap (gz rk.ts k - (60 * f.H - (down f rk.hs).thr k)) = gz rk.ts k - (60 * f.H - (down f rk.hs).thr k) := IntWalk.i64_in _ (by omega)
              go_upto_region 12 with (fail)
              go_cut [12] (fun s12 wx => s12 = .int .i64 (60 * f.H - (down f rk.hs).thr k) ∧ Hid (DS w wx f rk f.ps.length (some ⟨b, off, none⟩) c w.heap.size (w.heap.size + 1 + 1) sb y1 y2 y3 z1 z2 z3) ∧ Hid (wx.cell? ⟨dg, 2, none⟩ = some (.slice (some ⟨y2, 0, none⟩) (down f rk.hs).n cz)))
              case first =>
                have m1' : w3.cell? ⟨sb, 2, none⟩ = some (.slice (some ⟨y3, 0, none⟩) f.ps.length z3) := HDS3.out.S.cell 2
                have m2' : w3.cell? ⟨y3, k, none⟩ = some (.int .i64 (gz rk.ts k)) := HDS3.out.r3.cell hlt
                refine wp_region_split (fun W => (W.cell? ⟨sb, 2, none⟩ = some (.slice (some ⟨y3, 0, none⟩) f.ps.length z3) ∧ W.cell? ⟨y3, k, none⟩ = some (.int .i64 (gz rk.ts k)))) 14 (by kernel_rfl) (by decide) ?_
                refine wpG_take 14 0 (v := ?_) rfl (by kernel_rfl) (fun _ _ _ h => h) (Or.inl ⟨by rfl, ?_⟩) (by assumption) ?_
                rotate_left
                · intro w hSw; (try dsimp only at hSw); go_simp; (try with_reducible rfl)
                (try simp only [Act.put, List.setIfInBounds_toArray, List.set_cons_zero, List.set_cons_succ])
                refine wpG_take 14 1 (v := ?_) rfl (by kernel_rfl) (fun _ _ _ h => h) (Or.inl ⟨by rfl, ?_⟩) (by assumption) ?_
                rotate_left
                · intro w hSw; (try dsimp only at hSw); go_simp; (try with_reducible rfl)
                (try simp only [Act.put, List.setIfInBounds_toArray, List.set_cons_zero, List.set_cons_succ])
                refine wpG_take 14 2 (v := ?_) rfl (by kernel_rfl) (fun _ _ _ h => h) (Or.inl ⟨by rfl, ?_⟩) (by assumption) ?_
                rotate_left
                · intro w hSw; (try dsimp only at hSw); go_simp; (try with_reducible rfl)
                (try simp only [Act.put, List.setIfInBounds_toArray, List.set_cons_zero, List.set_cons_succ])
                refine wpG_take 14 3 (v := ?_) rfl (by kernel_rfl) (fun _ _ _ h => h) (Or.inl ⟨by rfl, ?_⟩) (by assumption) ?_
                rotate_left
                · intro w hSw; (try dsimp only at hSw); go_simp; (try with_reducible rfl)
                (try simp only [Act.put, List.setIfInBounds_toArray, List.set_cons_zero, List.set_cons_succ])
                refine wpG_take 14 4 (v := ?_) rfl (by kernel_rfl) (fun _ _ _ h => h) (Or.inl ⟨by rfl, ?_⟩) (by assumption) ?_
                rotate_left
                · intro w hSw; (try dsimp only at hSw); go_simp; (try with_reducible rfl)
                (try simp only [Act.put, List.setIfInBounds_toArray, List.set_cons_zero, List.set_cons_succ])
                refine wpG_take 14 5 (v := ?_) rfl (by kernel_rfl) (fun _ _ _ h => h) (Or.inl ⟨by rfl, ?_⟩) (by assumption) ?_
                rotate_left
                · intro w hSw; (try dsimp only at hSw); go_simp; (try with_reducible rfl)
                (try simp only [Act.put, List.setIfInBounds_toArray, List.set_cons_zero, List.set_cons_succ])
                refine wpG_take 14 7 (v := ?_) rfl (by kernel_rfl) (fun _ _ _ h => h) (Or.inl ⟨by rfl, ?_⟩) (by assumption) ?_
                rotate_left
                · intro w hSw; (try dsimp only at hSw); go_simp; (try with_reducible rfl)
                (try simp only [Act.put, List.setIfInBounds_toArray, List.set_cons_zero, List.set_cons_succ])
                refine wpG_take 14 9 (v := ?_) rfl (by kernel_rfl) (fun _ _ _ h => h) (Or.inl ⟨by rfl, ?_⟩) (by assumption) ?_
                rotate_left
                · intro w hSw; (try dsimp only at hSw); go_simp; (try with_reducible rfl)
                (try simp only [Act.put, List.setIfInBounds_toArray, List.set_cons_zero, List.set_cons_succ])
                refine wpG_one (i := 6) (by kernel_rfl) ?_
                refine wpOp_step rfl (fun K hK => ?_)
                go_simp
                go_at_call 93
                (with_reducible refine (HRM.out _ H0.out).mono ?_)
                rintro e w4 ⟨rfl, rfl⟩
                (try dsimp only)
                refine hK _ _ ⟨hS0, ?_⟩
                clear hK K
                (try simp only [Act.put, List.setIfInBounds_toArray, List.set_cons_zero, List.set_cons_succ])
                refine wpG_one (i := 8) (by kernel_rfl) ?_
                refine wpOp_step rfl (fun K hK => ?_)
                go_simp
                go_at_call 92
                (with_reducible refine (HTH.out _ H0.out).mono ?_)
                rintro e w5 ⟨gT, rfl, hgT, RT, hb5'⟩
                have hb5 : Below w3.heap.size w3 w5 := H0.out.trans hb5'
                have hthr := RT.cell hkD
                have HDS5 := Lib.hid (HDS3.out.below hb5)
                have n5 := HK3.out w5 hb5
                have HQD : Hid (w5.cell? ⟨dg, 2, none⟩ = some (.slice (some ⟨y2, 0, none⟩) (down f rk.hs).n cz)) := (hb5.cell (p := ⟨dg, 2, none⟩) hdgl).trans hc2
                have H5 := Lib.hid hb5
                (try dsimp only)
                refine hK _ _ ⟨n5, ?_⟩
                clear hK K hb5' hb5 hS0 m1' m2'
                (try simp only [Act.put, List.setIfInBounds_toArray, List.set_cons_zero, List.set_cons_succ])
                refine wpG_take 14 10 (v := ?_) rfl (by kernel_rfl) (fun _ _ _ h => h) (Or.inl ⟨by rfl, ?_⟩) (by assumption) ?_
                rotate_left
                · intro w hSw; (try dsimp only at hSw); go_simp; (try with_reducible rfl)
                (try simp only [Act.put, List.setIfInBounds_toArray, List.set_cons_zero, List.set_cons_succ])
                refine wpG_one (i := 11) (by kernel_rfl) ?_
                refine wpOp_step rfl (fun K hK => ?_)
                go_simp
                refine hK _ _ ⟨n5, ?_⟩
                clear hK K
                (try simp only [Act.put, List.setIfInBounds_toArray, List.set_cons_zero, List.set_cons_succ])
                refine wpG_take 14 12 (v := ?_) rfl (by kernel_rfl) (fun _ _ _ h => h) (Or.inl ⟨by rfl, ?_⟩) (by assumption) ?_
                rotate_left
                · intro w hSw; (try dsimp only at hSw); go_simp; (try with_reducible rfl)
                (try simp only [Act.put, List.setIfInBounds_toArray, List.set_cons_zero, List.set_cons_succ])
                refine wpG_one (i := 13) (by kernel_rfl) ?_
                refine wpOp_step rfl (fun K hK => ?_)
                go_simp
                refine hK _ _ ⟨n5, ?_⟩
                clear hK K
                (try simp only [Act.put, List.setIfInBounds_toArray, List.set_cons_zero, List.set_cons_succ])
                refine ⟨by kernel_rfl, ?_⟩
                simp only [List.drop_succ_cons, List.drop_zero]
                go_wp2_with fail
                go_meet
                exact ⟨rfl, HDS5.out, HQD.out⟩
              case rest =>
                obtain ⟨rfl, HDS5, HQD⟩ := hcut
                have q1 := HDS5.out.r2.cell hlt
                have q1f := HDS5.out.r2.frozen k
                have q3 := HDS5.out.r3.cell hlt
                have q3f := HDS5.out.r3.frozen k
                have qs : World.cell? _ ⟨sb, 2, none⟩ = some (.slice (some ⟨y3, 0, none⟩) f.ps.length z3) := HDS5.out.S.cell 2
                have qd := HQD.out
                have hne1 : ¬ sb = y2 := fun e => HDS5.out.n2.2.2.1 e.symm
                have hne3 : ¬ y3 = y2 := fun e => HDS5.out.d23 e.symm
                have HNE : Hid (y2 ≠ y3) := HDS5.out.d23
                clear hS0 e1
                go_wp2_with fail
                clear e2 e3
                go_roundg (f.ps.length - (k + 1))
                case measure => omega
                case rel =>
                  refine ⟨k + 1, by omega, by omega, by go_num, ?_⟩
                  show DS _ _ _ _ _ _ _ _ _ _ _ _ _ _ _ _
                  rw [HDRV.out, HQ4.out K4.out, HBY.out]
                  exact (HDS5.out.set2 (by have := HOKK.out.fit.hs.len; omega) hlt _).set3 (by have := HOKK.out.fit.ts; show rk.ts.length = _; omega) hlt _
          · have hq : isQ p.kind = false := by unfold isQ; simp [k3, k4]
            have HDN : Hid (rk.drive f k = rk) := HQN.out k3 k4
            clear k3 k4
            go_wp2_with fail
            go_roundg (f.ps.length - (k + 1))
            case measure => omega
            case rel =>
              refine ⟨k + 1, by omega, by omega, by go_num, ?_⟩
              show DS _ _ _ _ _ _ _ _ _ _ _ _ _ _ _ _
              rw [HDRV.out, HDN.out]
              exact HDS2.out
      · have hltz : ¬ (k : Int) < (f.ps.length : Int) := by omega
        have he : k = f.ps.length := by omega
        have hokk := HKF.out.driven HOK.out.right.toLaid k (by omega)
        have HRV : Hid (∀ W' : World, wr.heap.size ≤ W'.heap.size → (∀ j, j ≠ w.heap.size + 1 + 1 → W'.heap[j]? = wr.heap[j]?) → Below w.heap.size w W' → DrvYes (r.driven f f.ps.length) w (.returned (.tuple #[.agg #[.slice (some ⟨y1, 0, none⟩) f.ps.length z1, .slice (some ⟨y2, 0, none⟩) f.ps.length z2, .slice (some ⟨y3, 0, none⟩) f.ps.length z3], .int .i64 0])) W') := by
          show ∀ W' : World, _
          intro W' hs hbk hbel
          rw [← he]
          have l1 := hokk.fit.ws.len
          have l2 := hokk.fit.hs.len
          have l3 := hokk.fit.ts
          have d := HD.out
          refine ⟨_, rfl, ⟨_, _, _, z1, z2, z3, y1, y2, y3, by rw [l1, l2, l3, he], ⟨fun _ => ⟨rfl, by have := d.r1.lt; omega⟩, fun _ => ⟨rfl, by have := d.r2.lt; omega⟩, fun _ => ⟨rfl, by have := d.r3.lt; omega⟩,
            ZsAt.of_row (by rw [l1]; exact d.r1.of_block (hbk _ d.n1.2.1)), ZsAt.of_row (by rw [l2]; exact d.r2.of_block (hbk _ d.n2.2.1)), ZsAt.of_row (by rw [l3]; exact d.r3.of_block (hbk _ d.n3.2.1))⟩, ?_, ?_, ?_, d.n1.2.2.2, d.n2.2.2.2, d.n3.2.2.2⟩, hbel⟩
          · rw [l1]; exact k1
          · rw [l2]; exact k2
          · rw [l3]; exact k3
        have S0 : wr.cell? ⟨sb, 0, none⟩ = some (.slice (some ⟨y1, 0, none⟩) f.ps.length z1) := HD.out.S.cell 0
        have S1 : wr.cell? ⟨sb, 1, none⟩ = some (.slice (some ⟨y2, 0, none⟩) f.ps.length z2) := HD.out.S.cell 1
        have S2 : wr.cell? ⟨sb, 2, none⟩ = some (.slice (some ⟨y3, 0, none⟩) f.ps.length z3) := HD.out.S.cell 2
        have s0 : wr.cell? ⟨w.heap.size + 1 + 1, 0, none⟩ = some (.slice none 0 0) := HD.out.O.cell 0
        have s1 : wr.cell? ⟨w.heap.size + 1 + 1, 1, none⟩ = some (.slice none 0 0) := HD.out.O.cell 1
        have s2 : wr.cell? ⟨w.heap.size + 1 + 1, 2, none⟩ = some (.slice none 0 0) := HD.out.O.cell 2
        have t0 := HD.out.O.frozen 0
        have t1 := HD.out.O.frozen 1
        have t2 := HD.out.O.frozen 2
        have hzr := HD.out.O.lt
        have HBD := Lib.hid HD.out.B
        subst he
        clear hokk HD
        go_wp2_with fail
        have hfin := HRV.out (((wr.setCell ⟨w.heap.size + 1 + 1, 0, none⟩ (Value.slice (some ⟨y1, 0, none⟩) f.ps.length z1)).setCell ⟨w.heap.size + 1 + 1, 1, none⟩ (Value.slice (some ⟨y2, 0, none⟩) f.ps.length z2)).setCell ⟨w.heap.size + 1 + 1, 2, none⟩ (Value.slice (some ⟨y3, 0, none⟩) f.ps.length z3)) (by simp [World.setCell])
          (fun j hj => ((Below.heap_setCell _ _ _ _ (by simpa using hj)).trans ((Below.heap_setCell _ _ _ _ (by simpa using hj)).trans (Below.heap_setCell _ _ _ _ (by simpa using hj)))))
          (((HBD.out.setCell (p := ⟨w.heap.size + 1 + 1, 0, none⟩) (by show _ ≤ w.heap.size + 1 + 1; omega) _).setCell (p := ⟨w.heap.size + 1 + 1, 1, none⟩) (by show _ ≤ w.heap.size + 1 + 1; omega) _).setCell (p := ⟨w.heap.size + 1 + 1, 2, none⟩) (by show _ ≤ w.heap.size + 1 + 1; omega) _)
        exact bodyPost_ret (v := .tuple #[.agg #[.slice (some ⟨y1, 0, none⟩) f.ps.length z1, .slice (some ⟨y2, 0, none⟩) f.ps.length z2, .slice (some ⟨y3, 0, none⟩) f.ps.length z3], .int .i64 0]) (by simp [results, Try.results46, go_sem, s0, s1, s2, hzr]) rfl hfin
end Go.Proofs.Ytlfeoofchebbkaa
