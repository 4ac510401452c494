/- Begins, through: how long a chain ahead of a piece may be, and a chain that it is in. -/
import Derived.Test.YtlfeoofchebbkaaSwp
namespace Go.Proofs.Ytlfeoofchebbkaa
set_option linter.unusedSimpArgs false
set_option linter.unusedVariables false
open Go.RowKit
def BegPost (w : World) (D : Dir) (e : Ending) (w' : World) : Prop := ∃ g, e = .returned (.slice (some ⟨g, 0, none⟩) D.n D.n) ∧ w.heap.size ≤ g ∧ w'.rowIs g 3 D.n (fun j => .int .i64 (D.Hd j - D.s j)) ∧ Below w.heap.size w w'
theorem Usable.mirror {f : Forme} {zs : List Int} (h : Usable f zs) : Usable f.mirror zs := ⟨⟨by rw [h.z.len]; simp [Forme.mirror], h.z.lo⟩, h.b⟩
theorem Usable.swapK {f : Forme} {zs : List Int} (h : Usable f zs) : Usable f.swapK zs := ⟨⟨by rw [h.z.len]; simp [Forme.swapK], h.z.lo⟩, h.b⟩
set_option maxRecDepth 100000 in
set_option maxHeartbeats 2000000 in
theorem begins_any (f : Forme) (ws : List Int) (A A1 : Option Addr) (b off c b1 o1 c1 : Nat) (w : World) (hA : Lies A f.ps.length w.heap.size b off) (hps : PsAt w b off f.ps) (hf : f.Laid) (hz : Usable f ws) (hn : f.ps.length ≤ 1000)
    (hA1 : Lies A1 ws.length w.heap.size b1 o1) (hz1 : ZsAt w b1 o1 ws) :
    Calls Try.prog 133 #[.agg #[.int .i64 f.W, .int .i64 f.H, .slice A f.ps.length c], .slice A1 f.ps.length c1] w (BegPost w (across f ws)) := by
  have hml : f.mirror.ps.length = f.ps.length := by simp [Forme.mirror]
  have hDn : (across f ws).n = f.ps.length := hz.z.len
  have hwl : ws.length = f.ps.length := hz.z.len
  have HT : Hid (∀ i, i < f.ps.length → 0 ≤ (across f ws).Hd i ∧ (across f ws).Hd i ≤ 1000000000000 ∧ 1 ≤ gz ws i ∧ gz ws i ≤ 500000) := fun i hi => by
    have h1 := Dir.Hd_pos (across_wf hf hz.z) i (by omega)
    have h2 := across_T hf.mirror hz.mirror i (by show i < ws.length; omega)
    rw [← mir_eq] at h2
    have h3 := (across_wf hf hz.z).s1 i (by omega)
    have h4 := sz_le hz.b (by omega) i
    show _ ∧ _
    exact ⟨by omega, h2, h3, h4⟩
  have hcm := fun W (hW : Below w.heap.size w W) => mirrored_any f A b off c W (hA.mono hW.size) (fun j hj => (hps j hj).below hW (hA (by omega)).2) hf (by omega)
  have hcr := fun W A' b' c' (hW : Below w.heap.size w W) (hl : Lies A' f.mirror.ps.length W.heap.size b' 0) (hp : PsAt W b' 0 f.mirror.ps) => rests_any f.mirror ws A' A1 b' 0 c' b1 o1 c1 W hl hp hf.mirror hz.mirror (by rw [hml]; exact hn) (hA1.mono hW.size) (ZsAt.mono' hA1 hz1 hW)
  rw [← mir_eq, hml] at hcr
  have hmn : (across f ws).mir.n = f.ps.length := hDn
  have HMN := Lib.hid hmn
  have HM := Lib.hid hcm
  have HR := Lib.hid hcr
  have HZ : Hid (∀ W, Below w.heap.size w W → ∀ k, k < f.ps.length → A1 = some ⟨b1, o1, none⟩ ∧ W.cell? ⟨b1, o1 + k, none⟩ = some (.int .i64 (gz ws k))) := (show ∀ W, _ from fun W hW k hk => by
    exact ⟨(hA1 (by omega)).1, ZsAt.mono' hA1 hz1 hW k (by omega)⟩)
  have HML := Lib.hid hml
  clear hcm hcr hz1 hmn hml hz hps
  have HHd : Hid (∀ j, (across f ws).Hd j = (across f ws).mir.T j) := fun _ => rfl
  have HS : Hid (∀ j, (across f ws).s j = gz ws j) := fun _ => rfl
  generalize across f ws = D at *
  have HDN := Lib.hid hDn
  have HFW : Hid (f.mirror.W = f.W ∧ f.mirror.H = f.H) := (show _ ∧ _ from ⟨rfl, rfl⟩)
  clear hDn
  generalize hnn : f.ps.length = n at *
  have HN := Lib.hid hnn
  clear hnn hwl
  go_enter Try.func133, Try.ntmps133
  go_wp2_with fail
  refine (HM.out _ (below_new _ _)).mono ?_
  rintro e w1 ⟨v, rfl, ⟨A', b', c', rfl, k1, l1, p1, q1⟩, b1'⟩
  have HB1 := Lib.hid ((below_new w (Obj.cells #[Value.int IntKind.i64 f.W, Value.int IntKind.i64 f.H, Value.slice A n c] 37)).trans (b1'.mono (below_new w (Obj.cells #[Value.int IntKind.i64 f.W, Value.int IntKind.i64 f.H, Value.slice A n c] 37)).size))
  rw [HML.out] at l1
  have hc2 := HR.out w1 A' b' c' HB1.out l1 p1
  rw [HML.out, HFW.out.1, HFW.out.2]
  rw [HFW.out.1, HFW.out.2] at hc2
  clear k1 l1 p1 q1 b1'
  go_wp2_with fail
  refine hc2.mono ?_
  rintro e w2 ⟨g, rfl, hg, R2, b2⟩
  have HB2 := Lib.hid (HB1.out.trans (b2.mono HB1.out.size))
  rw [HMN.out] at R2
  have HR2 := Lib.hid R2
  rw [HMN.out]
  have hgw : w.heap.size ≤ g := Nat.le_trans HB1.out.size hg
  clear hc2 R2 b2 HB1 HM HR
  go_wp2_with fail
  go_loopg [6] n (fun gg s6 wr => ∃ k : Nat, k ≤ n ∧ n - k ≤ gg ∧ s6 = .int .i64 k ∧ Hid (wr.rowIs g 3 n (fun j => .int .i64 (if j < k then D.Hd j - D.s j else D.mir.T j))) ∧ Hid (w2.grownBy wr (some g)))
  case atStart => exact ⟨0, Nat.zero_le _, by omega, rfl, HR2.out, World.grownBy.refl _ _⟩
  case round =>
    obtain ⟨k, hk, hgk, rfl, R, G⟩ := hrel
    have HB3 := Lib.hid (HB2.out.trans (below_of_grown G.out hgw HB2.out.size))
    by_cases hlt : k < n
    · have hltz : (k : Int) < (n : Int) := by omega
      have hk0 : (0 : Int) ≤ (k : Int) := by omega
      have r1 : wr.cell? ⟨g, k, none⟩ = some (.int .i64 (D.mir.T k)) := by
        have := R.out.cell hlt; rw [if_neg (by omega)] at this; exact this
      have f1 := R.out.frozen k
      obtain ⟨rfl, r2⟩ := HZ.out wr HB3.out k hlt
      obtain ⟨t1, t2, t3, t4⟩ := HT.out k hlt
      rw [HHd.out k] at t1 t2
      have HE : Hid (∀ j, j = k → D.Hd j - D.s j = D.mir.T k - gz ws k) := fun j e => by rw [e, HHd.out k, HS.out k]
      generalize D.mir.T k = h at *
      generalize gz ws k = s at *
      have e1 : IntKind.i64.wrap (h - s) = h - s := IntWalk.i64_in _ (by omega)
      go_wp2_with fail
      go_still_tail 12, (by kernel_rfl)
      change wpList _ _ _ _ _ wr.drew
      go_wp2_with fail
      clear e1
      go_roundg (n - (k + 1))
      case measure => omega
      case rel =>
        refine ⟨k + 1, by omega, by omega, by go_num, ?_, grown_drew' (grown_setCell' G.out _ _)⟩
        have h5 := (R.out.set k (.int .i64 (h - s))).drew
        show World.rowIs _ _ _ _ _
        refine h5.congr fun j hj => ?_
        by_cases e : j = k
        · rw [if_pos e, if_pos (by omega), HE.out j e]
        · rw [if_neg e]
          by_cases e2 : j < k
          · rw [if_pos e2, if_pos (by omega)]
          · rw [if_neg e2, if_neg (by omega)]
    · have hltz : ¬ (k : Int) < (n : Int) := by omega
      have he : k = n := by omega
      have RR := Lib.hid (R.out.congr (g := fun j => .int .i64 (D.Hd j - D.s j)) fun j hj => by rw [if_pos (by omega)])
      have HF : Hid (BegPost w D (.returned (.slice (some ⟨g, 0, none⟩) n n)) wr) := ⟨g, by rw [HDN.out], hgw, by rw [HDN.out]; exact RR.out, HB3.out⟩
      clear R
      go_wp2_with fail
      go_ret
      exact HF.out
def ThruPost (w : World) (D : Dir) (e : Ending) (w' : World) : Prop := ∃ g, e = .returned (.slice (some ⟨g, 0, none⟩) D.n D.n) ∧ w.heap.size ≤ g ∧ w'.rowIs g 3 D.n (fun j => .int .i64 (D.thr j)) ∧ Below w.heap.size w w'
set_option maxRecDepth 100000 in
set_option maxHeartbeats 2000000 in
theorem thru_any (f : Forme) (ws : List Int) (A A1 : Option Addr) (b off c b1 o1 c1 : Nat) (w : World) (hA : Lies A f.ps.length w.heap.size b off) (hps : PsAt w b off f.ps) (hf : f.Laid) (hz : Usable f ws) (hn : f.ps.length ≤ 1000)
    (hA1 : Lies A1 ws.length w.heap.size b1 o1) (hz1 : ZsAt w b1 o1 ws) :
    Calls Try.prog 94 #[.agg #[.int .i64 f.W, .int .i64 f.H, .slice A f.ps.length c], .slice A1 f.ps.length c1] w (ThruPost w (across f ws)) := by
  have hDn : (across f ws).n = f.ps.length := hz.z.len
  have hwl : ws.length = f.ps.length := hz.z.len
  have HT : Hid (∀ i, i < f.ps.length → 0 ≤ (across f ws).Hd i - (across f ws).s i ∧ (across f ws).Hd i - (across f ws).s i ≤ 1000000000000 ∧ 0 ≤ (across f ws).T i ∧ (across f ws).T i ≤ 1000000000000) := fun i hi => by
    have h1 := Dir.Hd_pos (across_wf hf hz.z) i (by omega)
    have h2 := across_T hf.mirror hz.mirror i (by show i < ws.length; omega)
    rw [← mir_eq] at h2
    have h3 := (across_wf hf hz.z).s1 i (by omega)
    have h4 := across_T hf hz i (by omega)
    have h5 := Dir.T_pos (across_wf hf hz.z) i (by omega)
    have h6 : (across f ws).Hd i = (across f ws).mir.T i := rfl
    show _ ∧ _
    omega
  have hcb := fun W (hW : Below w.heap.size w W) => begins_any f ws A A1 b off c b1 o1 c1 W (hA.mono hW.size) (fun j hj => (hps j hj).below hW (hA (by omega)).2) hf hz hn (hA1.mono hW.size) (ZsAt.mono' hA1 hz1 hW)
  have hcr := fun W (hW : Below w.heap.size w W) => rests_any f ws A A1 b off c b1 o1 c1 W (hA.mono hW.size) (fun j hj => (hps j hj).below hW (hA (by omega)).2) hf hz hn (hA1.mono hW.size) (ZsAt.mono' hA1 hz1 hW)
  clear hA hps hf hz hA1 hz1
  have HTH : Hid (∀ j, (across f ws).thr j = (across f ws).Hd j - (across f ws).s j + (across f ws).T j) := fun j => by show (across f ws).Hd j + ((across f ws).T j - (across f ws).s j) = _; omega
  generalize across f ws = D at *
  have HDN := Lib.hid hDn
  clear hDn
  generalize hnn : f.ps.length = n at *
  clear hnn hwl
  go_enter Try.func94, Try.ntmps94
  go_wp2_with fail
  have hB0 := below_new w (Obj.cells #[Value.int IntKind.i64 f.W, Value.int IntKind.i64 f.H, Value.slice A n c] 37)
  have hF0 := Blk.new w 37 #[Value.int IntKind.i64 f.W, Value.int IntKind.i64 f.H, Value.slice A n c]
  generalize w.alloc (Obj.cells #[Value.int IntKind.i64 f.W, Value.int IntKind.i64 f.H, Value.slice A n c] 37) = W0 at *
  have hz0 := hF0.lt
  have HCB : Hid (∀ W, Below W0.heap.size W0 W → Calls Try.prog 133 #[.agg #[.int .i64 f.W, .int .i64 f.H, .slice A n c], .slice A1 n c1] W (BegPost W D)) := fun W hW => hcb W (hB0.trans (hW.mono hB0.size))
  have HCR : Hid (∀ W, Below W0.heap.size W0 W → Calls Try.prog 90 #[.agg #[.int .i64 f.W, .int .i64 f.H, .slice A n c], .slice A1 n c1] W (RestsPost W D)) := fun W hW => hcr W (hB0.trans (hW.mono hB0.size))
  clear hcb hcr
  have HK : Hid (∀ W, Below W0.heap.size W0 W → (W.cell? ⟨w.heap.size, 0, none⟩ = some (.int .i64 f.W) ∧ W.cell? ⟨w.heap.size, 1, none⟩ = some (.int .i64 f.H) ∧ W.cell? ⟨w.heap.size, 2, none⟩ = some (.slice A n c))) := (show ∀ W, _ from fun W hW => by
    have hx := hF0.below hW hz0
    exact ⟨hx.cell 0, hx.cell 1, hx.cell 2⟩)
  have HB0 := Lib.hid hB0
  have hS0 := HK.out W0.drew ((Below.refl _ _).drew)
  clear hB0 hF0
  have h0 : Below W0.heap.size W0 W0.drew := (Below.refl _ _).drew
  have H0 := Lib.hid h0
  clear h0
  go_region_held3 (fun W => (W.cell? ⟨w.heap.size, 0, none⟩ = some (.int .i64 f.W) ∧ W.cell? ⟨w.heap.size, 1, none⟩ = some (.int .i64 f.H) ∧ W.cell? ⟨w.heap.size, 2, none⟩ = some (.slice A n c)))
    (first
      | exact hS0
      | exact HK.out _ hb5
      | exact HK.out _ hb4
      | go_keep)
    (first
      | (go_at_call 133; (with_reducible refine (HCB.out _ H0.out).mono ?_); rintro e w4 ⟨ga, rfl, hga, RA, hb4'⟩; have hb4 : Below W0.heap.size W0 w4 := H0.out.trans hb4')
      | (go_at_call 90; (with_reducible refine (HCR.out _ hb4).mono ?_); rintro e w5 ⟨gb, rfl, hgb, RB, hb5'⟩; have hb5 : Below W0.heap.size W0 w5 := hb4.trans (hb5'.mono hb4.size)))
  have hga' : W0.heap.size ≤ ga := hga
  have hgla := RA.lt
  have hne : ga ≠ gb := by omega
  rw [HDN.out] at RA RB
  have HRA := Lib.hid (RA.of_block (hb5'.block ga hgla))
  have HRB := Lib.hid RB
  have HB5 := Lib.hid (HB0.out.trans (hb5.mono HB0.out.size))
  have hgw : w.heap.size ≤ ga := Nat.le_trans HB0.out.size hga'
  rw [HDN.out]
  clear RA RB hb4 hb4' hb5 hb5' hga hgb HCB HCR HK hS0 H0 HB0
  go_wp2_with fail
  go_loopg [7] n (fun gg s7 wr => ∃ k : Nat, k ≤ n ∧ n - k ≤ gg ∧ s7 = .int .i64 k ∧ Hid (wr.rowIs ga 3 n (fun j => .int .i64 (if j < k then D.thr j else D.Hd j - D.s j))) ∧ Hid (w5.grownBy wr (some ga)))
  case atStart => exact ⟨0, Nat.zero_le _, by omega, rfl, HRA.out, World.grownBy.refl _ _⟩
  case round =>
    obtain ⟨k, hk, hgk, rfl, R, G⟩ := hrel
    by_cases hlt : k < n
    · have hltz : (k : Int) < (n : Int) := by omega
      have hk0 : (0 : Int) ≤ (k : Int) := by omega
      have r1 : wr.cell? ⟨ga, k, none⟩ = some (.int .i64 (D.Hd k - D.s k)) := by
        have := R.out.cell hlt; rw [if_neg (by omega)] at this; exact this
      have f1 := R.out.frozen k
      have r2 := (HRB.out.of_block (G.out.block gb HRB.out.lt (by simp; omega))).cell hlt
      obtain ⟨t1, t2, t3, t4⟩ := HT.out k hlt
      have HE : Hid (∀ j, j = k → D.thr j = D.Hd k - D.s k + D.T k) := fun j e => by rw [e, HTH.out k]
      generalize D.Hd k - D.s k = h at *
      generalize D.T k = s at *
      have e1 : IntKind.i64.wrap (h + s) = h + s := IntWalk.i64_in _ (by omega)
      go_wp2_with fail
      go_still_tail 12, (by kernel_rfl)
      change wpList _ _ _ _ _ wr.drew
      go_wp2_with fail
      clear e1
      go_roundg (n - (k + 1))
      case measure => omega
      case rel =>
        refine ⟨k + 1, by omega, by omega, by go_num, ?_, grown_drew' (grown_setCell' G.out _ _)⟩
        have h5 := (R.out.set k (.int .i64 (h + s))).drew
        show World.rowIs _ _ _ _ _
        refine h5.congr fun j hj => ?_
        by_cases e : j = k
        · rw [if_pos e, if_pos (by omega), HE.out j e]
        · rw [if_neg e]
          by_cases e2 : j < k
          · rw [if_pos e2, if_pos (by omega)]
          · rw [if_neg e2, if_neg (by omega)]
    · have hltz : ¬ (k : Int) < (n : Int) := by omega
      have he : k = n := by omega
      have RR := Lib.hid (R.out.congr (g := fun j => .int .i64 (D.thr j)) fun j hj => by rw [if_pos (by omega)])
      have HF : Hid (ThruPost w D (.returned (.slice (some ⟨ga, 0, none⟩) n n)) wr) := ⟨ga, by rw [HDN.out], hgw, by rw [HDN.out]; exact RR.out, HB5.out.trans (below_of_grown G.out hgw HB5.out.size)⟩
      clear R
      go_wp2_with fail
      go_ret
      exact HF.out
end Go.Proofs.Ytlfeoofchebbkaa
