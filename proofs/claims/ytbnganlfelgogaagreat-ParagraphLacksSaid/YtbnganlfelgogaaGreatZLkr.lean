/- Plain: the first word and sort of which a case has no more. -/
import Derived.Test.YtbnganlfelgogaaGreatZSal
import Derived.Test.YtbnganlfelgogaaGreatZLwa
import Derived.Test.YtbnganlfelgogaaGreatZFcs
import Derived.Test.YtbnganlfelgogaaGreatZFtk
set_option linter.unusedSimpArgs false
set_option linter.unusedVariables false
namespace Go.Proofs.YtbnganlfelgogaaGreat
def lftW (cs : List Int) (ws : List PWord) : Nat → List Int
 | 0 => cs
 | i + 1 => decK (lftW cs ws i) (gw ws i).sorts (gw ws i).sorts.length
def lft (cs : List Int) (ws : List PWord) (i k : Nat) : List Int := decK (lftW cs ws i) (gw ws i).sorts k
theorem lft_zero (cs : List Int) (ws : List PWord) (i : Nat) : lft cs ws i 0 = lftW cs ws i := rfl
theorem lft_end (cs : List Int) (ws : List PWord) (i : Nat) : lft cs ws i (gw ws i).sorts.length = lftW cs ws (i + 1) := rfl
theorem lft_succ (cs : List Int) (ws : List PWord) (i k : Nat) : lft cs ws i (k + 1) = (lft cs ws i k).set (gz (gw ws i).sorts k).toNat (gz (lft cs ws i k) (gz (gw ws i).sorts k).toNat - 1) := rfl
def lkB (cs : List Int) (ws : List PWord) (i k : Nat) : Bool := gz (lft cs ws i k) (gz (gw ws i).sorts k).toNat == 0
def Val2 (ws : List PWord) (i k : Nat) : Prop := i < ws.length ∧ k < (gw ws i).sorts.length
def LkNo (cs : List Int) (ws : List PWord) (i k : Nat) : Prop := ∀ i' k', Val2 ws i' k' → i' < i ∨ (i' = i ∧ k' < k) → lkB cs ws i' k' = false
def LkAns (cs : List Int) (ws : List PWord) : Option (Int × Int) → Prop
 | none => LkNo cs ws ws.length 0
 | some p => ∃ i k, Val2 ws i k ∧ p = ((i : Int), gz (gw ws i).sorts k) ∧ lkB cs ws i k = true ∧ LkNo cs ws i k
theorem LkAns.uniq {cs : List Int} {ws : List PWord} {a b : Option (Int × Int)} (ha : LkAns cs ws a) (hb : LkAns cs ws b) : a = b := by
 cases a with
 | none =>
  cases b with
  | none => rfl
  | some q =>
   obtain ⟨i, k, h1, -, h3, -⟩ := hb
   have := ha i k h1 (.inl h1.1)
   rw [h3] at this; cases this
 | some p =>
  obtain ⟨i, k, h1, h2, h3, h4⟩ := ha
  cases b with
  | none =>
   have := hb i k h1 (.inl h1.1)
   rw [h3] at this; cases this
  | some q =>
   obtain ⟨i', k', g1, g2, g3, g4⟩ := hb
   have e : i = i' ∧ k = k' := by
    rcases Nat.lt_trichotomy i i' with h | h | h
    · have := g4 i k h1 (.inl h); rw [h3] at this; cases this
    · subst h
      rcases Nat.lt_trichotomy k k' with h | h | h
      · have := g4 i k h1 (.inr ⟨rfl, h⟩); rw [h3] at this; cases this
      · exact ⟨rfl, h⟩
      · have := h4 i k' g1 (.inr ⟨rfl, h⟩); rw [g3] at this; cases this
    · have := h4 i' k' g1 (.inl h); rw [g3] at this; cases this
   obtain ⟨rfl, rfl⟩ := e
   rw [h2, g2]
theorem LkNo.zero (cs : List Int) (ws : List PWord) : LkNo cs ws 0 0 := fun i' k' _ h => by omega
theorem LkNo.step {cs : List Int} {ws : List PWord} {i k : Nat} (h : LkNo cs ws i k) (h0 : lkB cs ws i k = false) : LkNo cs ws i (k + 1) := fun i' k' hv hl => by
 by_cases e : i' = i ∧ k' = k
 · obtain ⟨rfl, rfl⟩ := e; exact h0
 · exact h i' k' hv (by omega)
theorem LkNo.next {cs : List Int} {ws : List PWord} {i : Nat} (h : LkNo cs ws i (gw ws i).sorts.length) : LkNo cs ws (i + 1) 0 := fun i' k' hv hl => by
 by_cases e : i' < i
 · exact h i' k' hv (.inl e)
 · obtain rfl : i' = i := by omega
   exact h i' k' hv (.inr ⟨rfl, hv.2⟩)
theorem lftW_ok {n : Nat} {cs : List Int} {ws : List PWord} (hl : cs.length = n) (hb : ∀ i, i < n → 0 ≤ gz cs i ∧ gz cs i ≤ 1000000) (hw : WsOk n ws) : ∀ i, i ≤ ws.length → (lftW cs ws i).length = n ∧ ∀ q, q < n → -(60 * (i : Int)) ≤ gz (lftW cs ws i) q ∧ gz (lftW cs ws i) q ≤ 1000000
 | 0, _ => ⟨hl, fun q hq => by have := hb q hq; show -(60 * (0 : Int)) ≤ gz cs q ∧ gz cs q ≤ 1000000; omega⟩
 | i + 1, h => by
  obtain ⟨h1, h2⟩ := lftW_ok hl hb hw i (by omega)
  have hwo := hw i (by omega)
  obtain ⟨h3, h4⟩ := decK_ok (zs := (gw ws i).sorts) h1 h2 (fun j hj => hwo.st j hj) (gw ws i).sorts.length (Nat.le_refl _)
  have hm := hwo.most
  refine ⟨h3, fun q hq => ?_⟩
  have := h4 q hq
  show _ ≤ gz (decK _ _ _) q ∧ gz (decK _ _ _) q ≤ _
  omega
theorem lft_ok {n : Nat} {cs : List Int} {ws : List PWord} (hl : cs.length = n) (hb : ∀ i, i < n → 0 ≤ gz cs i ∧ gz cs i ≤ 1000000) (hw : WsOk n ws) {i : Nat} (hi : i < ws.length) {k : Nat} (hk : k ≤ (gw ws i).sorts.length) : (lft cs ws i k).length = n ∧ ∀ q, q < n → -(60 * (i : Int)) - 60 ≤ gz (lft cs ws i k) q ∧ gz (lft cs ws i k) q ≤ 1000000 := by
 obtain ⟨h1, h2⟩ := lftW_ok hl hb hw i (by omega)
 have hwo := hw i hi
 obtain ⟨h3, h4⟩ := decK_ok (zs := (gw ws i).sorts) h1 h2 (fun j hj => hwo.st j hj) k hk
 have hm := hwo.most
 refine ⟨h3, fun q hq => ?_⟩
 have := h4 q hq
 show _ ≤ gz (decK _ _ _) q ∧ gz (decK _ _ _) q ≤ _
 omega
end Go.Proofs.YtbnganlfelgogaaGreat
namespace Go.Proofs.YtbnganlfelgogaaGreat
open Go.RowKit
def lkErr (f : Fnt) (cs : List Int) (ws : List PWord) : Int := if caErr f cs ≠ 0 then caErr f cs else (wsErr f ws).2
def lkV (a : Option (Int × Int)) : Array Value := match a with
 | none => #[.int .i64 0, .int .i64 0]
 | some p => #[.int .i64 p.1, .int .i64 p.2]
def LkPost (f : Fnt) (cs : List Int) (ws : List PWord) (w : World) (e : Ending) (w' : World) : Prop :=
 Below w.heap.size w w' ∧ ((lkErr f cs ws ≠ 0 ∧ e = .returned (.tuple #[.agg #[.int .i64 0, .int .i64 0], .int .i64 (lkErr f cs ws)])) ∨
  (lkErr f cs ws = 0 ∧ ∃ a, LkAns cs ws a ∧ e = .returned (.tuple #[.agg (lkV a), .int .i64 (if a.isSome = true then 0 else 12)])))
theorem info70 : (Tryz.prog.info? 70).map (·.size) = some 2 := by kernel_rfl
theorem ca_ok2 {f : Fnt} {cs : List Int} (h : caErr f cs = 0) : CsOk f.sorts.length cs := by
 unfold caErr at h
 by_cases h1 : (fnErr f).2 ≠ 0
 · rw [if_pos h1] at h; exact absurd h h1
 · rw [if_neg h1] at h; exact cnt_ok h
theorem lk_res {W : World} {bR : Nat} {cs : Array Value} (hg : Blk W bR 70 cs) (hs : cs.size = 2) (tmps : Array Value) (hp : tmps.getD 6 undef = .pointer (some ⟨bR, 0, none⟩)) :
 (results Tryz.f41 tmps).run Tryz.prog W = .ok (.tuple #[.agg cs, tmps.getD 7 undef]) W := by
 have h : Tryz.f41.results = #[.cell 6 70, .tmp 7] := rfl
 have hi : (Tryz.prog.info? 70).map (·.size) = some cs.size := by rw [info70, hs]
 have hp' : tmps[6]?.getD undef = .pointer (some ⟨bR, 0, none⟩) := by simpa using hp
 simp only [results, h]
 simp [Sem.run_bind, Result.andThen, hp', asAddr, run_loadVar_row W bR 70 70 cs (0, 0) _ hg Tryz.underlying70 rfl hi]
structure LkS (w W : World) (D : Nat) (cs : List Int) (ws : List PWord) (vl : Value) (i k : Nat) : Prop where
 B : Below w.heap.size w W
 R : Blk W (w.heap.size + 1) 70 #[.int .i64 0, .int .i64 0]
 L : IO W D (lft cs ws i k) vl
 N : LkNo cs ws i k
theorem LkS.below {w W W' : World} {D : Nat} {cs : List Int} {ws : List PWord} {vl : Value} {i k : Nat} (h : LkS w W D cs ws vl i k) (hb : Below W.heap.size W W') : LkS w W' D cs ws vl i k :=
 ⟨h.B.trans (hb.mono h.B.size), h.R.below hb h.R.lt, h.L.below hb, h.N⟩
set_option maxRecDepth 100000 in
set_option maxHeartbeats 8000000 in
theorem lacks_any (f : Fnt) (v : Value) (cs : List Int) (vc : Value) (ws : List PWord) (vw : Value) (w : World) (hv : SoV w f.sorts v) (hn : f.name.size ≤ 9223372036854775807) (hc : IV w cs vc) (hw : WoV w ws vw) (hcm : cs.length ≤ 1000000) :
 Calls Tryz.prog 41 #[.agg (fcs f v), vc, vw] w (LkPost f cs ws w) := by
 have b1 := below_new w (.cells (fcs f v) 24)
 have b2 := below_new (w.alloc (.cells (fcs f v) 24)) (.cells #[.int .i64 0, .int .i64 0] 70)
 have hb0 := b1.trans (b2.mono (by simp))
 have hF0 := (Blk.new w 24 (fcs f v)).below b2 (by simp)
 have hR0 := Blk.new (w.alloc (.cells (fcs f v) 24)) 70 #[.int .i64 0, .int .i64 0]
 rw [World.size_alloc] at hR0
 have HV := Lib.hid hv
 have HW := Lib.hid hw
 have HC := Lib.hid hc
 obtain ⟨A, c, rfl⟩ := hv.shape
 obtain ⟨Aw, cw, rfl, -⟩ := hw.shape
 obtain ⟨Ac, bc, oc, cc, rfl, -, -, -, -⟩ := hc.open
 have HB0 := Lib.hid hb0
 have HF0 := Lib.hid hF0
 have HR0 := Lib.hid hR0
 have HE : Hid (lkErr f cs ws = if caErr f cs ≠ 0 then caErr f cs else (wsErr f ws).2) := rfl
 have HPE : Hid (∀ W x, x = lkErr f cs ws → x ≠ 0 → Below w.heap.size w W → LkPost f cs ws w (.returned (.tuple #[.agg #[.int .i64 0, .int .i64 0], .int .i64 x])) W) := (show ∀ W x, _ from fun W x e h0 h => ⟨h, .inl ⟨by rw [← e]; exact h0, by rw [e]⟩⟩)
 have HPN : Hid (∀ W, lkErr f cs ws = 0 → LkAns cs ws none → Below w.heap.size w W → LkPost f cs ws w (.returned (.tuple #[.agg #[.int .i64 0, .int .i64 0], .int .i64 12])) W) := (show ∀ W, _ from fun W h0 h1 h => ⟨h, .inr ⟨h0, none, h1, rfl⟩⟩)
 have HPS : Hid (∀ W (x y : Int), lkErr f cs ws = 0 → LkAns cs ws (some (x, y)) → Below w.heap.size w W → LkPost f cs ws w (.returned (.tuple #[.agg #[.int .i64 x, .int .i64 y], .int .i64 0])) W) := (show ∀ W x y, _ from fun W x y h0 h1 h => ⟨h, .inr ⟨h0, some (x, y), h1, rfl⟩⟩)
 clear hv hw hc b1 b2 hb0 hF0 hR0
 go_enter Tryz.func41, Tryz.ntmps41
 go_upto_region 1 with fail
 generalize ((w.alloc (.cells (fcs f (.slice A f.sorts.length c)) 24)).alloc (.cells #[.int .i64 0, .int .i64 0] 70)) = W0 at *
 have f0 := HF0.out.cell 0
 have f1 := HF0.out.cell 1
 have f2 := HF0.out.cell 2
 have fl := HF0.out.lt
 go_wp2_with fail
 refine (checkCase_any f _ cs _ W0 (HV.out.below HB0.out) hn (HC.out.below HB0.out)).mono ?_
 rintro e W1 ⟨rfl, hb1⟩
 have HB1 := Lib.hid (HB0.out.trans (hb1.mono HB0.out.size))
 have HF1 := Lib.hid (HF0.out.below hb1 HF0.out.lt)
 have HR1 := Lib.hid (HR0.out.below hb1 HR0.out.lt)
 clear hb1 f0 f1 f2 fl HB0 HF0 HR0
 obtain ⟨ce, hce⟩ : ∃ x, caErr f cs = x := ⟨_, rfl⟩
 rw [hce] at HE ⊢
 by_cases hc0 : ce = 0
 · subst hc0
   have HCA := Lib.hid hce
   have HE2 : Hid (lkErr f cs ws = (wsErr f ws).2) := by show _ = _; rw [HE.out, if_neg (fun h => h rfl)]
   clear hce HE
   have f0 := HF1.out.cell 0
   have f1 := HF1.out.cell 1
   have f2 := HF1.out.cell 2
   have fl := HF1.out.lt
   go_wp2_with fail
   refine (checkWords_any f _ ws _ W1 (HV.out.below HB1.out) hn (HW.out.below HB1.out)).mono ?_
   rintro e W2 ⟨rfl, hb2⟩
   have HB2 := Lib.hid (HB1.out.trans (hb2.mono HB1.out.size))
   have HR2 := Lib.hid (HR1.out.below hb2 HR1.out.lt)
   clear hb2 f0 f1 f2 fl HB1 HF1 HR1
   have HWO : Hid ((wsErr f ws).2 = 0 → WsOk f.sorts.length ws ∧ ws.length ≤ 200) := (show _ → _ from fun h => ⟨(wsErr_ok h).2.1, (wsErr_ok h).2.2.2.1⟩)
   generalize wsErr f ws = we at *
   obtain ⟨we1, we2⟩ := we
   by_cases hw0 : we2 = 0
   · subst hw0
     have hwo := HWO.out rfl
     have HWK := Lib.hid hwo.1
     have hn2 := hwo.2
     have hca := ca_ok2 HCA.out
     have HLO := Lib.hid (fun i (hi : i < ws.length) k (hk : k ≤ (gw ws i).sorts.length) => lft_ok hca.1 hca.2 HWK.out hi hk)
     have HE0 : Hid (lkErr f cs ws = 0) := HE2.out
     have HCL := Lib.hid (cloneV cs _ W2 (HC.out.below HB2.out) hcm)
     have HCL0 : Hid (cs.length = f.sorts.length) := hca.1
     clear hwo HWO HE2 hca
     go_wp2_with fail
     refine HCL.out.mono ?_
     rintro e W3 ⟨vl, rfl, hio, hb3⟩
     obtain ⟨Al, cl, rfl⟩ := hio.shape
     have hsz2 := HB2.out.size
     have hr2 := HR2.out.lt
     have HS0 : Hid (LkS w W3 W2.heap.size cs ws (.slice Al cs.length cl) 0 0) := ⟨HB2.out.trans (hb3.mono HB2.out.size), HR2.out.below hb3 HR2.out.lt, hio, LkNo.zero cs ws⟩
     clear hio hb3 HCL HB2 HR2
     generalize W2.heap.size = B at *
     go_wp2_with fail
     go_loopg [12, 13, 15, 37] ws.length (fun gg _ _ _ s37 wr => ∃ i : Nat, i ≤ ws.length ∧ ws.length - i ≤ gg ∧ s37 = .int .i64 (i : Int) ∧ Hid (LkS w wr B cs ws (.slice Al cs.length cl) i 0))
     case atStart => exact ⟨0, by omega, by omega, rfl, HS0.out⟩
     case round =>
      obtain ⟨i, hi, hg, rfl, HS⟩ := hrel
      by_cases hlt : i < ws.length
      · have hltz : (i : Int) < (ws.length : Int) := by omega
        obtain ⟨wb, wo, A1, c1, A2, c2, he, hwb0, u0, u1, i1, -, -, -, l1, -⟩ := HW.out.at (k := i) hlt
        subst he
        have HI1 := Lib.hid i1
        have z0 := (HS.out.B.cell (p := ⟨wb, wo + i * 2, none⟩) hwb0).trans u0
        have z1 := (HS.out.B.cell (p := ⟨wb, wo + i * 2 + 1, none⟩) hwb0).trans u1
        have hwb : wb < wr.heap.size := Nat.lt_of_lt_of_le hwb0 HS.out.B.size
        have HLO1 := Lib.hid (HLO.out i hlt)
        have HWI := Lib.hid (HWK.out i hlt)
        have hlen := HWI.out.most
        have HNN : Hid ((gw ws i).sorts.length = (gw ws i).sorts.length) := rfl
        obtain ⟨n1, hn1⟩ : ∃ x, (gw ws i).sorts.length = x := ⟨_, rfl⟩
        rw [hn1] at z0 hlen
        have HN1 := Lib.hid hn1
        clear i1 u0 u1 hn1 HNN
        obtain ⟨wo0, hwo0⟩ : ∃ x, x = wr := ⟨_, rfl⟩
        subst hwo0
        have HS1 := Lib.hid (HS.out.below (below_new wo0 (.cells #[.slice A1 n1 c1, .slice A2 (gw ws i).breaks.length c2] 40)))
        go_wp2_with fail
        go_loopg [15, 45] n1 (fun gg _ s45 wr => ∃ k : Nat, k ≤ n1 ∧ n1 - k ≤ gg ∧ s45 = .int .i64 (k : Int) ∧ Hid (LkS w wr B cs ws (.slice Al cs.length cl) i k))
        case atStart => exact ⟨0, by omega, by omega, rfl, HS1.out⟩
        case round =>
         obtain ⟨k, hk, hg2, rfl, HT⟩ := hrel
         by_cases hlt2 : k < n1
         · have hltz2 : (k : Int) < (n1 : Int) := by omega
           have hks : k < (gw ws i).sorts.length := by rw [HN1.out]; exact hlt2
           have J1 := HI1.out
           obtain ⟨sb, so, hA1, hsb0, y0⟩ := J1.at hks
           subst hA1
           have y1 := (HT.out.B.cell (p := ⟨sb, so + k, none⟩) hsb0).trans y0
           have hsb : sb < wr.heap.size := Nat.lt_of_lt_of_le hsb0 HT.out.B.size
           have hst := HWI.out.st k hks
           obtain ⟨hl1, hl2⟩ := HLO1.out k (by omega)
           have HLS := Lib.hid (lft_succ cs ws i k)
           have HLB : Hid (lkB cs ws i k = (gz (lft cs ws i k) (gz (gw ws i).sorts k).toNat == 0)) := rfl
           have HVL : Hid (Val2 ws i k) := ⟨hlt, hks⟩
           have HAS : Hid (lkB cs ws i k = true → LkAns cs ws (some ((i : Int), gz (gw ws i).sorts k))) := (show _ → _ from fun h => ⟨i, k, HVL.out, rfl, h, HT.out.N⟩)
           generalize gz (gw ws i).sorts k = sv at *
           obtain ⟨q, rfl⟩ := Int.eq_ofNat_of_zero_le hst.1
           rw [show ((q : Nat) : Int).toNat = q from Int.toNat_natCast q] at HLS HLB
           have hq : q < f.sorts.length := by omega
           obtain ⟨g, hAl, hgB, hgl, x0, x1, HXS⟩ := HT.out.L.at (i := q) (by omega)
           subst hAl
           have HX2 := Lib.hid HXS
           have hqb := hl2 q hq
           have hcl : q < cs.length := by rw [HCL0.out]; exact hq
           clear HXS J1 y0 hks hst hl1 hl2 HVL
           have hqz : (q : Int) < (cs.length : Int) := by omega
           by_cases h0 : gz (lft cs ws i k) q = 0
           · have HA := Lib.hid (HAS.out (by rw [HLB.out, h0]; rfl))
             have h0b : (gz (lft cs ws i k) q == 0) = true := by rw [h0]; rfl
             clear h0
             generalize gz (lft cs ws i k) q = xv at *
             have q0 := HT.out.R.cell 0
             have q1 := HT.out.R.cell 1
             have ql := HT.out.R.lt
             have qz := Blk.frozen HT.out.R 0
             have qy := Blk.frozen HT.out.R 1
             go_wp2_with fail
             refine bodyPost_ret (lk_res (HT.out.R.two _ _) rfl _ rfl) rfl ?_
             exact HPS.out _ _ _ HE0.out HA.out (below_two HT.out.B (by omega) _ _)
           · have h0b : (gz (lft cs ws i k) q == 0) = false := by simp [h0]
             have HFB : Hid (lkB cs ws i k = false) := by show _ = _; rw [HLB.out, h0b]
             clear h0
             generalize hxv : gz (lft cs ws i k) q = xv at *
             have HXV := Lib.hid hxv
             clear hxv
             have HTN : Hid (LkS w (wr.setCell ⟨g, q, none⟩ (.int .i64 (xv - 1))) B cs ws (.slice (some ⟨g, 0, none⟩) cs.length cl) i (k + 1)) :=
              ⟨HT.out.B.setCell (by show w.heap.size ≤ g; omega) _, (Below.heap_setCell _ _ _ _ (by show _ ≠ g; omega)).trans HT.out.R, by show IO _ _ _ _; rw [HLS.out]; exact HX2.out (xv - 1), HT.out.N.step HFB.out⟩
             go_wp2_with fail
             go_roundg (n1 - (k + 1))
             case measure => omega
             case rel => exact ⟨k + 1, by omega, by omega, by go_num, HTN.out⟩
         · have hltz2 : ¬ (k : Int) < (n1 : Int) := by omega
           have hkn : k = n1 := by omega
           have HSN : Hid (LkS w wr B cs ws (.slice Al cs.length cl) (i + 1) 0) := by
            have h := HT.out
            have e : lft cs ws i k = lftW cs ws (i + 1) := by rw [hkn, ← HN1.out]; exact lft_end cs ws i
            exact ⟨h.B, h.R, by rw [lft_zero, ← e]; exact h.L, LkNo.next (by rw [HN1.out, ← hkn]; exact h.N)⟩
           clear hkn hlt2 hk hg2 HT
           go_wp2_with fail
           go_roundg (ws.length - (i + 1))
           case measure => omega
           case rel => exact ⟨i + 1, by omega, by omega, by go_num, HSN.out⟩
      · have hltz : ¬ (i : Int) < (ws.length : Int) := by omega
        have hin : i = ws.length := by omega
        have HAN : Hid (LkAns cs ws none) := (show LkNo cs ws ws.length 0 from hin ▸ HS.out.N)
        have q0 := HS.out.R.cell 0
        have q1 := HS.out.R.cell 1
        have ql := HS.out.R.lt
        have qz := Blk.frozen HS.out.R 0
        have qy := Blk.frozen HS.out.R 1
        clear hin hlt
        go_wp2_with fail
        refine bodyPost_ret (lk_res (HS.out.R.two _ _) rfl _ rfl) rfl ?_
        exact HPN.out _ HE0.out HAN.out (below_two HS.out.B (by omega) _ _)
   · have hwb := bne_t hw0
     have HW0 := Lib.hid hw0
     have HE3 : Hid (we2 = lkErr f cs ws) := HE2.out.symm
     have q0 := HR2.out.cell 0
     have q1 := HR2.out.cell 1
     have ql := HR2.out.lt
     have qz := Blk.frozen HR2.out 0
     have qy := Blk.frozen HR2.out 1
     clear hw0 HWO HE2
     go_wp2_with fail
     refine bodyPost_ret (lk_res (HR2.out.two _ _) rfl _ rfl) rfl ?_
     exact HPE.out _ _ HE3.out HW0.out (below_two HB2.out (by omega) _ _)
 · have hcb := bne_t hc0
   have HC0 := Lib.hid hc0
   have HE3 : Hid (ce = lkErr f cs ws) := by show _ = _; rw [HE.out, if_pos hc0]
   have q0 := HR1.out.cell 0
   have q1 := HR1.out.cell 1
   have ql := HR1.out.lt
   have qz := Blk.frozen HR1.out 0
   have qy := Blk.frozen HR1.out 1
   clear hc0 hce HE
   go_wp2_with fail
   refine bodyPost_ret (lk_res (HR1.out.two _ _) rfl _ rfl) rfl ?_
   exact HPE.out _ _ HE3.out HC0.out (below_two HB1.out (by omega) _ _)
end Go.Proofs.YtbnganlfelgogaaGreat
namespace Go.Proofs.YtbnganlfelgogaaGreat
open Go.RowKit
def LkrPost (cs : List Int) (ws : List PWord) (w : World) (e : Ending) (w' : World) : Prop :=
 Below w.heap.size w w' ∧ ∃ a, LkAns cs ws a ∧ e = .returned (.tuple #[.agg (lkV a), .bool a.isSome])
theorem lk_resR {W : World} {bR : Nat} {cs : Array Value} (hg : Blk W bR 70 cs) (hs : cs.size = 2) (tmps : Array Value) (hp : tmps.getD 4 undef = .pointer (some ⟨bR, 0, none⟩)) :
 (results Tryz.f45 tmps).run Tryz.prog W = .ok (.tuple #[.agg cs, tmps.getD 5 undef]) W := by
 have h : Tryz.f45.results = #[.cell 4 70, .tmp 5] := rfl
 have hi : (Tryz.prog.info? 70).map (·.size) = some cs.size := by rw [info70, hs]
 have hp' : tmps[4]?.getD undef = .pointer (some ⟨bR, 0, none⟩) := by simpa using hp
 simp only [results, h]
 simp [Sem.run_bind, Result.andThen, hp', asAddr, run_loadVar_row W bR 70 70 cs (0, 0) _ hg Tryz.underlying70 rfl hi]
structure LrS (w W : World) (D : Nat) (cs : List Int) (ws : List PWord) (vl : Value) (i k : Nat) : Prop where
 B : Below w.heap.size w W
 R : Blk W w.heap.size 70 #[.int .i64 0, .int .i64 0]
 L : IO W D (lft cs ws i k) vl
 N : LkNo cs ws i k
set_option maxRecDepth 100000 in
set_option maxHeartbeats 8000000 in
theorem refLacks_any (f : Fnt) (cs : List Int) (vc : Value) (ws : List PWord) (vw : Value) (w : World) (hc : IV w cs vc) (hw : WoV w ws vw) (hca : CsOk f.sorts.length cs) (hwo : WsOk f.sorts.length ws) (hn2 : ws.length ≤ 200) (hm : f.sorts.length ≤ 1000) :
 Calls Tryz.prog 45 #[vc, vw] w (LkrPost cs ws w) := by
 have hb0 := below_new w (.cells #[.int .i64 0, .int .i64 0] 70)
 have hR0 := Blk.new w 70 #[.int .i64 0, .int .i64 0]
 have HW := Lib.hid hw
 have HC := Lib.hid hc
 have HWK := Lib.hid hwo
 have HLO := Lib.hid (fun i (hi : i < ws.length) k (hk : k ≤ (gw ws i).sorts.length) => lft_ok hca.1 hca.2 hwo hi hk)
 have HCL0 : Hid (cs.length = f.sorts.length) := hca.1
 have hcm : cs.length ≤ 1000000 := by have := hca.1; omega
 obtain ⟨Aw, cw, rfl, -⟩ := hw.shape
 obtain ⟨Ac, bc, oc, cc, rfl, -, -, -, -⟩ := hc.open
 have HB0 := Lib.hid hb0
 have HR0 := Lib.hid hR0
 have HPN : Hid (∀ W, LkAns cs ws none → Below w.heap.size w W → LkrPost cs ws w (.returned (.tuple #[.agg #[.int .i64 0, .int .i64 0], .bool false])) W) := (show ∀ W, _ from fun W h1 h => ⟨h, none, h1, rfl⟩)
 have HPS : Hid (∀ W (x y : Int), LkAns cs ws (some (x, y)) → Below w.heap.size w W → LkrPost cs ws w (.returned (.tuple #[.agg #[.int .i64 x, .int .i64 y], .bool true])) W) := (show ∀ W x y, _ from fun W x y h1 h => ⟨h, some (x, y), h1, rfl⟩)
 clear hw hc hb0 hR0 hwo hca
 go_enter Tryz.func45, Tryz.ntmps45
 go_upto_region 1 with fail
 generalize (w.alloc (.cells #[.int .i64 0, .int .i64 0] 70)) = W2 at *
 have HCL := Lib.hid (copyInts_any cs _ W2 (HC.out.below HB0.out) hcm)
 go_wp2_with fail
 refine HCL.out.mono ?_
 rintro e W3 ⟨vl, rfl, hio, hb3⟩
 obtain ⟨Al, cl, rfl⟩ := hio.shape
 have hsz2 := HB0.out.size
 have hr2 := HR0.out.lt
 have HS0 : Hid (LrS w W3 W2.heap.size cs ws (.slice Al cs.length cl) 0 0) := ⟨HB0.out.trans (hb3.mono HB0.out.size), HR0.out.below hb3 HR0.out.lt, hio, LkNo.zero cs ws⟩
 clear hio hb3 HCL HB0 HR0
 generalize W2.heap.size = B at *
 go_wp2_with fail
 go_loopg [7, 8, 9] ws.length (fun gg s7 _ _ wr => ∃ i : Nat, i ≤ ws.length ∧ ws.length - i ≤ gg ∧ s7 = .int .i64 (i : Int) ∧ Hid (LrS w wr B cs ws (.slice Al cs.length cl) i 0))
 case atStart => exact ⟨0, by omega, by omega, rfl, HS0.out⟩
 case round =>
  obtain ⟨i, hi, hg, rfl, HS⟩ := hrel
  by_cases hlt : i < ws.length
  · have hltz : (i : Int) < (ws.length : Int) := by omega
    obtain ⟨wb, wo, A1, c1, A2, c2, he, hwb0, u0, -, i1, -, -, -, l1, -⟩ := HW.out.at (k := i) hlt
    subst he
    have HI1 := Lib.hid i1
    have HU0 := Lib.hid u0
    have HLO1 := Lib.hid (HLO.out i hlt)
    have HWI := Lib.hid (HWK.out i hlt)
    have hlen := HWI.out.most
    obtain ⟨n1, hn1⟩ : ∃ x, (gw ws i).sorts.length = x := ⟨_, rfl⟩
    rw [hn1] at hlen HU0
    have HN1 := Lib.hid hn1
    clear i1 u0 hn1
    obtain ⟨wo0, hwo0⟩ : ∃ x, x = wr := ⟨_, rfl⟩
    subst hwo0
    go_wp2_with fail
    go_loopg [8, 9] n1 (fun gg s8 _ wr => ∃ k : Nat, k ≤ n1 ∧ n1 - k ≤ gg ∧ s8 = .int .i64 (k : Int) ∧ Hid (LrS w wr B cs ws (.slice Al cs.length cl) i k))
    case atStart => exact ⟨0, by omega, by omega, rfl, HS.out⟩
    case round =>
     obtain ⟨k, hk, hg2, rfl, HT⟩ := hrel
     have z0 := (HT.out.B.cell (p := ⟨wb, wo + i * 2, none⟩) hwb0).trans HU0.out
     have hwb : wb < wr.heap.size := Nat.lt_of_lt_of_le hwb0 HT.out.B.size
     by_cases hlt2 : k < n1
     · have hltz2 : (k : Int) < (n1 : Int) := by omega
       have hks : k < (gw ws i).sorts.length := by rw [HN1.out]; exact hlt2
       obtain ⟨sb, so, hA1, hsb0, y0⟩ := HI1.out.at hks
       subst hA1
       have y1 := (HT.out.B.cell (p := ⟨sb, so + k, none⟩) hsb0).trans y0
       have hsb : sb < wr.heap.size := Nat.lt_of_lt_of_le hsb0 HT.out.B.size
       have hst := HWI.out.st k hks
       obtain ⟨hl1, hl2⟩ := HLO1.out k (by omega)
       have HLS := Lib.hid (lft_succ cs ws i k)
       have HLB : Hid (lkB cs ws i k = (gz (lft cs ws i k) (gz (gw ws i).sorts k).toNat == 0)) := rfl
       have HVL : Hid (Val2 ws i k) := ⟨hlt, hks⟩
       have HAS : Hid (lkB cs ws i k = true → LkAns cs ws (some ((i : Int), gz (gw ws i).sorts k))) := (show _ → _ from fun h => ⟨i, k, HVL.out, rfl, h, HT.out.N⟩)
       generalize gz (gw ws i).sorts k = sv at *
       obtain ⟨q, rfl⟩ := Int.eq_ofNat_of_zero_le hst.1
       rw [show ((q : Nat) : Int).toNat = q from Int.toNat_natCast q] at HLS HLB
       have hq : q < f.sorts.length := by omega
       obtain ⟨g, hAl, hgB, hgl, x0, x1, HXS⟩ := HT.out.L.at (i := q) (by omega)
       subst hAl
       have HX2 := Lib.hid HXS
       have hqb := hl2 q hq
       have hcl : q < cs.length := by rw [HCL0.out]; exact hq
       clear HXS y0 hks hst hl1 hl2 HVL
       have hqz : (q : Int) < (cs.length : Int) := by omega
       by_cases h0 : gz (lft cs ws i k) q = 0
       · have HA := Lib.hid (HAS.out (by rw [HLB.out, h0]; rfl))
         have h0b : (gz (lft cs ws i k) q == 0) = true := by rw [h0]; rfl
         clear h0
         generalize gz (lft cs ws i k) q = xv at *
         have q0 := HT.out.R.cell 0
         have q1 := HT.out.R.cell 1
         have ql := HT.out.R.lt
         have qz := Blk.frozen HT.out.R 0
         have qy := Blk.frozen HT.out.R 1
         go_wp2_with fail
         refine bodyPost_ret (lk_resR (HT.out.R.two _ _) rfl _ rfl) rfl ?_
         exact HPS.out _ _ _ HA.out (below_two HT.out.B (by omega) _ _)
       · have h0b : (gz (lft cs ws i k) q == 0) = false := by simp [h0]
         have HFB : Hid (lkB cs ws i k = false) := by show _ = _; rw [HLB.out, h0b]
         clear h0
         generalize hxv : gz (lft cs ws i k) q = xv at *
         clear hxv
         have HTN : Hid (LrS w (wr.setCell ⟨g, q, none⟩ (.int .i64 (xv - 1))) B cs ws (.slice (some ⟨g, 0, none⟩) cs.length cl) i (k + 1)) :=
          ⟨HT.out.B.setCell (by show w.heap.size ≤ g; omega) _, (Below.heap_setCell _ _ _ _ (by show _ ≠ g; omega)).trans HT.out.R, by show IO _ _ _ _; rw [HLS.out]; exact HX2.out (xv - 1), HT.out.N.step HFB.out⟩
         go_wp2_with fail
         go_roundg (n1 - (k + 1))
         case measure => omega
         case rel => exact ⟨k + 1, by omega, by omega, by go_num, HTN.out⟩
     · have hltz2 : ¬ (k : Int) < (n1 : Int) := by omega
       have hkn : k = n1 := by omega
       have HSN : Hid (LrS w wr B cs ws (.slice Al cs.length cl) (i + 1) 0) := by
        have h := HT.out
        have e : lft cs ws i k = lftW cs ws (i + 1) := by rw [hkn, ← HN1.out]; exact lft_end cs ws i
        exact ⟨h.B, h.R, by rw [lft_zero, ← e]; exact h.L, LkNo.next (by rw [HN1.out, ← hkn]; exact h.N)⟩
       clear hkn hlt2 hk hg2 HT
       go_wp2_with fail
       go_roundg (ws.length - (i + 1))
       case measure => omega
       case rel => exact ⟨i + 1, by omega, by omega, by go_num, HSN.out⟩
  · have hltz : ¬ (i : Int) < (ws.length : Int) := by omega
    have hin : i = ws.length := by omega
    have HAN : Hid (LkAns cs ws none) := (show LkNo cs ws ws.length 0 from hin ▸ HS.out.N)
    have q0 := HS.out.R.cell 0
    have q1 := HS.out.R.cell 1
    have ql := HS.out.R.lt
    have qz := Blk.frozen HS.out.R 0
    have qy := Blk.frozen HS.out.R 1
    clear hin hlt
    go_wp2_with fail
    refine bodyPost_ret (lk_resR (HS.out.R.two _ _) rfl _ rfl) rfl ?_
    exact HPN.out _ HAN.out (below_two HS.out.B (by omega) _ _)
end Go.Proofs.YtbnganlfelgogaaGreat
