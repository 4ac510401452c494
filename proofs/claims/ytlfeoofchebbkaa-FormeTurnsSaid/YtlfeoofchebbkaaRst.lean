/- Rests: for each piece the longest chain from it. -/
import Derived.Test.YtlfeoofchebbkaaCpf
namespace Go.Proofs.Ytlfeoofchebbkaa
set_option linter.unusedSimpArgs false
set_option linter.unusedVariables false
open Go.RowKit
theorem Forme.Laid.sml {f : Forme} (h : f.Laid) {i : Nat} (hi : i < f.ps.length) : Sml (gp f.ps i) := by
  have h1 := h.inn _ (List.getElem_mem hi)
  rw [← gp_get hi] at h1
  obtain ⟨a, b, c, d, e, g⟩ := h1
  have := h.w2
  have := h.h2
  exact ⟨by omega, by omega, by omega, by omega, by omega, by omega, by omega, by omega⟩
theorem across_b {f : Forme} (ws : List Int) {i : Nat} (hi : i < f.ps.length) : (across f ws).b i = (gp f.ps i).x := by
  show ((f.ps.map fun p => (p.x, p.x + p.w)).getD i (0, 0)).1 = _
  rw [getD_map _ _ _ _ hi, gp_get hi]
theorem across_leads {f : Forme} (ws : List Int) {i k : Nat} (hi : i < f.ps.length) (hk : k < f.ps.length) : (across f ws).leads i k = nbB (gp f.ps i) (gp f.ps k) := by
  unfold Dir.leads nbB Dir.e Dir.b Dir.lo Dir.hi
  show (((f.ps.map fun p => (p.x, p.x + p.w)).getD i (0, 0)).2 == ((f.ps.map fun p => (p.x, p.x + p.w)).getD k (0, 0)).1 && (decide (((f.ps.map fun p => (p.y, p.y + p.h)).getD i (0, 0)).1 < ((f.ps.map fun p => (p.y, p.y + p.h)).getD k (0, 0)).2) &&
    decide (((f.ps.map fun p => (p.y, p.y + p.h)).getD k (0, 0)).1 < ((f.ps.map fun p => (p.y, p.y + p.h)).getD i (0, 0)).2))) = _
  rw [getD_map _ _ _ _ hi, getD_map _ _ _ _ hk, getD_map _ _ _ _ hi, getD_map _ _ _ _ hk, gp_get hi, gp_get hk]
theorem across_s {f : Forme} (ws : List Int) (i : Nat) : (across f ws).s i = gz ws i := rfl
/-- What a row of lengths holds, while the pieces are gone through from the right. -/
def Part (D : Dir) (m : Nat → Int) (x : Int) (i : Nat) : Prop := ∀ j, j < D.n → (x < D.b j ∨ (D.b j = x ∧ j < i)) → m j = D.T j
def Bnd (n : Nat) (m : Nat → Int) : Prop := ∀ j, j < n → 0 ≤ m j ∧ m j ≤ 1000000000000
def gstep (D : Dir) (i k : Nat) : Int := if D.leads i k then D.T k else 0
theorem maxTo_snoc (g : Nat → Int) (k : Nat) : maxTo (k + 1) g = max (maxTo k g) (g k) := rfl
def RestsPost (w : World) (D : Dir) (e : Ending) (w' : World) : Prop := ∃ g, e = .returned (.slice (some ⟨g, 0, none⟩) D.n D.n) ∧ w.heap.size ≤ g ∧ w'.rowIs g 3 D.n (fun j => .int .i64 (D.T j)) ∧ Below w.heap.size w w'
set_option maxRecDepth 100000 in
set_option maxHeartbeats 4000000 in
theorem rests_any (f : Forme) (ws : List Int) (A A1 : Option Addr) (b off c b1 o1 c1 : Nat) (w : World) (hA : Lies A f.ps.length w.heap.size b off) (hps : PsAt w b off f.ps) (hf : f.Laid) (hz : Usable f ws) (hn : f.ps.length ≤ 1000)
    (hA1 : Lies A1 ws.length w.heap.size b1 o1) (hz1 : ZsAt w b1 o1 ws) :
    Calls Try.prog 90 #[.agg #[.int .i64 f.W, .int .i64 f.H, .slice A f.ps.length c], .slice A1 f.ps.length c1] w (RestsPost w (across f ws)) := by
  have wf := across_wf hf hz.z
  have hT := across_T hf hz
  have hDn : (across f ws).n = f.ps.length := hz.z.len
  have hwl : ws.length = f.ps.length := hz.z.len
  have hw1 := hf.w1
  have hw2 := hf.w2
  have hmk := run_make_row' (P := Try.prog) 23 3 (.int .i64 0) 8 Try.underlying23 Try.info3 rfl .i64 .i64 f.ps.length (by omega) (by omega)
  have HB : Hid (∀ j, j < f.ps.length → (across f ws).b j = (gp f.ps j).x) := fun j hj => across_b ws hj
  have HL : Hid (∀ i k, i < f.ps.length → k < f.ps.length → (across f ws).leads i k = nbB (gp f.ps i) (gp f.ps k)) := fun i k hi hk => across_leads ws hi hk
  have HT : Hid (∀ i, i < f.ps.length → (across f ws).T i ≤ 1000000000000 ∧ 0 ≤ (across f ws).T i) := fun i hi => ⟨hT i (by omega), by have := Dir.T_pos wf i (by omega); omega⟩
  have HTE : Hid (∀ i, i < f.ps.length → (across f ws).T i = maxTo f.ps.length (gstep (across f ws) i) + gz ws i) := fun i hi => by
    have := Dir.T_eq wf i (by omega)
    rw [hDn] at this
    exact this
  have HSB : Hid (∀ i, i < f.ps.length → 0 ≤ gz ws i ∧ gz ws i ≤ 500000) := fun i hi => ⟨by
    have := wf.s1 i (by omega); rw [across_s] at this; omega, by
    rw [gz_get (by omega)]; exact hz.b _ (List.getElem_mem _)⟩
  have HX : Hid (∀ i, i < f.ps.length → 0 ≤ (gp f.ps i).x ∧ (gp f.ps i).x < f.W) := fun i hi => by
    have h1 := hf.inn _ (List.getElem_mem hi)
    rw [← gp_get hi] at h1
    obtain ⟨a, b, c, d, e, g⟩ := h1
    show _ ∧ _
    omega
  have HS : Hid (∀ i, i < f.ps.length → Sml (gp f.ps i)) := fun i hi => hf.sml hi
  have HW := Lib.hid wf
  have HLD : Hid (∀ i k, i < f.ps.length → k < f.ps.length → (across f ws).leads i k = true → (across f ws).b i < (across f ws).b k) := fun i k hi hk h => by
    have h1 := Dir.leads_b h
    have h2 := wf.be1 i (by omega)
    show _ < _
    omega
  clear hz hf hT wf
  generalize hD : across f ws = D at *
  have HDD := Lib.hid hD
  clear hD
  generalize hln : f.ps.length = n at *
  have HLN := Lib.hid hln
  clear hln
  have HWL := Lib.hid hwl
  have HDN := Lib.hid hDn
  clear hwl hDn
  go_enter Try.func90, Try.ntmps90
  go_wp2_with fail
  have hB := (below_new w (Obj.cells #[Value.int IntKind.i64 f.W, Value.int IntKind.i64 f.H, Value.slice A n c] 37)).trans ((below_new (w.alloc (Obj.cells #[Value.int IntKind.i64 f.W, Value.int IntKind.i64 f.H, Value.slice A n c] 37)) (Obj.cells (madeCells #[Value.int IntKind.i64 0] n) 3)).mono (by simp))
  have hF : Blk ((w.alloc (Obj.cells #[Value.int IntKind.i64 f.W, Value.int IntKind.i64 f.H, Value.slice A n c] 37)).alloc (Obj.cells (madeCells #[Value.int IntKind.i64 0] n) 3)) w.heap.size 37 #[Value.int IntKind.i64 f.W, Value.int IntKind.i64 f.H, Value.slice A n c] :=
    (Below.heap_alloc _ _ _ (by simp)).trans (Blk.new w 37 _)
  have hR := World.rowIs_made (w.alloc (Obj.cells #[Value.int IntKind.i64 f.W, Value.int IntKind.i64 f.H, Value.slice A n c] 37)) (.int .i64 0) n 3
  rw [World.size_alloc] at hR
  have hz0 : ((w.alloc (Obj.cells #[Value.int IntKind.i64 f.W, Value.int IntKind.i64 f.H, Value.slice A n c] 37)).alloc (Obj.cells (madeCells #[Value.int IntKind.i64 0] n) 3)).heap.size = w.heap.size + 1 + 1 := by simp
  generalize (w.alloc (Obj.cells #[Value.int IntKind.i64 f.W, Value.int IntKind.i64 f.H, Value.slice A n c] 37)).alloc (Obj.cells (madeCells #[Value.int IntKind.i64 0] n) 3) = W0 at *
  generalize hgg : w.heap.size + 1 = g at *
  have HG := Lib.hid hgg
  have HZ := Lib.hid hz0
  have HB0 := Lib.hid hB
  have HF0 := Lib.hid hF
  clear hgg hz0 hmk hB hF
  have HC : Hid (∀ W, W0.grownBy W (some g) → W.cell? ⟨w.heap.size, 0, none⟩ = some (.int .i64 f.W) ∧ W.cell? ⟨w.heap.size, 2, none⟩ = some (.slice A n c)) := (show ∀ W, _ from fun W hW => by
    have hx : Blk W w.heap.size 37 _ := HF0.out.grown hW (by have := HG.out; intro e; injection e with e; omega)
    exact ⟨hx.cell 0, hx.cell 2⟩)
  have HQ : Hid (∀ W, W0.grownBy W (some g) → ∀ k, k < n → A = some ⟨b, off, none⟩ ∧ PAt W b (off + k * 6) (gp f.ps k)) := (show ∀ W, _ from fun W hW k hk => by
    obtain ⟨rfl, hb⟩ := hA (by omega)
    refine ⟨rfl, (hps k (by have := HLN.out; omega)).below (HB0.out.trans ?_) hb⟩
    exact below_of_grown hW (by have := HG.out; omega) (by have := HZ.out; have := HG.out; omega))
  have HZQ : Hid (∀ W, W0.grownBy W (some g) → ∀ k, k < n → A1 = some ⟨b1, o1, none⟩ ∧ W.cell? ⟨b1, o1 + k, none⟩ = some (.int .i64 (gz ws k))) := (show ∀ W, _ from fun W hW k hk => by
    obtain ⟨rfl, hb⟩ := hA1 (by have := HWL.out; omega)
    refine ⟨rfl, ((HB0.out.trans (below_of_grown hW (by have := HG.out; omega) (by have := HZ.out; have := HG.out; omega))).cell (p := ⟨b1, o1 + k, none⟩) hb).trans (hz1 k (by have := HWL.out; omega))⟩)
  have hgw : w.heap.size < g := by have := HG.out; omega
  have hg0 : g < W0.heap.size := by have := HZ.out; omega
  clear hA hps hA1 hz1
  go_loopg [6, 7, 8, 9] (f.W + 1).toNat (fun gg s6 _ _ _ wr => ∃ (x : Int) (m : Nat → Int), -1 ≤ x ∧ x ≤ f.W ∧ (x + 1).toNat ≤ gg ∧ s6 = .int .i64 x ∧ Hid (wr.rowIs g 3 n (fun j => .int .i64 (m j))) ∧ Hid (W0.grownBy wr (some g)) ∧ Hid (Part D m x 0) ∧ Hid (Bnd n m))
  case atStart => exact ⟨f.W, fun _ => 0, by omega, by omega, by omega, rfl, hR, World.grownBy.refl _ _, (show Part D _ _ _ from fun j hj hh => by have h1 := HX.out j (by have := HDN.out; omega); have h2 := HB.out j (by have := HDN.out; omega); omega), (show Bnd n _ from fun j hj => by omega)⟩
  case round =>
    obtain ⟨x, m, hx0, hx1, hgx, rfl, R, G, P, Bd⟩ := hrel
    clear hR
    by_cases hxx : 0 ≤ x
    · go_wp2_with fail
      obtain ⟨gko, rfl⟩ : ∃ y : Nat, y = gk := ⟨_, rfl⟩
      obtain ⟨wo, rfl⟩ : ∃ wo : World, wo = wr := ⟨_, rfl⟩
      go_loopg [7, 8, 9] n (fun gg s7 _ _ wi => ∃ (i : Nat) (m : Nat → Int), i ≤ n ∧ n - i ≤ gg ∧ s7 = .int .i64 i ∧ Hid (wi.rowIs g 3 n (fun j => .int .i64 (m j))) ∧ Hid (W0.grownBy wi (some g)) ∧ Hid (Part D m x i) ∧ Hid (Bnd n m))
      case atStart => exact ⟨0, m, Nat.zero_le _, by omega, rfl, R.out, G.out, P.out, Bd.out⟩
      case round =>
        obtain ⟨i, m, hi, hgi, rfl, R, G, P, Bd⟩ := hrel
        obtain ⟨q0, q2⟩ := HC.out wr G.out
        by_cases hin : i < n
        · have hinz : (i : Int) < (n : Int) := by omega
          have hi0 : (0 : Int) ≤ (i : Int) := by omega
          obtain ⟨rfl, c0, c1', c2, c3, c4, c5⟩ := HQ.out wr G.out i hin
          have hwr : w.heap.size < wr.heap.size := by have := G.out.size; omega
          by_cases hxi : (gp f.ps i).x = x
          · have hxb : ((gp f.ps i).x != x) = false := by simp [hxi]
            have HXI := Lib.hid hxi
            clear hxi
            have hsi := HS.out i hin
            have HSI := Lib.hid hsi
            have HLI : Hid (∀ k, k < n → D.leads i k = nbB (gp f.ps i) (gp f.ps k)) := fun k hk => HL.out i k hin hk
            have HMT : Hid (∀ k, k < n → D.leads i k = true → m k = D.T k) := fun k hk h => P.out k (by have := HDN.out; omega) (Or.inl (by
              have h1 := HLD.out i k hin hk h
              rw [HB.out i hin, HXI.out] at h1
              exact h1))
            have HGS : Hid (∀ k, k < n → gstep D i k = if nbB (gp f.ps i) (gp f.ps k) = true then m k else 0) := fun k hk => by
              show gstep D i k = _
              unfold gstep
              rw [← HLI.out k hk]
              by_cases h : D.leads i k = true
              · rw [if_pos h, if_pos h, HMT.out k hk h]
              · rw [if_neg h, if_neg h]
            clear hsi
            go_wp2_with fail
            clear q0 q2 c0 c1' c2 c3 c4 c5 hxb
            obtain ⟨gki, rfl⟩ : ∃ y : Nat, y = gk := ⟨_, rfl⟩
            obtain ⟨wm, rfl⟩ : ∃ wm : World, wm = wr := ⟨_, rfl⟩
            have hxi2 := Lib.hid (HMT)
            go_loopg [8, 9] n (fun gg s8 s9 wi => ∃ (k : Nat), k ≤ n ∧ n - k ≤ gg ∧ s8 = .int .i64 (maxTo k (gstep D i)) ∧ s9 = .int .i64 k ∧ Hid (wi.rowIs g 3 n (fun j => .int .i64 (m j))) ∧ Hid (W0.grownBy wi (some g)) ∧ w.heap.size < wi.heap.size)
            case atStart => exact ⟨0, Nat.zero_le _, by omega, rfl, rfl, R.out, G.out, hwr⟩
            case round =>
              obtain ⟨k, hk, hgk', rfl, rfl, R, G, hwi⟩ := hrel
              obtain ⟨q0, q2⟩ := HC.out wr G.out
              obtain ⟨-, c0, c1', c2, c3, c4, c5⟩ := HQ.out wr G.out i hin
              by_cases hkn : k < n
              · have hknz : (k : Int) < (n : Int) := by omega
                have hk0 : (0 : Int) ≤ (k : Int) := by omega
                obtain ⟨-, d0, d1, d2, d3, d4, d5⟩ := HQ.out wr G.out k hkn
                have hgs := HGS.out k hkn
                have hsn := maxTo_snoc (gstep D i) k
                rw [hgs] at hsn
                have HN := Lib.hid (neighbours_any (gp f.ps i) (gp f.ps k))
                have HSK := Lib.hid (HS.out k hkn)
                have hbd := Bd.out k hkn
                obtain ⟨hbd1, hbd2⟩ := hbd
                have hrow := R.out.cell hkn
                have HXI' := Lib.hid HXI.out
                clear hgs
                generalize hpi : gp f.ps i = p at *
                generalize hpk : gp f.ps k = q at *
                have HPI := Lib.hid hpi
                have HPK := Lib.hid hpk
                clear hpi hpk
                have hmx := maxTo_nonneg k (gstep D i)
                have HSN := Lib.hid hsn
                clear hsn
                generalize maxTo k (gstep D i) = mx at *
                go_wp2_with fail
                go_still_tail 10, (by kernel_rfl)
                change wpList _ _ _ _ _ wr.drew
                cases hnb : nbB p q with
                | true =>
                  go_wp2_with (go_at_call 91; refine (HN.out _ HSI.out HSK.out).mono ?_; rintro e w2 ⟨rfl, b2⟩; have HR2 := Lib.hid (R.out.drew.of_block (b2.block g R.out.lt)); have HG2 := Lib.hid (grown_trans' (grown_drew' G.out) (grown_of_below b2 (some g))); have hrow2 := HR2.out.cell hkn; have hw2 : w.heap.size < w2.heap.size := Nat.lt_of_lt_of_le hwi b2.size; clear b2)
                  all_goals
                    go_roundg (n - (k + 1))
                    case measure => omega
                    case rel => exact ⟨k + 1, by omega, by omega, by rw [HSN.out, hnb, if_pos rfl]; congr 1; omega, by go_num, HR2.out, HG2.out, hw2⟩
                | false =>
                  go_wp2_with (go_at_call 91; refine (HN.out _ HSI.out HSK.out).mono ?_; rintro e w2 ⟨rfl, b2⟩; have HR2 := Lib.hid (R.out.drew.of_block (b2.block g R.out.lt)); have HG2 := Lib.hid (grown_trans' (grown_drew' G.out) (grown_of_below b2 (some g))); have hw2 : w.heap.size < w2.heap.size := Nat.lt_of_lt_of_le hwi b2.size; clear b2)
                  go_roundg (n - (k + 1))
                  case measure => omega
                  case rel => exact ⟨k + 1, by omega, by omega, by rw [HSN.out, hnb, if_neg (by decide)]; congr 1; omega, by go_num, HR2.out, HG2.out, hw2⟩
              · have hknz : ¬ (k : Int) < (n : Int) := by omega
                have he : k = n := by omega
                subst he
                have hte := HTE.out i hin
                have hTb := HT.out i hin
                have hsb := HSB.out i hin
                have hmx := maxTo_nonneg k (gstep D i)
                obtain ⟨rfl, hwz⟩ := HZQ.out wr G.out i hin
                have HTEI := Lib.hid hte
                clear hte
                have hsum : maxTo k (gstep D i) + gz ws i ≤ 1000000000000 := by rw [← HTEI.out]; exact hTb.1
                have r1 := R.out.cell hin
                have f1 := R.out.frozen i
                generalize maxTo k (gstep D i) = mx at *
                generalize gz ws i = z at *
                obtain ⟨hsb1, hsb2⟩ := hsb
                have HPE : Hid (∀ j, j = i → D.b j = x) := fun j e => by rw [e, HB.out i hin, HXI.out]
                generalize gp f.ps i = p at *
                go_wp2_with fail
                go_roundg (k - (i + 1))
                case measure => omega
                case rel =>
                  refine ⟨i + 1, fun j => if j = i then D.T i else m j, by omega, by omega, by go_num, ?_, grown_setCell' G.out _ _, (show Part D _ x (i + 1) from fun j hj hh => ?_), (show Bnd k _ from fun j hj => ?_)⟩
                  · show World.rowIs _ _ _ _ _
                    refine (R.out.set i _).congr fun j hj => ?_
                    show (if j = i then _ else Value.int .i64 (m j)) = Value.int .i64 (if j = i then D.T i else m j)
                    by_cases e : j = i
                    · rw [if_pos e, if_pos e, HTEI.out]; congr 1; omega
                    · rw [if_neg e, if_neg e]
                  · show (if j = i then D.T i else m j) = D.T j
                    by_cases e : j = i
                    · rw [if_pos e, e]
                    · rw [if_neg e]
                      exact P.out j hj (by rcases hh with h | ⟨h, h2⟩; exact Or.inl h; exact Or.inr ⟨h, by omega⟩)
                  · show 0 ≤ (if j = i then D.T i else m j) ∧ (if j = i then D.T i else m j) ≤ 1000000000000
                    by_cases e : j = i
                    · rw [if_pos e]; exact ⟨hTb.2, hTb.1⟩
                    · rw [if_neg e]; exact Bd.out j hj
          · have hxb : ((gp f.ps i).x != x) = true := by simpa using hxi
            have HXI : Hid (∀ j, j = i → D.b j ≠ x) := (show ∀ j, _ from fun j e => by rw [e, HB.out i hin]; exact hxi)
            clear hxi
            generalize gp f.ps i = p at *
            go_wp2_with fail
            go_roundg (n - (i + 1))
            case measure => omega
            case rel =>
              refine ⟨i + 1, m, by omega, by omega, by go_num, R.out, G.out, (show Part D m x (i + 1) from fun j hj hh => P.out j hj ?_), Bd.out⟩
              rcases hh with h | ⟨h, h2⟩
              · exact Or.inl h
              · by_cases e : j = i
                · exact absurd h (HXI.out j e)
                · exact Or.inr ⟨h, by omega⟩
        · have hinz : ¬ (i : Int) < (n : Int) := by omega
          have he : i = n := by omega
          subst he
          go_wp2_with fail
          go_roundg x.toNat
          case measure => omega
          case rel =>
            refine ⟨x - 1, m, by omega, by omega, by omega, by first | rfl | (congr 1; omega), R.out, G.out, (show Part D m (x - 1) 0 from fun j hj hh => P.out j hj ?_), Bd.out⟩
            rcases hh with h | ⟨h, h2⟩
            · by_cases e : D.b j = x
              · exact Or.inr ⟨e, by have := HDN.out; omega⟩
              · exact Or.inl (by omega)
            · omega
    · have hx : x = -1 := by omega
      have RR := Lib.hid (R.out.congr (g := fun j => .int .i64 (D.T j)) fun j hj => by
        rw [P.out j (by have := HDN.out; omega) (Or.inl (by rw [HB.out j hj]; have := HX.out j hj; omega))])
      have BB := Lib.hid (HB0.out.trans (below_of_grown G.out (by have := HG.out; omega) (by omega)))
      have HFN : Hid (RestsPost w D (.returned (.slice (some ⟨g, 0, none⟩) n n)) wr) := by
        refine ⟨g, by rw [HDN.out], by omega, by rw [HDN.out]; exact RR.out, BB.out⟩
      clear hx
      go_wp2_with fail
      go_ret
      exact HFN.out
end Go.Proofs.Ytlfeoofchebbkaa
