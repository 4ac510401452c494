/- CheckChain returns the length of a chain, or the errors. -/
import Derived.Test.YtlfeoofchebbkaaLad
import Derived.Test.YtlfeoofchebbkaaMir
namespace Go.Proofs.Ytlfeoofchebbkaa
set_option linter.unusedSimpArgs false
set_option linter.unusedVariables false
open Go.RowKit
def IPredOn (g : Nat) (lb : Array Value) (zs : List Int) (n : Nat) (pr : Int → Bool) (w : World) : Prop :=
  ∀ (W : World) (j : Nat), Below w.heap.size w W → j < n → Calls Try.prog g (#[.int .i64 (gz zs j)] ++ lb) W fun e w' => e = .returned (.bool (pr (gz zs j))) ∧ Below w.heap.size w w'
set_option maxHeartbeats 400000 in
theorem indexI_any (g : Nat) (lb : Array Value) (b off n c : Nat) (zs : List Int) (pr : Int → Bool) (w : World) (hp : IPredOn g lb zs n pr w) (hn : n ≤ zs.length) (hbig : n ≤ 1000000) (hb : b < w.heap.size)
    (eg : ∀ args w, (callFunc g args).run Try.prog w = .ok (.enter g args) w)
    (hc : ZsAt w b off zs) :
    Calls Try.prog 136 #[.slice (some ⟨b, off, none⟩) n c, .func (.func g) #[] lb] w fun e w' => e = .returned (.int .i64 (idx (fun j => pr (gz zs j)) n)) ∧ Below w.heap.size w w' := by
  go_enter Try.func136, Try.ntmps136
  go_wp2
  go_loopg [5, 8] n (fun gg _ s8 wr => ∃ kk : Nat, kk ≤ n ∧ n - kk ≤ gg ∧ s8 = .int .i64 kk ∧ Aside (Below w.heap.size w wr) ∧ Aside (∀ j, j < kk → pr (gz zs j) = false))
  case atStart => exact ⟨0, Nat.zero_le _, by omega, rfl, Below.refl _ w, fun j hj => absurd hj (Nat.not_lt_zero _)⟩
  case round =>
    obtain ⟨kk, hkk, hg, rfl, BW, A⟩ := hrel
    by_cases hlt : kk < n
    · have hltz : (kk : Int) < (n : Int) := by omega
      have c0 := (hc.below BW.out hb) kk (by omega)
      have hcall := hp wr kk BW.out hlt
      clear hc hp
      generalize hy : gz zs kk = y at *
      have B := Lib.hid hy
      clear hy
      cases hq : pr y with
      | true =>
        rw [hq] at hcall
        have HQ := Lib.hid hq
        clear hq
        go_wp2_with ((with_reducible refine hcall.mono ?_); rintro e w' ⟨rfl, hb'⟩)
        go_ret
        refine ⟨?_, hb'⟩
        have h1 : pr (gz zs kk) = true := by rw [B.out]; exact HQ.out
        rw [idx_hit (pr := fun j => pr (gz zs j)) h1 A.out hlt]
        rfl
      | false =>
        rw [hq] at hcall
        have HQ := Lib.hid hq
        clear hq
        go_wp2_with ((with_reducible refine hcall.mono ?_); rintro e w' ⟨rfl, hb'⟩)
        go_roundg (n - (kk + 1))
        case measure => omega
        case rel =>
          refine ⟨kk + 1, by omega, by omega, by go_num, hb', (show Aside _ from fun j hj => ?_)⟩
          by_cases e : j = kk
          · subst e
            rw [B.out]; exact HQ.out
          · exact A.out j (by omega)
    · have hltz : ¬ (kk : Int) < (n : Int) := by omega
      have : kk = n := by omega
      subst this
      go_wp2
      go_ret
      refine ⟨?_, BW.out⟩
      rw [idx_none (pr := fun j => pr (gz zs j)) A.out]
      rfl
theorem containsI_any (g : Nat) (lb : Array Value) (b off n c : Nat) (zs : List Int) (pr : Int → Bool) (w : World) (hp : IPredOn g lb zs n pr w) (hn : n ≤ zs.length) (hbig : n ≤ 1000000) (hb : b < w.heap.size)
    (eg : ∀ args w, (callFunc g args).run Try.prog w = .ok (.enter g args) w)
    (hc : ZsAt w b off zs) :
    Calls Try.prog 110 #[.slice (some ⟨b, off, none⟩) n c, .func (.func g) #[] lb] w fun e w' => e = .returned (.bool (decide (0 ≤ idx (fun j => pr (gz zs j)) n))) ∧ Below w.heap.size w w' := by
  go_enter Try.func110, Try.ntmps110
  go_wp2_with (go_at_call 136; refine (indexI_any g lb b off n c zs pr w hp hn hbig hb eg hc).mono ?_; rintro e w' ⟨rfl, hb'⟩)
  go_ret
  exact ⟨rfl, hb'⟩
theorem enters111 : ∀ (args : Array Value) (w : World), (callFunc 111 args).run Try.prog w = .ok (.enter 111 args) w := enters_of' Try.func111 (by kernel_rfl) rfl
def notIn (n : Nat) (z : Int) : Bool := !win z 0 ((n : Int) - 1)
theorem notIn_any (n c : Nat) (A : Option Addr) (g : Nat) (z : Int) (w : World) (hn : n ≤ 100) (hc : w.cell? ⟨g, 2, none⟩ = some (.slice A n c)) :
    Calls Try.prog 111 (#[.int .i64 z] ++ #[.pointer (some ⟨g, 0, none⟩)]) w fun e w' => e = .returned (.bool (notIn n z)) ∧ Below w.heap.size w w' := by
  have hb := block_lt_of_cell hc
  have i4 : IntKind.i64.wrap ((n : Int) - 1) = (n : Int) - 1 := IntWalk.i64_in _ (by omega)
  go_enter Try.func111, Try.ntmps111
  go_wp2_with fail
  refine (within_any _ _ _ _).mono ?_
  rintro e w' ⟨rfl, rfl⟩
  go_wp2_with fail
  go_ret
  exact ⟨rfl, Below.refl _ _⟩
/-- Whether a piece of a chain is the neighbour of the one before, or begins at the near side. -/
def linkB (D : Dir) (zs : List Int) (k : Nat) : Bool := if k = 0 then decide (D.b (gz zs 0).toNat = 0) else D.leads (gz zs (k - 1)).toNat (gz zs k).toNat
def missB (n : Nat) (zs : List Int) : Bool := decide (0 ≤ idx (fun j => notIn n (gz zs j)) zs.length)
def chLen (D : Dir) (zs : List Int) (k : Nat) : Int := sumTo k fun j => D.s (gz zs j).toNat
def goodC (D : Dir) (zs : List Int) : Prop := (∀ k, k < zs.length → linkB D zs k = true) ∧ D.e (gz zs (zs.length - 1)).toNat = D.side
instance (D : Dir) (zs : List Int) : Decidable (goodC D zs) := by unfold goodC; exact inferInstance
def chainC (D : Dir) (n : Nat) (zs : List Int) : Int × Int :=
  if zs.length = 0 then (0, 10) else if missB n zs = true then (0, 6) else if goodC D zs then (chLen D zs zs.length, 0) else (0, 25)
theorem missB_f {n : Nat} {zs : List Int} (h : missB n zs = false) : ∀ k, k < zs.length → ∃ z : Nat, gz zs k = z ∧ z < n := fun k hk => by
  have h1 := idx_neg (of_decide_eq_false h) k hk
  have h2 : win (gz zs k) 0 ((n : Int) - 1) = true := by unfold notIn at h1; simpa using h1
  obtain ⟨h3, h4⟩ := win_t.1 h2
  exact ⟨(gz zs k).toNat, by omega, by omega⟩
section
variable {D : Dir} {n m k z : Nat} {zs : List Int}
/-- What is left of the question, where no piece is missing. -/
def restC (D : Dir) (zs : List Int) : Int × Int := if goodC D zs then (chLen D zs zs.length, 0) else (0, 25)
theorem chainC_rest (h0 : zs.length ≠ 0) (h : missB n zs = false) : chainC D n zs = restC D zs := by
  unfold chainC restC; rw [if_neg h0, if_neg (by rw [h]; decide)]
theorem chainC_open (hm : zs.length = m) (hk : k < m) (h : linkB D zs k = false) : restC D zs = (0, 25) := by
  unfold restC; rw [if_neg]; rintro ⟨h1, _⟩; have := h1 k (by omega); rw [h] at this; cases this
theorem chainC_good (hm : zs.length = m) (h0 : 0 < m) (h : ∀ j, j < m → linkB D zs j = true) (hz : gz zs (m - 1) = z) (he : D.e z = D.side) : restC D zs = (chLen D zs m, 0) := by
  unfold restC; rw [if_pos ⟨by rw [hm]; exact h, by rw [hm, hz, Int.toNat_natCast]; exact he⟩, hm]
theorem chainC_end (hm : zs.length = m) (h0 : 0 < m) (hz : gz zs (m - 1) = z) (he : D.e z ≠ D.side) : restC D zs = (0, 25) := by
  unfold restC; rw [if_neg]; rintro ⟨_, h2⟩; rw [hm, hz, Int.toNat_natCast] at h2; exact he h2
theorem chLen_bound (hs : ∀ i, i < D.n → 0 ≤ D.s i ∧ D.s i ≤ 500000) (hz : ∀ k, k < m → ∃ z : Nat, gz zs k = z ∧ z < D.n) : ∀ k, k ≤ m → 0 ≤ chLen D zs k ∧ chLen D zs k ≤ k * 500000 := by
  intro k
  induction k with
  | zero => intro _; exact ⟨Int.le_refl _, by simp [chLen, sumTo]⟩
  | succ k ih =>
    intro hk
    obtain ⟨a, b⟩ := ih (by omega)
    obtain ⟨z, hz1, hz2⟩ := hz k (by omega)
    have hh := hs z hz2
    have e : chLen D zs (k + 1) = chLen D zs k + D.s (gz zs k).toNat := rfl
    rw [e, hz1, Int.toNat_natCast]
    omega
end
def dirOf (f : Forme) (r : Real) (dn : Bool) : Dir := if dn = true then down f r.hs else across f r.ws
def checkC (f : Forme) (r : Real) (zs : List Int) (dn : Bool) : Int × Int := if (shapedF f r).2 ≠ 0 then (0, (shapedF f r).2) else chainC (dirOf f r dn) f.ps.length zs
theorem boxesT (w : World) (d1 d2 d3 : Array Value) (t1 t2 t3 : TypeId) :
    Below w.heap.size w (((w.alloc (.cells d1 t1)).alloc (.cells d2 t2)).alloc (.cells d3 t3)) ∧ Blk (((w.alloc (.cells d1 t1)).alloc (.cells d2 t2)).alloc (.cells d3 t3)) w.heap.size t1 d1 ∧
    Blk (((w.alloc (.cells d1 t1)).alloc (.cells d2 t2)).alloc (.cells d3 t3)) (w.heap.size + 1) t2 d2 ∧ Blk (((w.alloc (.cells d1 t1)).alloc (.cells d2 t2)).alloc (.cells d3 t3)) (w.heap.size + 1 + 1) t3 d3 ∧
    (((w.alloc (.cells d1 t1)).alloc (.cells d2 t2)).alloc (.cells d3 t3)).heap.size = w.heap.size + 1 + 1 + 1 := by
  refine ⟨((below_new _ _).alloc (by simp) _).alloc (by simp; omega) _, (Below.heap_alloc _ _ _ (by simp; omega)).trans ((Below.heap_alloc _ _ _ (by simp)).trans (Blk.new w t1 _)), ?_, ?_, by simp⟩
  · have := Blk.new (w.alloc (.cells d1 t1)) t2 d2
    rw [World.size_alloc] at this
    exact (Below.heap_alloc _ _ _ (by simp)).trans this
  · have := Blk.new ((w.alloc (.cells d1 t1)).alloc (.cells d2 t2)) t3 d3
    rwa [World.size_alloc, World.size_alloc] at this
set_option maxRecDepth 100000 in
set_option maxHeartbeats 8000000 in
theorem checkChain_any (f : Forme) (r : Real) (zs : List Int) (dn : Bool) (A A1 A2 A3 Ac : Option Addr) (b off b1 o1 b2 o2 b3 o3 bc oc c c1 c2 c3 cc : Nat) (w : World) (h : FR w w.heap.size f r A A1 A2 A3 b off b1 o1 b2 o2 b3 o3) (hnm : NameOk f.ps) (hc : f.ps.length ≤ c) (hm : f.ps.length ≤ 9223372036854775807)
    (hc1 : r.ws.length ≤ c1) (hc2 : r.hs.length ≤ c2) (hc3 : r.ts.length ≤ c3) (hA : Lies Ac zs.length w.heap.size bc oc) (hz : ZsAt w bc oc zs) (hl : zs.length ≤ 100) :
    Calls Try.prog 50 #[.agg #[.int .i64 f.W, .int .i64 f.H, .slice A f.ps.length c], .agg #[.slice A1 r.ws.length c1, .slice A2 r.hs.length c2, .slice A3 r.ts.length c3], .agg #[.slice Ac zs.length cc, .bool dn]] w fun e w' => e = .returned (.tuple #[.int .i64 (checkC f r zs dn).1, .int .i64 (checkC f r zs dn).2]) ∧ Below w.heap.size w w' := by
  obtain ⟨B0, F0, T0, P0, Z0⟩ := boxesT w #[.int .i64 f.W, .int .i64 f.H, .slice A f.ps.length c] #[.slice A1 r.ws.length c1, .slice A2 r.hs.length c2, .slice A3 r.ts.length c3] #[.slice Ac zs.length cc, .bool dn] 37 39 72
  have HFR := Lib.hid ((h.below B0).mono B0.size)
  have HZ0 := Lib.hid (fun (hbc : bc < w.heap.size) => hz.below B0 hbc)
  have HCK : Hid (checkC f r zs dn = if (shapedF f r).2 ≠ 0 then (0, (shapedF f r).2) else chainC (dirOf f r dn) f.ps.length zs) := rfl
  clear h hz
  go_enter Try.func50, Try.ntmps50
  go_wp2_with fail
  generalize ((w.alloc (.cells #[.int .i64 f.W, .int .i64 f.H, .slice A f.ps.length c] 37)).alloc (.cells #[.slice A1 r.ws.length c1, .slice A2 r.hs.length c2, .slice A3 r.ts.length c3] 39)).alloc (.cells #[.slice Ac zs.length cc, .bool dn] 72) = W0 at *
  have HB0 := Lib.hid B0
  have HF0 := Lib.hid F0
  have HT0 := Lib.hid T0
  have HP0 := Lib.hid P0
  have HZW0 := Lib.hid Z0
  clear B0 F0 T0 P0 Z0
  refine (shaped_any f r A A1 A2 A3 b off c b1 o1 c1 b2 o2 c2 b3 o3 c3 W0 HFR.out.la HFR.out.ps hnm hc hm HFR.out.rr hc1 hc2 hc3).mono ?_
  rintro e w1 ⟨rfl, e1⟩
  have HB1 := Lib.hid (HB0.out.trans (e1.mono HB0.out.size))
  have HF1 := Lib.hid (HF0.out.below e1 HF0.out.lt)
  have HT1 := Lib.hid (HT0.out.below e1 HT0.out.lt)
  have HP1 := Lib.hid (HP0.out.below e1 HP0.out.lt)
  have HFR1 := Lib.hid ((HFR.out.below e1).mono e1.size)
  have HZ1 := Lib.hid (fun (hbc : bc < w.heap.size) => (HZ0.out hbc).below e1 (by have := HB0.out.size; omega))
  have hz1 : w.heap.size + 1 + 1 < w1.heap.size := by have := HP1.out.lt; omega
  clear HB0 HF0 HT0 HP0 HFR HZ0 HZW0 e1
  by_cases hE : (shapedF f r).2 = 0
  · have HOK := Lib.hid (shaped_zero hE)
    have HC1 : Hid (checkC f r zs dn = chainC (dirOf f r dn) f.ps.length zs) := by show _ = _; rw [HCK.out, if_neg (by rw [hE]; decide)]
    have h1 := bne_f hE
    clear hE HCK
    generalize shapedF f r = sp at *
    have hfew := HOK.out.right.few
    generalize hmm : zs.length = m at *
    have HM := Lib.hid hmm
    clear hmm
    have p0 : w1.cell? ⟨w.heap.size + 1 + 1, 0, none⟩ = some (.slice Ac m cc) := HP1.out.cell 0
    by_cases hm0 : m = 0
    · subst hm0
      go_wp2_with fail
      go_ret2
      rw [HC1.out]
      unfold chainC
      rw [if_pos HM.out]
      exact ⟨rfl, HB1.out⟩
    · have hmn : ((m : Int) == 0) = false := by simpa using hm0
      obtain ⟨rfl, hbc⟩ := hA (by omega)
      have HZw := Lib.hid (HZ1.out hbc)
      have hbcw1 : bc < w1.heap.size := by have := HB1.out.size; omega
      have hcon := containsI_any 111 #[.pointer (some ⟨w.heap.size, 0, none⟩)] bc oc m cc zs (notIn f.ps.length) w1 (fun W j hbW hj => (notIn_any f.ps.length c A w.heap.size (gz zs j) W (by omega) ((HF1.out.below hbW HF1.out.lt).cell 2)).mono fun _ _ ⟨h1, h2⟩ => ⟨h1, hbW.trans (h2.mono hbW.size)⟩) (by have := HM.out; omega) (by omega) hbcw1 enters111 HZw.out
      have HMB : Hid (missB f.ps.length zs = decide (0 ≤ idx (fun j => notIn f.ps.length (gz zs j)) m)) := by show _ = _; unfold missB; rw [HM.out]
      generalize decide (0 ≤ idx (fun j => notIn f.ps.length (gz zs j)) m) = mb at *
      have HCON := Lib.hid hcon
      clear hcon
      cases mb with
      | true =>
        go_wp2_with fail
        refine HCON.out.mono ?_
        rintro e w2 ⟨rfl, e2⟩
        go_wp2_with fail
        go_ret2
        rw [HC1.out]
        unfold chainC
        rw [if_neg (by rw [HM.out]; exact hm0), if_pos HMB.out]
        exact ⟨rfl, HB1.out.trans (e2.mono HB1.out.size)⟩
      | false =>
        have HC : Hid (checkC f r zs dn = restC (dirOf f r dn) zs) := by show _ = _; rw [HC1.out, chainC_rest (by rw [HM.out]; exact hm0) HMB.out]
        have HMISf := Lib.hid (missB_f HMB.out)
        clear HC1 HMB
        go_wp2_with fail
        refine HCON.out.mono ?_
        rintro e w2 ⟨rfl, e2⟩
        have HB2 := Lib.hid (HB1.out.trans (e2.mono HB1.out.size))
        have HF2 := Lib.hid (HF1.out.below e2 HF1.out.lt)
        have HT2 := Lib.hid (HT1.out.below e2 HT1.out.lt)
        have HPw2 := Lib.hid (HP1.out.below e2 HP1.out.lt)
        have HFR2 := Lib.hid ((HFR1.out.below e2).mono e2.size)
        have HZ2 := Lib.hid (HZw.out.below e2 hbcw1)
        have hz2 : w.heap.size + 1 + 1 < w2.heap.size := by have := HPw2.out.lt; omega
        have hbcw2 : bc < w2.heap.size := by have := e2.size; omega
        clear HB1 HF1 HT1 HP1 HFR1 HZ1 HZw HCON hbcw1 hz1 p0 e2
        have a0 : w2.cell? ⟨w.heap.size, 0, none⟩ = some (.int .i64 f.W) := HF2.out.cell 0
        have a1 : w2.cell? ⟨w.heap.size, 1, none⟩ = some (.int .i64 f.H) := HF2.out.cell 1
        have a2 : w2.cell? ⟨w.heap.size, 2, none⟩ = some (.slice A f.ps.length c) := HF2.out.cell 2
        have d0 : w2.cell? ⟨w.heap.size + 1, 0, none⟩ = some (.slice A1 r.ws.length c1) := HT2.out.cell 0
        have d1 : w2.cell? ⟨w.heap.size + 1, 1, none⟩ = some (.slice A2 r.hs.length c2) := HT2.out.cell 1
        have d2 : w2.cell? ⟨w.heap.size + 1, 2, none⟩ = some (.slice A3 r.ts.length c3) := HT2.out.cell 2
        go_wp2_with fail
        refine (across_dir f r A A1 A2 A3 b off b1 o1 b2 o2 b3 o3 c c1 c2 c3 w2 HFR2.out HOK.out.right HOK.out.ws.len).mono ?_
        rintro e w3 ⟨dg, Aa, Ab, Az, ca, cb, cz, ba, oa, bb, ob, bz, oz, rfl, hD, e3⟩
        clear a0 a1 a2 d0 d1 d2
        have p1 : w3.cell? ⟨w.heap.size + 1 + 1, 1, none⟩ = some (.bool dn) := (HPw2.out.below e3 HPw2.out.lt).cell 1
        cases dn with
        | false =>
          have HCn : Hid (checkC f r zs false = restC (across f r.ws) zs) := (show _ = _ from HC.out)
          clear HC
          have HC := Lib.hid HCn.out
          clear HCn
          have HBD := Lib.hid e3
          have HB3 := Lib.hid (HB2.out.trans (e3.mono HB2.out.size))
          have HD := Lib.hid hD
          have HP2 := HPw2
          have hPl : w.heap.size + 1 + 1 < w2.heap.size := hz2
          have HZW := HZ2
          have hbcw := hbcw2
          have hDn : (across f r.ws).n = f.ps.length := HOK.out.ws.len
          have hDl : (across f r.ws).n ≤ 60 := by omega
          have HMIS : Hid (∀ k, k < m → ∃ z : Nat, gz zs k = z ∧ z < (across f r.ws).n) := (show ∀ k, _ from fun k hk => by rw [hDn]; exact HMISf.out k (by rw [HM.out]; exact hk))
          have HCB : Hid (∀ k, k ≤ m → 0 ≤ chLen (across f r.ws) zs k ∧ chLen (across f r.ws) zs k ≤ 100000000) := (show ∀ k, _ from fun k hk => by
            have := chLen_bound (D := across f r.ws) (fun i hi => by
              have hi' : i < r.ws.length := hi
              have h1 := HOK.out.ws.lo _ (List.getElem_mem hi')
              have h2 := HOK.out.wb _ (List.getElem_mem hi')
              rw [← gz_get hi'] at h1 h2
              have h3 : (across f r.ws).s i = gz r.ws i := rfl
              omega) HMIS.out k hk
            omega)
          clear hDn HMISf hD e3
          have HP := Lib.hid (HP2.out.below HBD.out hPl)
          have hPD : w.heap.size + 1 + 1 < w3.heap.size := by have := HBD.out.size; omega
          have HZ := Lib.hid (ZsAt.below HZW.out HBD.out hbcw)
          have hbcd : bc < w3.heap.size := by have := HBD.out.size; omega
          have p0 : w3.cell? ⟨w.heap.size + 1 + 1, 0, none⟩ = some (.slice (some ⟨bc, oc, none⟩) m cc) := HP.out.cell 0
          generalize hDD : across f r.ws = D at *
          have HDD := Lib.hid hDD
          clear hDD HP2 HZW
          have hM0 : (0 : Int) < (m : Int) := by omega
          go_wp2_with fail
          clear p0
          go_loopg [11, 44] m (fun gg s11 s44 wr => ∃ k : Nat, k ≤ m ∧ m - k ≤ gg ∧ s44 = .int .i64 k ∧ s11 = .int .i64 (chLen D zs k) ∧ Hid (Below w3.heap.size w3 wr) ∧ Hid (∀ j, j < k → linkB D zs j = true))
          case atStart => exact ⟨0, Nat.zero_le _, by omega, rfl, rfl, Below.refl _ _, fun j hj => absurd hj (Nat.not_lt_zero _)⟩
          case round =>
            as_aux_lemma =>
            obtain ⟨k, hk, hgk, rfl, rfl, BW, E⟩ := hrel
            have p0 : wr.cell? ⟨w.heap.size + 1 + 1, 0, none⟩ = some (.slice (some ⟨bc, oc, none⟩) m cc) := (HP.out.below BW.out hPD).cell 0
            by_cases hlt : k < m
            · have hltz : (k : Int) < (m : Int) := by omega
              have hk0 : (0 : Int) ≤ (k : Int) := by omega
              obtain ⟨z, hzk, hzn⟩ := HMIS.out k hlt
              have q := (HZ.out.below BW.out hbcd) k (by have := HM.out; omega)
              have HLK : Hid (linkB D zs k = if k = 0 then decide (D.b (gz zs 0).toNat = 0) else D.leads (gz zs (k - 1)).toNat (gz zs k).toNat) := rfl
              have HS : Hid (chLen D zs (k + 1) = chLen D zs k + D.s (gz zs k).toNat) := rfl
              obtain ⟨s1, s2⟩ := HCB.out k (by omega)
              obtain ⟨s3, s4⟩ := HCB.out (k + 1) (by omega)
              rw [HS.out] at s3 s4
              have HZK := Lib.hid hzk
              rw [hzk] at q s3 s4
              rw [Int.toNat_natCast] at s3 s4
              clear hzk
              have hD' := HD.out.keep (w' := wr) (fun b o hb => BW.out.cell (p := ⟨b, o, none⟩) hb)
              have HD' := Lib.hid hD'
              have hzD : z < D.n := hzn
              have hzDz : (z : Int) < (D.n : Int) := by omega
              have hz0 : (0 : Int) ≤ (z : Int) := by omega
              have u2 := hD'.c2
              have u0 := hD'.c0
              have uz := hD'.pz z hzD
              have ub := hD'.pb z hzD
              obtain ⟨rfl, hlz⟩ := hD'.lz (by omega)
              obtain ⟨rfl, hla⟩ := hD'.la (by omega)
              clear hD'
              by_cases hk00 : k = 0
              · have e0 : ((k : Int) == 0) = true := by simpa using hk00
                have e1 : ¬ (0 : Int) < (k : Int) := by omega
                by_cases hb0 : D.b z = 0
                · have hb1 := bne_f hb0
                  have HLT : Hid (linkB D zs k = true) := by show _ = _; rw [HLK.out, if_pos hk00, ← hk00, HZK.out]; exact decide_eq_true (by rw [Int.toNat_natCast]; exact hb0)
                  clear hb0 HLK
                  generalize D.b z = db at *
                  generalize hds : D.s z = ds at *
                  have HDS := Lib.hid hds
                  clear hds
                  generalize chLen D zs k = cl at *
                  have HK00 := Lib.hid hk00
                  clear hk00
                  go_wp2_with fail
                  go_roundg (m - (k + 1))
                  case measure => omega
                  case rel =>
                    refine ⟨k + 1, by omega, by omega, by go_num, by rw [HS.out, HZK.out, Int.toNat_natCast, HDS.out], BW.out, (show ∀ j, _ from fun j hj => ?_)⟩
                    have : j = k := by have := HK00.out; omega
                    rw [this]
                    exact HLT.out
                · have hb1 := bne_t hb0
                  have HLT : Hid (linkB D zs k = false) := by show _ = _; rw [HLK.out, if_pos hk00, ← hk00, HZK.out]; exact decide_eq_false (by rw [Int.toNat_natCast]; exact hb0)
                  clear hb0 HLK s1 s2 s3 s4 HS hk00
                  generalize D.b z = db at *
                  go_wp2_with fail
                  go_ret2
                  rw [HC.out, chainC_open HM.out hlt HLT.out]
                  exact ⟨rfl, HB3.out.trans (BW.out.mono HB3.out.size)⟩
              · obtain ⟨y, hyk, hyn⟩ := HMIS.out (k - 1) (by omega)
                have q' := (HZ.out.below BW.out hbcd) (k - 1) (by have := HM.out; omega)
                have HYK := Lib.hid hyk
                rw [hyk] at q'
                clear hyk
                have e0 : ((k : Int) == 0) = false := by simpa using hk00
                have e1 : (0 : Int) < (k : Int) := by omega
                have e2 : (1 : Int) ≤ (k : Int) := by omega
                have i1 : (0 : Int) ≤ (k : Int) - 1 := by omega
                have i2 : (k : Int) - 1 < (m : Int) := by omega
                have i3 : ((k : Int) - 1).toNat = k - 1 := by omega
                have i4 : IntKind.i64.wrap ((k : Int) - 1) = (k : Int) - 1 := IntWalk.i64_in _ (by omega)
                have HCALL : Hid (Calls Try.prog 112 #[.pointer (some ⟨dg, 0, none⟩), .int .i64 y, .int .i64 z] wr fun e w' => e = .returned (.bool (D.leads y z)) ∧ Below wr.heap.size wr w') :=
                  leads_any D w3.heap.size dg _ _ _ _ _ _ _ _ _ _ _ _ y z wr HD'.out BW.out.size hyn hzD (by omega)
                have HLK' : Hid (linkB D zs k = D.leads y z) := by show _ = _; rw [HLK.out, if_neg hk00, HYK.out, HZK.out, Int.toNat_natCast, Int.toNat_natCast]
                clear HLK
                generalize D.leads y z = ld at *
                cases ld with
                | true =>
                  generalize D.b z = db at *
                  generalize hds : D.s z = ds at *
                  have HDS := Lib.hid hds
                  clear hds
                  generalize chLen D zs k = cl at *
                  go_wp2_with fail
                  refine HCALL.out.mono ?_
                  rintro e w5 ⟨rfl, b5⟩
                  have u2' := (b5.cell (p := ⟨dg, 2, none⟩) (show dg < wr.heap.size by have := HD'.out.gB; have := BW.out.size; omega)).trans u2
                  have uz' := (b5.cell (p := ⟨bz, oz + z, none⟩) (show bz < wr.heap.size by have := BW.out.size; omega)).trans uz
                  have HB5 := Lib.hid (BW.out.trans (b5.mono BW.out.size))
                  clear u2 u0 uz ub q q' p0 b5 BW HCALL HD' i1 i2 i3 i4
                  go_wp2_with fail
                  go_roundg (m - (k + 1))
                  case measure => omega
                  case rel =>
                    refine ⟨k + 1, by omega, by omega, by go_num, by rw [HS.out, HZK.out, Int.toNat_natCast, HDS.out], HB5.out, (show ∀ j, _ from fun j hj => ?_)⟩
                    by_cases e : j = k
                    · rw [e]; exact HLK'.out
                    · exact E.out j (by omega)
                | false =>
                  clear s1 s2 s3 s4 HS
                  generalize D.b z = db at *
                  generalize D.s z = ds at *
                  generalize chLen D zs k = cl at *
                  go_wp2_with fail
                  refine HCALL.out.mono ?_
                  rintro e w5 ⟨rfl, b5⟩
                  have HB5 := Lib.hid (BW.out.trans (b5.mono BW.out.size))
                  clear u2 u0 uz ub q q' p0 b5 BW HCALL HD' i1 i2 i3 i4
                  go_wp2_with fail
                  go_ret2
                  rw [HC.out, chainC_open HM.out hlt HLK'.out]
                  exact ⟨rfl, HB3.out.trans (HB5.out.mono HB3.out.size)⟩
            · have hltz : ¬ (k : Int) < (m : Int) := by omega
              have he : k = m := by omega
              subst he
              have i1 : (0 : Int) ≤ (k : Int) - 1 := by omega
              have i1' : (1 : Int) ≤ (k : Int) := by omega
              have i2 : (k : Int) - 1 < (k : Int) := by omega
              have i3 : ((k : Int) - 1).toNat = k - 1 := by omega
              have i4 : IntKind.i64.wrap ((k : Int) - 1) = (k : Int) - 1 := IntWalk.i64_in _ (by omega)
              obtain ⟨z, hzk, hzn⟩ := HMIS.out (k - 1) (by omega)
              have q := (HZ.out.below BW.out hbcd) (k - 1) (by have := HM.out; omega)
              have HZK := Lib.hid hzk
              rw [hzk] at q
              clear hzk
              have hD' := HD.out.keep (w' := wr) (fun b o hb => BW.out.cell (p := ⟨b, o, none⟩) hb)
              have hzD : z < D.n := hzn
              have hzDz : (z : Int) < (D.n : Int) := by omega
              have hz0 : (0 : Int) ≤ (z : Int) := by omega
              have u3 := hD'.c3
              have u0 := hD'.c0
              have ue := hD'.pe z hzD
              obtain ⟨rfl, hla⟩ := hD'.la (by omega)
              clear hD'
              by_cases he0 : D.e z = D.side
              · have hb1 := bne_f he0
                have HE0 := Lib.hid he0
                clear he0
                generalize hde : D.e z = de at *
                generalize hds : D.side = ds at *
                have HDE := Lib.hid hde
                have HDSd := Lib.hid hds
                clear hde hds
                generalize hcl : chLen D zs k = cl at *
                have HCL := Lib.hid hcl
                clear hcl
                go_wp2_with fail
                go_quiet (fail)
                go_wp2_with fail
                go_ret2
                rw [HC.out, chainC_good HM.out (by omega) E.out HZK.out (by rw [HDE.out, HDSd.out]; exact HE0.out)]
                refine ⟨?_, ⟨(HB3.out.trans (BW.out.mono HB3.out.size)).os, (HB3.out.trans (BW.out.mono HB3.out.size)).tape, (HB3.out.trans (BW.out.mono HB3.out.size)).output, (HB3.out.trans (BW.out.mono HB3.out.size)).size, (HB3.out.trans (BW.out.mono HB3.out.size)).block⟩⟩
                exact congrArg (fun z => Ending.returned (.tuple #[.int .i64 z, .int .i64 0])) HCL.out.symm
              · have hb1 := bne_t he0
                have HE0 := Lib.hid he0
                clear he0
                generalize hde : D.e z = de at *
                generalize hds : D.side = ds at *
                have HDE := Lib.hid hde
                have HDSd := Lib.hid hds
                clear hde hds
                generalize chLen D zs k = cl at *
                go_wp2_with fail
                go_quiet (fail)
                go_wp2_with fail
                go_ret2
                rw [HC.out, chainC_end HM.out (by omega) HZK.out (by rw [HDE.out, HDSd.out]; exact HE0.out)]
                exact ⟨rfl, ⟨(HB3.out.trans (BW.out.mono HB3.out.size)).os, (HB3.out.trans (BW.out.mono HB3.out.size)).tape, (HB3.out.trans (BW.out.mono HB3.out.size)).output, (HB3.out.trans (BW.out.mono HB3.out.size)).size, (HB3.out.trans (BW.out.mono HB3.out.size)).block⟩⟩

        | true =>
          have HCn : Hid (checkC f r zs true = restC (down f r.hs) zs) := (show _ = _ from HC.out)
          clear HC
          have HC := Lib.hid HCn.out
          clear HCn
          have HBq := Lib.hid (HB2.out.trans (e3.mono HB2.out.size))
          have HF3 := Lib.hid (HF2.out.below e3 HF2.out.lt)
          have HT3 := Lib.hid (HT2.out.below e3 HT2.out.lt)
          have HP2 := Lib.hid (HPw2.out.below e3 HPw2.out.lt)
          have HFR3 := Lib.hid ((HFR2.out.below e3).mono e3.size)
          have HZW := Lib.hid (HZ2.out.below e3 hbcw2)
          have hPl : w.heap.size + 1 + 1 < w3.heap.size := by have := HP2.out.lt; omega
          have hbcw : bc < w3.heap.size := by have := e3.size; omega
          clear HB2 HF2 HT2 HPw2 HFR2 HZ2 hbcw2 hz2 e3 hD
          have a0 : w3.cell? ⟨w.heap.size, 0, none⟩ = some (.int .i64 f.W) := HF3.out.cell 0
          have a1 : w3.cell? ⟨w.heap.size, 1, none⟩ = some (.int .i64 f.H) := HF3.out.cell 1
          have a2 : w3.cell? ⟨w.heap.size, 2, none⟩ = some (.slice A f.ps.length c) := HF3.out.cell 2
          have d0 : w3.cell? ⟨w.heap.size + 1, 0, none⟩ = some (.slice A1 r.ws.length c1) := HT3.out.cell 0
          have d1 : w3.cell? ⟨w.heap.size + 1, 1, none⟩ = some (.slice A2 r.hs.length c2) := HT3.out.cell 1
          have d2 : w3.cell? ⟨w.heap.size + 1, 2, none⟩ = some (.slice A3 r.ts.length c3) := HT3.out.cell 2
          go_wp2_with fail
          refine (down_dir f r A A1 A2 A3 b off b1 o1 b2 o2 b3 o3 c c1 c2 c3 w3 HFR3.out HOK.out.right HOK.out.hs.len).mono ?_
          rintro e w4 ⟨dg, Aa, Ab, Az, ca, cb, cz, ba, oa, bb, ob, bz, oz, rfl, hD, e3⟩
          clear a0 a1 a2 d0 d1 d2 p1
          have HBD := Lib.hid e3
          have HB3 := Lib.hid (HBq.out.trans (e3.mono HBq.out.size))
          have HD := Lib.hid hD
          have hDn : (down f r.hs).n = f.ps.length := HOK.out.hs.len
          have hDl : (down f r.hs).n ≤ 60 := by omega
          have HMIS : Hid (∀ k, k < m → ∃ z : Nat, gz zs k = z ∧ z < (down f r.hs).n) := (show ∀ k, _ from fun k hk => by rw [hDn]; exact HMISf.out k (by rw [HM.out]; exact hk))
          have HCB : Hid (∀ k, k ≤ m → 0 ≤ chLen (down f r.hs) zs k ∧ chLen (down f r.hs) zs k ≤ 100000000) := (show ∀ k, _ from fun k hk => by
            have := chLen_bound (D := down f r.hs) (fun i hi => by
              have hi' : i < r.hs.length := hi
              have h1 := HOK.out.hs.lo _ (List.getElem_mem hi')
              have h2 := HOK.out.hb _ (List.getElem_mem hi')
              rw [← gz_get hi'] at h1 h2
              have h3 : (down f r.hs).s i = gz r.hs i := rfl
              omega) HMIS.out k hk
            omega)
          clear hDn HMISf hD e3
          have HP := Lib.hid (HP2.out.below HBD.out hPl)
          have hPD : w.heap.size + 1 + 1 < w4.heap.size := by have := HBD.out.size; omega
          have HZ := Lib.hid (ZsAt.below HZW.out HBD.out hbcw)
          have hbcd : bc < w4.heap.size := by have := HBD.out.size; omega
          have p0 : w4.cell? ⟨w.heap.size + 1 + 1, 0, none⟩ = some (.slice (some ⟨bc, oc, none⟩) m cc) := HP.out.cell 0
          generalize hDD : down f r.hs = D at *
          have HDD := Lib.hid hDD
          clear hDD HP2 HZW
          have hM0 : (0 : Int) < (m : Int) := by omega
          go_wp2_with fail
          clear p0
          go_loopg [11, 44] m (fun gg s11 s44 wr => ∃ k : Nat, k ≤ m ∧ m - k ≤ gg ∧ s44 = .int .i64 k ∧ s11 = .int .i64 (chLen D zs k) ∧ Hid (Below w4.heap.size w4 wr) ∧ Hid (∀ j, j < k → linkB D zs j = true))
          case atStart => exact ⟨0, Nat.zero_le _, by omega, rfl, rfl, Below.refl _ _, fun j hj => absurd hj (Nat.not_lt_zero _)⟩
          case round =>
            as_aux_lemma =>
            obtain ⟨k, hk, hgk, rfl, rfl, BW, E⟩ := hrel
            have p0 : wr.cell? ⟨w.heap.size + 1 + 1, 0, none⟩ = some (.slice (some ⟨bc, oc, none⟩) m cc) := (HP.out.below BW.out hPD).cell 0
            by_cases hlt : k < m
            · have hltz : (k : Int) < (m : Int) := by omega
              have hk0 : (0 : Int) ≤ (k : Int) := by omega
              obtain ⟨z, hzk, hzn⟩ := HMIS.out k hlt
              have q := (HZ.out.below BW.out hbcd) k (by have := HM.out; omega)
              have HLK : Hid (linkB D zs k = if k = 0 then decide (D.b (gz zs 0).toNat = 0) else D.leads (gz zs (k - 1)).toNat (gz zs k).toNat) := rfl
              have HS : Hid (chLen D zs (k + 1) = chLen D zs k + D.s (gz zs k).toNat) := rfl
              obtain ⟨s1, s2⟩ := HCB.out k (by omega)
              obtain ⟨s3, s4⟩ := HCB.out (k + 1) (by omega)
              rw [HS.out] at s3 s4
              have HZK := Lib.hid hzk
              rw [hzk] at q s3 s4
              rw [Int.toNat_natCast] at s3 s4
              clear hzk
              have hD' := HD.out.keep (w' := wr) (fun b o hb => BW.out.cell (p := ⟨b, o, none⟩) hb)
              have HD' := Lib.hid hD'
              have hzD : z < D.n := hzn
              have hzDz : (z : Int) < (D.n : Int) := by omega
              have hz0 : (0 : Int) ≤ (z : Int) := by omega
              have u2 := hD'.c2
              have u0 := hD'.c0
              have uz := hD'.pz z hzD
              have ub := hD'.pb z hzD
              obtain ⟨rfl, hlz⟩ := hD'.lz (by omega)
              obtain ⟨rfl, hla⟩ := hD'.la (by omega)
              clear hD'
              by_cases hk00 : k = 0
              · have e0 : ((k : Int) == 0) = true := by simpa using hk00
                have e1 : ¬ (0 : Int) < (k : Int) := by omega
                by_cases hb0 : D.b z = 0
                · have hb1 := bne_f hb0
                  have HLT : Hid (linkB D zs k = true) := by show _ = _; rw [HLK.out, if_pos hk00, ← hk00, HZK.out]; exact decide_eq_true (by rw [Int.toNat_natCast]; exact hb0)
                  clear hb0 HLK
                  generalize D.b z = db at *
                  generalize hds : D.s z = ds at *
                  have HDS := Lib.hid hds
                  clear hds
                  generalize chLen D zs k = cl at *
                  have HK00 := Lib.hid hk00
                  clear hk00
                  go_wp2_with fail
                  go_roundg (m - (k + 1))
                  case measure => omega
                  case rel =>
                    refine ⟨k + 1, by omega, by omega, by go_num, by rw [HS.out, HZK.out, Int.toNat_natCast, HDS.out], BW.out, (show ∀ j, _ from fun j hj => ?_)⟩
                    have : j = k := by have := HK00.out; omega
                    rw [this]
                    exact HLT.out
                · have hb1 := bne_t hb0
                  have HLT : Hid (linkB D zs k = false) := by show _ = _; rw [HLK.out, if_pos hk00, ← hk00, HZK.out]; exact decide_eq_false (by rw [Int.toNat_natCast]; exact hb0)
                  clear hb0 HLK s1 s2 s3 s4 HS hk00
                  generalize D.b z = db at *
                  go_wp2_with fail
                  go_ret2
                  rw [HC.out, chainC_open HM.out hlt HLT.out]
                  exact ⟨rfl, HB3.out.trans (BW.out.mono HB3.out.size)⟩
              · obtain ⟨y, hyk, hyn⟩ := HMIS.out (k - 1) (by omega)
                have q' := (HZ.out.below BW.out hbcd) (k - 1) (by have := HM.out; omega)
                have HYK := Lib.hid hyk
                rw [hyk] at q'
                clear hyk
                have e0 : ((k : Int) == 0) = false := by simpa using hk00
                have e1 : (0 : Int) < (k : Int) := by omega
                have e2 : (1 : Int) ≤ (k : Int) := by omega
                have i1 : (0 : Int) ≤ (k : Int) - 1 := by omega
                have i2 : (k : Int) - 1 < (m : Int) := by omega
                have i3 : ((k : Int) - 1).toNat = k - 1 := by omega
                have i4 : IntKind.i64.wrap ((k : Int) - 1) = (k : Int) - 1 := IntWalk.i64_in _ (by omega)
                have HCALL : Hid (Calls Try.prog 112 #[.pointer (some ⟨dg, 0, none⟩), .int .i64 y, .int .i64 z] wr fun e w' => e = .returned (.bool (D.leads y z)) ∧ Below wr.heap.size wr w') :=
                  leads_any D w4.heap.size dg _ _ _ _ _ _ _ _ _ _ _ _ y z wr HD'.out BW.out.size hyn hzD (by omega)
                have HLK' : Hid (linkB D zs k = D.leads y z) := by show _ = _; rw [HLK.out, if_neg hk00, HYK.out, HZK.out, Int.toNat_natCast, Int.toNat_natCast]
                clear HLK
                generalize D.leads y z = ld at *
                cases ld with
                | true =>
                  generalize D.b z = db at *
                  generalize hds : D.s z = ds at *
                  have HDS := Lib.hid hds
                  clear hds
                  generalize chLen D zs k = cl at *
                  go_wp2_with fail
                  refine HCALL.out.mono ?_
                  rintro e w5 ⟨rfl, b5⟩
                  have u2' := (b5.cell (p := ⟨dg, 2, none⟩) (show dg < wr.heap.size by have := HD'.out.gB; have := BW.out.size; omega)).trans u2
                  have uz' := (b5.cell (p := ⟨bz, oz + z, none⟩) (show bz < wr.heap.size by have := BW.out.size; omega)).trans uz
                  have HB5 := Lib.hid (BW.out.trans (b5.mono BW.out.size))
                  clear u2 u0 uz ub q q' p0 b5 BW HCALL HD' i1 i2 i3 i4
                  go_wp2_with fail
                  go_roundg (m - (k + 1))
                  case measure => omega
                  case rel =>
                    refine ⟨k + 1, by omega, by omega, by go_num, by rw [HS.out, HZK.out, Int.toNat_natCast, HDS.out], HB5.out, (show ∀ j, _ from fun j hj => ?_)⟩
                    by_cases e : j = k
                    · rw [e]; exact HLK'.out
                    · exact E.out j (by omega)
                | false =>
                  clear s1 s2 s3 s4 HS
                  generalize D.b z = db at *
                  generalize D.s z = ds at *
                  generalize chLen D zs k = cl at *
                  go_wp2_with fail
                  refine HCALL.out.mono ?_
                  rintro e w5 ⟨rfl, b5⟩
                  have HB5 := Lib.hid (BW.out.trans (b5.mono BW.out.size))
                  clear u2 u0 uz ub q q' p0 b5 BW HCALL HD' i1 i2 i3 i4
                  go_wp2_with fail
                  go_ret2
                  rw [HC.out, chainC_open HM.out hlt HLK'.out]
                  exact ⟨rfl, HB3.out.trans (HB5.out.mono HB3.out.size)⟩
            · have hltz : ¬ (k : Int) < (m : Int) := by omega
              have he : k = m := by omega
              subst he
              have i1 : (0 : Int) ≤ (k : Int) - 1 := by omega
              have i1' : (1 : Int) ≤ (k : Int) := by omega
              have i2 : (k : Int) - 1 < (k : Int) := by omega
              have i3 : ((k : Int) - 1).toNat = k - 1 := by omega
              have i4 : IntKind.i64.wrap ((k : Int) - 1) = (k : Int) - 1 := IntWalk.i64_in _ (by omega)
              obtain ⟨z, hzk, hzn⟩ := HMIS.out (k - 1) (by omega)
              have q := (HZ.out.below BW.out hbcd) (k - 1) (by have := HM.out; omega)
              have HZK := Lib.hid hzk
              rw [hzk] at q
              clear hzk
              have hD' := HD.out.keep (w' := wr) (fun b o hb => BW.out.cell (p := ⟨b, o, none⟩) hb)
              have hzD : z < D.n := hzn
              have hzDz : (z : Int) < (D.n : Int) := by omega
              have hz0 : (0 : Int) ≤ (z : Int) := by omega
              have u3 := hD'.c3
              have u0 := hD'.c0
              have ue := hD'.pe z hzD
              obtain ⟨rfl, hla⟩ := hD'.la (by omega)
              clear hD'
              by_cases he0 : D.e z = D.side
              · have hb1 := bne_f he0
                have HE0 := Lib.hid he0
                clear he0
                generalize hde : D.e z = de at *
                generalize hds : D.side = ds at *
                have HDE := Lib.hid hde
                have HDSd := Lib.hid hds
                clear hde hds
                generalize hcl : chLen D zs k = cl at *
                have HCL := Lib.hid hcl
                clear hcl
                go_wp2_with fail
                go_quiet (fail)
                go_wp2_with fail
                go_ret2
                rw [HC.out, chainC_good HM.out (by omega) E.out HZK.out (by rw [HDE.out, HDSd.out]; exact HE0.out)]
                refine ⟨?_, ⟨(HB3.out.trans (BW.out.mono HB3.out.size)).os, (HB3.out.trans (BW.out.mono HB3.out.size)).tape, (HB3.out.trans (BW.out.mono HB3.out.size)).output, (HB3.out.trans (BW.out.mono HB3.out.size)).size, (HB3.out.trans (BW.out.mono HB3.out.size)).block⟩⟩
                exact congrArg (fun z => Ending.returned (.tuple #[.int .i64 z, .int .i64 0])) HCL.out.symm
              · have hb1 := bne_t he0
                have HE0 := Lib.hid he0
                clear he0
                generalize hde : D.e z = de at *
                generalize hds : D.side = ds at *
                have HDE := Lib.hid hde
                have HDSd := Lib.hid hds
                clear hde hds
                generalize chLen D zs k = cl at *
                go_wp2_with fail
                go_quiet (fail)
                go_wp2_with fail
                go_ret2
                rw [HC.out, chainC_end HM.out (by omega) HZK.out (by rw [HDE.out, HDSd.out]; exact HE0.out)]
                exact ⟨rfl, ⟨(HB3.out.trans (BW.out.mono HB3.out.size)).os, (HB3.out.trans (BW.out.mono HB3.out.size)).tape, (HB3.out.trans (BW.out.mono HB3.out.size)).output, (HB3.out.trans (BW.out.mono HB3.out.size)).size, (HB3.out.trans (BW.out.mono HB3.out.size)).block⟩⟩

  · have h1 := bne_t hE
    have HC1 : Hid (checkC f r zs dn = (0, (shapedF f r).2)) := by show _ = _; rw [HCK.out, if_pos hE]
    clear hE HCK
    generalize shapedF f r = sp at *
    go_wp2_with fail
    go_ret2
    rw [HC1.out]
    exact ⟨rfl, HB1.out⟩
end Go.Proofs.Ytlfeoofchebbkaa
