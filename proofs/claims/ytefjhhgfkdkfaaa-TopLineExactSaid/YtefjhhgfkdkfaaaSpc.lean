/- The document's answer: Spaces, KindsErr, sortErr, CheckCase; base.Ints. -/
import Derived.Test.YtefjhhgfkdkfaaaOta
import Derived.Test.YtefjhhgfkdkfaaaEqc
import Derived.Deep.RegionHeld3
import Derived.Test.YtefjhhgfkdkfaaaRff
namespace Go.Proofs.Ytefjhhgfkdkfaaa
set_option linter.unusedSimpArgs false
set_option linter.unusedVariables false
open Go.RowKit
set_option maxRecDepth 100000 in
set_option maxHeartbeats 2000000 in
theorem ints27_any (a b : List Int) (va vb : Value) (w : World) (ha : IV w a va) (hb : IV w b vb) (hm : a.length ≤ 1000000) (hm2 : b.length ≤ 1000000) : Calls Try.prog 27 #[va, vb] w fun e w' => e = .returned (.bool (decide (a = b))) ∧ Below w.heap.size w w' := by
  have HP : Hid (∀ W c, c = decide (a = b) → Below w.heap.size w W → Ending.returned (.bool c) = .returned (.bool (decide (a = b))) ∧ Below w.heap.size w W) := (show ∀ W c, _ from fun W c e h => ⟨by rw [e], h⟩)
  obtain ⟨A1, b1, o1, c1, rfl, hA1, hz1, -, -⟩ := ha.open
  obtain ⟨A2, b2, o2, c2, rfl, hA2, hz2, -, -⟩ := hb.open
  have HA1 := Lib.hid hA1
  have HA2 := Lib.hid hA2
  have HZ1 := Lib.hid hz1
  have HZ2 := Lib.hid hz2
  clear ha hb hA1 hA2 hz1 hz2
  have HEX : Hid (a.length = b.length → (∀ j, j < a.length → gz a j = gz b j) → true = decide (a = b)) := (show _ → _ → _ from fun h1 h2 => (decide_eq_true (gz_ext h1 h2)).symm)
  have HNE : Hid (∀ j, gz a j ≠ gz b j → false = decide (a = b)) := (show ∀ j, _ from fun j h => (decide_eq_false (fun e => h (by rw [e]))).symm)
  by_cases hl : a.length = b.length
  · have HZ2' : Hid (∀ j, j < a.length → w.cell? ⟨b2, o2 + j, none⟩ = some (.int .i64 (gz b j))) := (show ∀ j, _ from fun j hj => HZ2.out j (by omega))
    rw [← hl] at hm2 HA2 ⊢
    rw [← hl] at HEX
    clear hl HZ2
    generalize hN : a.length = N at *
    have HN := Lib.hid hN
    clear hN
    have hbn0 := bne_f (rfl : (N : Int) = (N : Int))
    go_enter Try.func27, Try.ntmps27
    go_wp2_with fail
    go_loopg [5] N (fun gg s5 wr => ∃ k : Nat, k ≤ N ∧ N - k ≤ gg ∧ s5 = .int .i64 (k : Int) ∧ Hid (Below w.heap.size w wr) ∧ Hid (∀ j, j < k → gz a j = gz b j))
    case atStart => exact ⟨0, by omega, by omega, rfl, Below.refl _ _, fun j hj => absurd hj (Nat.not_lt_zero _)⟩
    case round =>
      obtain ⟨k, hk, hg, rfl, HB, HE⟩ := hrel
      by_cases hlt : k < N
      · have hltz : (k : Int) < (N : Int) := by omega
        obtain ⟨rfl, hb1⟩ := HA1.out (by omega)
        obtain ⟨rfl, hb2⟩ := HA2.out (by omega)
        have z1 := (HB.out.cell (p := ⟨b1, o1 + k, none⟩) hb1).trans (HZ1.out k (by rw [HN.out]; exact hlt))
        have z2 := (HB.out.cell (p := ⟨b2, o2 + k, none⟩) hb2).trans (HZ2'.out k hlt)
        have HQ : Hid (gz a k = gz b k → ∀ j, j < k + 1 → gz a j = gz b j) := (show _ → _ from fun h j hj => by
          by_cases e : j = k
          · subst e; exact h
          · exact HE.out j (by omega))
        have HQ2 := Lib.hid (HNE.out k)
        generalize gz a k = x at *
        generalize gz b k = y at *
        by_cases hxy : x = y
        · have HXY := Lib.hid hxy
          have hbn := bne_f hxy
          clear hxy
          go_wp2_with fail
          go_quiet (fail)
          have HB2 := Lib.hid (HB.out.trans ((below_drewN wr nq).mono HB.out.size))
          generalize wr.drewN nq = W2 at *
          go_wp2_with fail
          go_roundg (N - (k + 1))
          case measure => omega
          case rel => exact ⟨k + 1, by omega, by omega, by go_num, HB2.out, HQ.out HXY.out⟩
        · have HX := Lib.hid (HQ2.out hxy)
          have hbn := bne_t hxy
          go_wp2_with fail
          go_quiet (fail)
          have HB2 := Lib.hid (HB.out.trans ((below_drewN wr nq).mono HB.out.size))
          generalize wr.drewN nq = W2 at *
          go_wp2_with fail
          go_ret
          exact HP.out _ _ HX.out HB2.out
      · have hltz : ¬ (k : Int) < (N : Int) := by omega
        have HX := Lib.hid (HEX.out (by first | rfl | trivial) (fun j hj => HE.out j (by omega)))
        go_wp2_with fail
        go_ret
        exact HP.out _ _ HX.out HB.out
  · have HX : Hid (false = decide (a = b)) := (show _ = _ from (decide_eq_false (fun e => hl (by rw [e]))).symm)
    have hlz : ¬ (a.length : Int) = (b.length : Int) := by omega
    have hbn := bne_t hlz
    go_enter Try.func27, Try.ntmps27
    go_wp2_with fail
    go_ret
    exact HP.out _ _ HX.out (Below.refl _ _)
end Go.Proofs.Ytefjhhgfkdkfaaa
/- The document's spaces of a fount, the narrowest first: Spaces, KindsErr. -/
namespace Go.Proofs.Ytefjhhgfkdkfaaa
set_option linter.unusedSimpArgs false
set_option linter.unusedVariables false
open Go.RowKit
/-- append(l, m...) at a step of a region that draws its order, l a row of the call's own. -/
theorem step_app {P : Program} {ops : Array Oper} {o : Oper} {a : Act} {w : World} {K : Act → World → Prop} {Q : Exit → Act → World → Prop} {E : Prop} (hgd : o.guard = none) (s x : Operand) (t : TypeId)
    (ho : o.op = .call { callee := .builtin .append, args := #[s, x], argTypes := #[t, t] })
    (base : Nat) (e : TypeId) (i : TypeInfo) (z : Value) (size bytes : Nat) (ht : P.underlying t = some (.slice e)) (hi : P.info? e = some i) (hz : i.zero = some z)
    (hsize : i.size = size) (hby : i.bytes = bytes) (hzs : z.cells.size = size) (hsz : 0 < size)
    (v : Value) (n : Nat) (xs : List Value) (hs : a.eval s = v) (hown : w.ownsRow base e size v n xs)
    (A : Option Addr) (b off m c : Nat) (news : List Value) (hx : a.eval x = .slice A m c) (hl : news.length = m * size) (hA : Lies A m w.heap.size b off) (hnews : ∀ j, j < m * size → w.cell? ⟨b, off + j, none⟩ = news[j]?) (h1 : ∀ u ∈ news, u.oneCell' = true)
    (h63 : n + m ≤ maxLen) (hbytes : (n + m) * bytes ≤ 140737488355328) (hbase : base ≤ w.heap.size)
    (h : ∀ v' w', w'.ownsRow base e size v' (n + m) (xs ++ news) → w.grownBy w' v.ownBlock → (v'.ownBlock = v.ownBlock ∨ v'.ownBlock = some w.heap.size) → K (a.put o.dst v') w') : if Region.wanted o (yielded ops a.tmps) = true then Oper.wp P o a w K Q else E := by
  have hwt : Region.wanted o (yielded ops a.tmps) = true := by simp [Region.wanted, hgd]
  rw [if_pos hwt]
  obtain ⟨v', w', hr, h2, h3, h4⟩ := run_app (P := P) w base t o.type e i z size bytes ht hi hz hsize hby hzs hsz v n xs hown A b off m c news hl hA hnews h1 h63 hbytes hbase
  unfold Oper.wp execOp
  simp only [ho, resolve, invoke, builtin, Sem.run_bind, Sem.run_pure, Result.andThen_ok, List.map_toArray, List.map_cons, List.map_nil, hs, hx, hr]
  exact h v' w' h2 h3 h4
/-- Where a sort of a width goes among sorts: behind the last one that is not wider, of the first m. -/
def posK (f : Fnt) (l : List Int) (wx : Int) : Nat → Nat
  | 0 => 0
  | m + 1 => if wx < wd f (gz l m) then posK f l wx m else m + 1
def insW (f : Fnt) (l : List Int) (i : Int) : List Int := l.take (posK f l (wd f i) l.length) ++ [i] ++ l.drop (posK f l (wd f i) l.length)
/-- The spaces among the first k sorts, the narrowest first. -/
def spcK (f : Fnt) : Nat → List Int
  | 0 => []
  | k + 1 => if spB f (k : Int) then insW f (spcK f k) (k : Int) else spcK f k
theorem posK_le (f : Fnt) (l : List Int) (wx : Int) : ∀ m, posK f l wx m ≤ m
  | 0 => Nat.le_refl _
  | m + 1 => by
    unfold posK
    split
    · have := posK_le f l wx m; omega
    · exact Nat.le_refl _
theorem insW_len (f : Fnt) (l : List Int) (i : Int) : (insW f l i).length = l.length + 1 := by
  have := posK_le f l (wd f i) l.length
  unfold insW
  simp only [List.length_append, List.length_take, List.length_drop, List.length_singleton]
  omega
theorem insW_mem {f : Fnt} {l : List Int} {i x : Int} (h : x ∈ insW f l i) : x = i ∨ x ∈ l := by
  unfold insW at h
  rcases List.mem_append.1 h with h | h
  · rcases List.mem_append.1 h with h | h
    · exact .inr (List.mem_of_mem_take h)
    · exact .inl (by simpa using h)
  · exact .inr (List.mem_of_mem_drop h)
theorem spcK_len (f : Fnt) : ∀ k, (spcK f k).length = (spl f.sorts k).length
  | 0 => rfl
  | k + 1 => by
    unfold spcK spl
    have e : spB f (k : Int) = ((gs f.sorts k).kind == 3) := rfl
    rw [e]
    split
    · rw [insW_len, spcK_len f k, List.length_append]; rfl
    · exact spcK_len f k
theorem spcK_mem (f : Fnt) : ∀ k x, x ∈ spcK f k → 0 ≤ x ∧ x < (k : Int)
  | 0, x, h => by cases h
  | k + 1, x, h => by
    unfold spcK at h
    split at h
    · rcases insW_mem h with h | h
      · omega
      · have := spcK_mem f k x h; omega
    · have := spcK_mem f k x h; omega
theorem grownb_cell {W W' : World} {g n c : Nat} (hg : W.grownBy W' (Value.slice (some ⟨g, 0, none⟩) n c).ownBlock) {b o : Nat} {v : Value} (hb : b < W.heap.size) (hne : b ≠ g) (h : W.cell? ⟨b, o, none⟩ = some v) : W'.cell? ⟨b, o, none⟩ = some v :=
  (World.cell?_of_block (a := ⟨b, o, none⟩) (hg.block b hb (fun e => by
    have e2 : (some b : Option Nat) = some g := e
    injection e2 with e2
    exact hne e2))).trans h
theorem own_zero {W : World} {B g : Nat} {t : TypeId} (hB : B ≤ g) (h : W.heap[g]? = some (.cells #[] t (0, 0))) : W.ownsRow B t 1 (.slice (some ⟨g, 0, none⟩) 0 0) 0 [] := ⟨rfl, .inr ⟨g, 0, #[], rfl, hB, h, Nat.le_refl _, by simp, by simp, by simp⟩⟩
set_option maxRecDepth 100000 in
set_option maxHeartbeats 8000000 in
theorem spaces_any (f : Fnt) (v : Value) (w : World) (hv : SoV w f.sorts v) (hm : f.sorts.length ≤ 1000) : Calls Try.prog 91 #[.agg (fcs f v)] w (CloPost w (spcK f f.sorts.length)) := by
  have hb0 := below_new w (.cells (fcs f v) 24)
  have HV0 := Lib.hid (hv.below hb0)
  have HB0 := Lib.hid hb0
  have HK0 := Lib.hid (Blk.new w 24 (fcs f v))
  obtain ⟨Av, cv, rfl⟩ := hv.shape
  have HP : Hid (∀ W u, IO W w.heap.size (spcK f f.sorts.length) u → Below w.heap.size w W → CloPost w (spcK f f.sorts.length) (.returned u) W) := (show ∀ W u, _ from fun W u h1 h2 => ⟨u, rfl, h1, h2⟩)
  have HIS : Hid (∀ (W : World) (s : Int), SoV W f.sorts (.slice Av f.sorts.length cv) → 0 ≤ s ∧ s < f.sorts.length → Calls Try.prog 92 #[.agg (fcs f (.slice Av f.sorts.length cv)), .int .i64 s] W fun e w' => e = .returned (.bool (spB f s)) ∧ Below W.heap.size W w') := (show ∀ W s, _ from fun W s h1 h2 => isSpaceR_any f _ s W h1 h2 hm)
  have HI0 : Hid (IO (w.alloc (.cells (fcs f (.slice Av f.sorts.length cv)) 24)) w.heap.size (spcK f 0) (.slice none 0 0)) := World.ownsRow_nil _ _ _ _
  obtain ⟨i3, hi3, hz3, hy3, hx3⟩ := info_parts info3
  have hsl0 : ∀ k, k ≤ f.sorts.length → (spcK f k).length ≤ k := fun k _ => by rw [spcK_len]; exact spl_len _ _
  have HSL := Lib.hid hsl0
  clear hv hb0 hsl0
  generalize hN : f.sorts.length = N at *
  have HN := Lib.hid hN
  clear hN
  go_enter Try.func91, Try.ntmps91
  go_wp2_with fail
  generalize w.alloc (.cells (fcs f (.slice Av N cv)) 24) = W0 at *
  go_loopg [3, 4, 5] N (fun gg s3 s4 _ wr => ∃ k : Nat, k ≤ N ∧ N - k ≤ gg ∧ s4 = .int .i64 (k : Int) ∧ Hid (IO wr w.heap.size (spcK f k) s3) ∧ Hid (Below W0.heap.size W0 wr))
  case atStart => exact ⟨0, by omega, by omega, rfl, HI0.out, Below.refl _ _⟩
  case round =>
    obtain ⟨k, hk, hg, rfl, HI, HB⟩ := hrel
    have HBr := Lib.hid (HB0.out.trans (HB.out.mono HB0.out.size))
    have HKr := Lib.hid (HK0.out.below HB.out HK0.out.lt)
    have HVr := Lib.hid (HV0.out.below HB.out)
    have k0 := HKr.out.cell 0
    have k1 := HKr.out.cell 1
    have k2 := HKr.out.cell 2
    have kl := HKr.out.lt
    by_cases hlt : k < N
    · have hltz : (k : Int) < (N : Int) := by omega
      have hlk := HSL.out k hk
      have HST : Hid (spcK f (k + 1) = if spB f (k : Int) then insW f (spcK f k) (k : Int) else spcK f k) := rfl
      have HMM := Lib.hid (spcK_mem f k)
      have HC := Lib.hid (HIS.out wr (k : Int) HVr.out ⟨by omega, by omega⟩)
      obtain ⟨A3, c3, rfl⟩ := HI.out.shape
      generalize spcK f k = l at *
      go_wp2_with fail
      refine HC.out.mono ?_
      rintro e w2 ⟨rfl, hb2⟩
      have HB2 := Lib.hid (HB.out.trans (hb2.mono HB.out.size))
      have HK2 := Lib.hid (HK0.out.below HB2.out HK0.out.lt)
      have HV2 := Lib.hid (HV0.out.below HB2.out)
      have HI2 := Lib.hid (HI.out.below hb2)
      clear k0 k1 k2 kl hb2 HC HB HBr HKr HVr HI
      cases hsp : spB f (k : Int) with
      | false =>
        have HNX : Hid (spcK f (k + 1) = l) := (show _ = _ from HST.out.trans (by rw [hsp]; rfl))
        clear hsp HST
        go_wp2_with fail
        go_roundg (N - (k + 1))
        case measure => omega
        case rel => exact ⟨k + 1, by omega, by omega, by go_num, by rw [HNX.out]; exact HI2.out, HB2.out⟩
      | true =>
        have HNX0 : Hid (spcK f (k + 1) = insW f l (k : Int)) := (show _ = _ from HST.out.trans (by rw [hsp]; rfl))
        clear hsp HST
        go_upto_block 2 with fail
        go_cut [5] (fun s5 wx => ∃ m : Nat, s5 = .int .i64 (m : Int) ∧ m ≤ l.length ∧ Hid (posK f l (wd f (k : Int)) l.length = m) ∧ Hid (Below w2.heap.size w2 wx))
        case first =>
          go_wp2_with fail
          have HF0 : Hid (∀ W, Below w2.heap.size w2 W → W.cell? ⟨w.heap.size, 2, none⟩ = some (.slice Av N cv) ∧ IV W l (.slice A3 l.length c3) ∧ SoV W f.sorts (.slice Av N cv)) := (show ∀ W, _ from fun W hW => ⟨(HK2.out.below hW HK2.out.lt).cell 2, HI2.out.iv.below hW, HV2.out.below hW⟩)
          go_loopg [5] l.length (fun gg2 s5 wr => ∃ m : Nat, m ≤ l.length ∧ m ≤ gg2 ∧ s5 = .int .i64 (m : Int) ∧ Hid (posK f l (wd f (k : Int)) l.length = posK f l (wd f (k : Int)) m) ∧ Hid (Below w2.heap.size w2 wr))
          case atStart => exact ⟨l.length, by omega, by omega, rfl, rfl, Below.refl _ _⟩
          case round =>
            obtain ⟨m, hml, hg2, rfl, HPK, HBJ⟩ := hrel
            have HB3 := Lib.hid (HBJ.out.trans ((Below.refl wr.heap.size wr).drew.mono HBJ.out.size))
            by_cases hm0 : 0 < m
            · obtain ⟨mp, rfl⟩ : ∃ q, m = q + 1 := ⟨m - 1, by omega⟩
              have hmz : (0 : Int) < ((mp + 1 : Nat) : Int) := by omega
              have hmz2 : (0 : Int) < (mp : Int) + 1 := by omega
              have hmd : decide ((0 : Int) < ((mp + 1 : Nat) : Int)) = true := decide_eq_true hmz
              have hmd2 : decide ((0 : Int) < (mp : Int) + 1) = true := decide_eq_true hmz2
              have hmd3 : decide (((mp + 1 : Nat) : Int) > 0) = true := decide_eq_true hmz
              have hsub : ((mp + 1 : Nat) : Int) - 1 = (mp : Int) := by omega
              have hsub2 : (mp : Int) + 1 - 1 = (mp : Int) := by omega
              obtain ⟨x2, hiv, A', b, off, c', he, hA', hss, -, -, -⟩ := HF0.out wr HBJ.out
              rw [HN.out] at he hA'
              injection he with e1 e2 e3
              clear e2 e3
              subst e1
              obtain ⟨rfl, hbl⟩ := hA' (by omega)
              obtain ⟨A3', b3, o3, c3', he3, hA3, hz3', -, -⟩ := hiv.open
              injection he3 with e1 e2 e3
              clear e2 e3
              subst e1
              obtain ⟨rfl, hb3⟩ := hA3 (by omega)
              have z3 := hz3' mp (by omega)
              have hin := HMM.out (gz l mp) (gz_mem (by omega))
              obtain ⟨q, hq⟩ := Int.eq_ofNat_of_zero_le hin.1
              have hqN : q < N := by omega
              have hqz : (q : Int) < (N : Int) := by omega
              obtain ⟨-, -, -, y3⟩ := hss q (by rw [HN.out]; exact hqN)
              obtain ⟨-, -, -, t3⟩ := hss k (by rw [HN.out]; exact hlt)
              have HWQ : Hid ((gs f.sorts q).width = wd f (gz l mp)) := (show _ = _ from by rw [hq]; rfl)
              have HWK : Hid ((gs f.sorts k).width = wd f (k : Int)) := rfl
              rw [hq] at z3
              have HPS : Hid (posK f l (wd f (k : Int)) (mp + 1) = if wd f (k : Int) < wd f (gz l mp) then posK f l (wd f (k : Int)) mp else mp + 1) := rfl
              rw [HWQ.out] at y3
              rw [HWK.out] at t3
              clear hss hA' hA3 hz3' hin hq HWQ HWK hiv
              generalize wd f (gz l mp) = wq at *
              generalize hwk : wd f (k : Int) = wk at *
              clear hwk
              by_cases hw : wk < wq
              · have hwd : decide (wk < wq) = true := decide_eq_true hw
                have HPN : Hid (posK f l wk l.length = posK f l wk mp) := (show _ = _ from HPK.out.trans (HPS.out.trans (if_pos hw)))
                go_upto_region 7 with fail
                go_big_region
                go_wp2_with fail
                go_roundg mp
                case measure => omega
                case rel => exact ⟨mp, by omega, by omega, by go_num, HPN.out, HB3.out⟩
              · have hwd : decide (wk < wq) = false := decide_eq_false hw
                have HPN : Hid (posK f l wk l.length = mp + 1) := (show _ = _ from HPK.out.trans (HPS.out.trans (if_neg hw)))
                go_upto_region 7 with fail
                go_big_region
                go_wp2_with fail
                go_meet
                exact ⟨mp + 1, by go_num, hml, HPN.out, HB3.out⟩
            · have hmz : ¬ (0 : Int) < (m : Int) := by omega
              have hmd : decide ((0 : Int) < (m : Int)) = false := decide_eq_false hmz
              have hm1 : m = 0 := by omega
              have HPN : Hid (posK f l (wd f (k : Int)) l.length = m) := (show _ = _ from HPK.out.trans (by rw [hm1]; rfl))
              clear hm1
              go_upto_region 7 with fail
              go_big_region
              go_wp2_with fail
              go_meet
              exact ⟨m, rfl, hml, HPN.out, HB3.out⟩
        case rest =>
          obtain ⟨m, rfl, hml, HPM, HBm⟩ := hcut
          have HB := Lib.hid (HB2.out.trans (HBm.out.mono HB2.out.size))
          have HBr := Lib.hid (HB0.out.trans (HB.out.mono HB0.out.size))
          have HNX : Hid (spcK f (k + 1) = l.take m ++ [(k : Int)] ++ l.drop m) := (show _ = _ from by rw [HNX0.out]; unfold insW; rw [HPM.out])
          have hIc := (HI2.out.below HBm.out).iv
          obtain ⟨A3', b3, o3, c3', he3, hA3, hz3, hlc, -⟩ := (iv_take hIc hml).open
          rw [List.length_take, Nat.min_eq_left hml] at he3 hA3 hlc
          injection he3 with e1 e2 e3
          subst e1 e3
          have HTK : Hid (∀ W, Below wc.heap.size wc W → Lies A3 m W.heap.size b3 o3 ∧ ∀ j, j < m * 1 → W.cell? ⟨b3, o3 + j, none⟩ = (zv (l.take m))[j]?) := (show ∀ W, _ from fun W hW => ⟨hA3.mono hW.size, fun j hj => (hW.cell (p := ⟨b3, o3 + j, none⟩) (hA3 (by omega)).2).trans (hz3.news j (by rw [List.length_take, Nat.min_eq_left hml]; exact hj))⟩)
          have HTL : Hid ((zv (l.take m)).length = m * 1) := (show _ = _ from by rw [zv_len, List.length_take, Nat.min_eq_left hml, Nat.mul_one])
          have HTO := Lib.hid (zv_one (l.take m))
          have HDL : Hid ((zv (l.drop m)).length = (l.length - m) * 1) := (show _ = _ from by rw [zv_len, List.length_drop, Nat.mul_one])
          have HDO := Lib.hid (zv_one (l.drop m))
          have hbd : Below wc.heap.size wc wc.drew := (Below.refl _ _).drew
          have HDC := Lib.hid (hbd.alloc hbd.size (.cells #[] 3))
          have HDB := Lib.hid (HDC.out.alloc HDC.out.size (.cells #[.int .i64 (k : Int)] 3))
          have HDA := Lib.hid ((hbd.alloc hbd.size (.cells #[.int .i64 (k : Int)] 3)).alloc (hbd.alloc hbd.size (.cells #[.int .i64 (k : Int)] 3)).size (.cells #[] 3))
          have HEC : Hid ((wc.drew.alloc (.cells #[] 3)).ownsRow wc.heap.size 3 1 (.slice (some ⟨wc.heap.size, 0, none⟩) 0 0) 0 []) := own_zero (Nat.le_refl _) (heap_alloc_new wc.drew _)
          have HEB : Hid (((wc.drew.alloc (.cells #[] 3)).alloc (.cells #[.int .i64 (k : Int)] 3)).ownsRow wc.heap.size 3 1 (.slice (some ⟨wc.heap.size, 0, none⟩) 0 0) 0 []) := own_zero (Nat.le_refl _) (((below_new (wc.drew.alloc (.cells #[] 3)) _).block _ (by simp)).trans (heap_alloc_new wc.drew _))
          have HEA : Hid (((wc.drew.alloc (.cells #[.int .i64 (k : Int)] 3)).alloc (.cells #[] 3)).ownsRow wc.heap.size 3 1 (.slice (some ⟨wc.heap.size + 1, 0, none⟩) 0 0) 0 []) := own_zero (Nat.le_succ _) (by have := heap_alloc_new (wc.drew.alloc (.cells #[.int .i64 (k : Int)] 3)) (.cells #[] 3); rw [World.size_alloc] at this; exact this)
          have HIB : Hid (((wc.drew.alloc (.cells #[] 3)).alloc (.cells #[.int .i64 (k : Int)] 3)).cell? ⟨wc.heap.size + 1, 0, none⟩ = some (.int .i64 (k : Int))) := (show _ = _ from by have := (Blk.new (wc.drew.alloc (.cells #[] 3)) 3 #[.int .i64 (k : Int)]).cell 0; rw [World.size_alloc] at this; exact this)
          have HIA : Hid (((wc.drew.alloc (.cells #[.int .i64 (k : Int)] 3)).alloc (.cells #[] 3)).cell? ⟨wc.heap.size, 0, none⟩ = some (.int .i64 (k : Int))) := (show _ = _ from ((Blk.new wc.drew 3 #[.int .i64 (k : Int)]).below (below_new _ _) (by simp)).cell 0)
          have HONE : Hid (∀ u ∈ [Value.int .i64 (k : Int)], u.oneCell' = true) := (show ∀ u, _ → _ from fun u hu => by (have : u = .int .i64 (k : Int) := by simpa using hu); subst this; rfl)
          have hmz : (m : Int) ≤ (l.length : Int) := by omega
          have hmc : (m : Int) ≤ (c3 : Int) := by omega
          clear hA3 hz3 e2 hbd
          by_cases hcm : c3 = m
          · have hIV0 := iv_drop0 hIc hml hcm
            clear hIc
            subst hcm
            obtain ⟨A10, b10, o10, c10, he10, hA10, hz10, -, -⟩ := (hIV0).open
            rw [List.length_drop] at he10 hA10
            injection he10 with e1 e2 e3
            rw [← e1] at hA10
            clear e1 e2 e3
            have HDK : Hid (∀ W, Below wc.heap.size wc W → Lies A3 (l.length - c3) W.heap.size b10 o10 ∧ ∀ j, j < (l.length - c3) * 1 → W.cell? ⟨b10, o10 + j, none⟩ = (zv (l.drop c3))[j]?) := (show ∀ W, _ from fun W hW => ⟨hA10.mono hW.size, fun j hj => (hW.cell (p := ⟨b10, o10 + j, none⟩) (hA10 (by omega)).2).trans (hz10.news j (by rw [List.length_drop]; exact hj))⟩)
            clear hA10 hz10
            go_wp2_with fail
            go_region_held3 (fun _ => True) (trivial)
              (first
              | (refine step_app rfl _ _ 30 rfl wc.heap.size 3 i3 _ 1 8 Try.underlying30 hi3 hz3 hy3 hx3 rfl (by omega) _ 0 [] (by rfl) HEC.out A3 b3 o3 c3 c3 (zv (l.take c3)) (by rfl) HTL.out (HTK.out _ HDC.out).1 (HTK.out _ HDC.out).2 HTO.out (by simp only [maxLen]; omega) (by omega) HDC.out.size ?_
                 intro v4 w4 hown4 hg4 hat4
                 have HO4 := Lib.hid hown4
                 have HB4 : Hid (Below wc.heap.size wc w4) := (show Below _ _ _ from HDC.out.grown hg4 HDC.out.size (fun t ht => (World.ownsRow.lt HEC.out t ht).1))
                 clear hown4 hg4 hat4)
              | (refine step_app rfl _ _ 30 rfl wc.heap.size 3 i3 _ 1 8 Try.underlying30 hi3 hz3 hy3 hx3 rfl (by omega) _ 0 [] (by rfl) HEB.out A3 b3 o3 c3 c3 (zv (l.take c3)) (by rfl) HTL.out (HTK.out _ HDB.out).1 (HTK.out _ HDB.out).2 HTO.out (by simp only [maxLen]; omega) (by omega) HDB.out.size ?_
                 intro v4 w4 hown4 hg4 hat4
                 have HO4 := Lib.hid hown4
                 have HB4 : Hid (Below wc.heap.size wc w4) := (show Below _ _ _ from HDB.out.grown hg4 HDB.out.size (fun t ht => (World.ownsRow.lt HEB.out t ht).1))
                 have HI4 : Hid (w4.cell? ⟨wc.heap.size + 1, 0, none⟩ = some (.int .i64 (k : Int)) ∧ wc.heap.size + 1 < w4.heap.size) := (show _ ∧ _ from ⟨grownb_cell hg4 (by simp) (by omega) HIB.out, Nat.lt_of_lt_of_le (by simp) hg4.size⟩)
                 clear hown4 hg4 hat4)
              | (refine step_app rfl _ _ 30 rfl wc.heap.size 3 i3 _ 1 8 Try.underlying30 hi3 hz3 hy3 hx3 rfl (by omega) _ 0 [] (by rfl) HEA.out A3 b3 o3 c3 c3 (zv (l.take c3)) (by rfl) HTL.out (HTK.out _ HDA.out).1 (HTK.out _ HDA.out).2 HTO.out (by simp only [maxLen]; omega) (by omega) HDA.out.size ?_
                 intro v4 w4 hown4 hg4 hat4
                 have HO4 := Lib.hid hown4
                 have HB4 : Hid (Below wc.heap.size wc w4) := (show Below _ _ _ from HDA.out.grown hg4 HDA.out.size (fun t ht => (World.ownsRow.lt HEA.out t ht).1))
                 have HI4 : Hid (w4.cell? ⟨wc.heap.size, 0, none⟩ = some (.int .i64 (k : Int)) ∧ wc.heap.size < w4.heap.size) := (show _ ∧ _ from ⟨grownb_cell hg4 (by simp; omega) (by omega) HIA.out, Nat.lt_of_lt_of_le (by simp; omega) hg4.size⟩)
                 clear hown4 hg4 hat4)
              | (refine step_app rfl _ _ 30 rfl wc.heap.size 3 i3 _ 1 8 Try.underlying30 hi3 hz3 hy3 hx3 rfl (by omega) _ (0 + c3) _ (by rfl) HO4.out _ _ 0 1 1 [.int .i64 (k : Int)] (by rfl) rfl (fun _ => ⟨rfl, HI4.out.2⟩) (fun jj hjj => by (have : jj = 0 := by omega); subst this; exact HI4.out.1) HONE.out (by simp only [maxLen]; omega) (by omega) HB4.out.size ?_
                 intro v7 w7 hown7 hg7 hat7
                 have HO7 := Lib.hid hown7
                 have HB7 : Hid (Below wc.heap.size wc w7) := (show Below _ _ _ from HB4.out.grown hg7 HB4.out.size (fun t ht => (World.ownsRow.lt HO4.out t ht).1))
                 clear hown7 hg7 hat7)
              | (refine step_app rfl _ _ 30 rfl wc.heap.size 3 i3 _ 1 8 Try.underlying30 hi3 hz3 hy3 hx3 rfl (by omega) _ (0 + c3) _ (by rfl) (World.ownsRow.kept (row := none) HO4.out (grown_of_below (below_new w4 (.cells #[.int .i64 (k : Int)] 3)) none) (Classical.em _)) (some ⟨w4.heap.size, 0, none⟩) w4.heap.size 0 1 1 [.int .i64 (k : Int)] (by rfl) rfl (fun _ => ⟨rfl, by simp⟩) (fun jj hjj => by (have : jj = 0 := by omega); subst this; exact (Blk.new w4 3 #[.int .i64 (k : Int)]).cell 0) HONE.out (by simp only [maxLen]; omega) (by omega) (HB4.out.alloc HB4.out.size _).size ?_
                 intro v7 w7 hown7 hg7 hat7
                 have HO7 := Lib.hid hown7
                 have HB7 : Hid (Below wc.heap.size wc w7) := (show Below _ _ _ from (HB4.out.alloc HB4.out.size _).grown hg7 (HB4.out.alloc HB4.out.size _).size (fun t ht => (World.ownsRow.lt HO4.out t ht).1))
                 clear hown7 hg7 hat7)
              | (refine step_app rfl _ _ 30 rfl wc.heap.size 3 i3 _ 1 8 Try.underlying30 hi3 hz3 hy3 hx3 rfl (by omega) _ (0 + c3 + 1) _ (by rfl) HO7.out A3 b10 o10 (l.length - c3) 0 (zv (l.drop c3)) (by rfl) HDL.out (HDK.out _ HB7.out).1 (HDK.out _ HB7.out).2 HDO.out (by simp only [maxLen]; omega) (by omega) HB7.out.size ?_
                 intro v11 w11 hown11 hg11 hat11
                 have HO11 := Lib.hid hown11
                 have HB11 : Hid (Below wc.heap.size wc w11) := (show Below _ _ _ from HB7.out.grown hg11 HB7.out.size (fun t ht => (World.ownsRow.lt HO7.out t ht).1))
                 clear hown11 hg11 hat11))
            all_goals
              have HI11 : Hid (IO w11 w.heap.size (spcK f (k + 1)) v11) := (show World.ownsRow _ _ _ _ _ _ _ from by
                refine World.ownsRow.mono (base := wc.heap.size) ?_ HBr.out.size
                have e1 : (spcK f (k + 1)).length = 0 + c3 + 1 + (l.length - c3) := by rw [HNX.out, List.length_append, List.length_append, List.length_take, List.length_drop, List.length_singleton]; omega
                have e2 : zv (spcK f (k + 1)) = [] ++ zv (l.take c3) ++ [.int .i64 (k : Int)] ++ zv (l.drop c3) := by rw [HNX.out, zv_app, zv_app]; rfl
                rw [e1, e2]
                exact HO11.out)
              have HB12 := Lib.hid (HB.out.trans (HB11.out.mono HB.out.size))
              go_wp2_with fail
              go_roundg (N - (k + 1))
              case measure => omega
              case rel => exact ⟨k + 1, by omega, by omega, by go_num, HI11.out, HB12.out⟩
          · have hIV1 := iv_drop1 hIc hml hcm
            clear hIc
            obtain ⟨A10, b10, o10, c10, he10, hA10, hz10, -, -⟩ := (hIV1).open
            rw [List.length_drop] at he10 hA10
            injection he10 with e1 e2 e3
            rw [← e1] at hA10
            clear e1 e2 e3
            have HDK : Hid (∀ W, Below wc.heap.size wc W → Lies (A3.map (fun x => x.add m)) (l.length - m) W.heap.size b10 o10 ∧ ∀ j, j < (l.length - m) * 1 → W.cell? ⟨b10, o10 + j, none⟩ = (zv (l.drop m))[j]?) := (show ∀ W, _ from fun W hW => ⟨hA10.mono hW.size, fun j hj => (hW.cell (p := ⟨b10, o10 + j, none⟩) (hA10 (by omega)).2).trans (hz10.news j (by rw [List.length_drop]; exact hj))⟩)
            clear hA10 hz10
            go_wp2_with fail
            go_region_held3 (fun _ => True) (trivial)
              (first
              | (refine step_app rfl _ _ 30 rfl wc.heap.size 3 i3 _ 1 8 Try.underlying30 hi3 hz3 hy3 hx3 rfl (by omega) _ 0 [] (by rfl) HEC.out A3 b3 o3 m c3 (zv (l.take m)) (by rfl) HTL.out (HTK.out _ HDC.out).1 (HTK.out _ HDC.out).2 HTO.out (by simp only [maxLen]; omega) (by omega) HDC.out.size ?_
                 intro v4 w4 hown4 hg4 hat4
                 have HO4 := Lib.hid hown4
                 have HB4 : Hid (Below wc.heap.size wc w4) := (show Below _ _ _ from HDC.out.grown hg4 HDC.out.size (fun t ht => (World.ownsRow.lt HEC.out t ht).1))
                 clear hown4 hg4 hat4)
              | (refine step_app rfl _ _ 30 rfl wc.heap.size 3 i3 _ 1 8 Try.underlying30 hi3 hz3 hy3 hx3 rfl (by omega) _ 0 [] (by rfl) HEB.out A3 b3 o3 m c3 (zv (l.take m)) (by rfl) HTL.out (HTK.out _ HDB.out).1 (HTK.out _ HDB.out).2 HTO.out (by simp only [maxLen]; omega) (by omega) HDB.out.size ?_
                 intro v4 w4 hown4 hg4 hat4
                 have HO4 := Lib.hid hown4
                 have HB4 : Hid (Below wc.heap.size wc w4) := (show Below _ _ _ from HDB.out.grown hg4 HDB.out.size (fun t ht => (World.ownsRow.lt HEB.out t ht).1))
                 have HI4 : Hid (w4.cell? ⟨wc.heap.size + 1, 0, none⟩ = some (.int .i64 (k : Int)) ∧ wc.heap.size + 1 < w4.heap.size) := (show _ ∧ _ from ⟨grownb_cell hg4 (by simp) (by omega) HIB.out, Nat.lt_of_lt_of_le (by simp) hg4.size⟩)
                 clear hown4 hg4 hat4)
              | (refine step_app rfl _ _ 30 rfl wc.heap.size 3 i3 _ 1 8 Try.underlying30 hi3 hz3 hy3 hx3 rfl (by omega) _ 0 [] (by rfl) HEA.out A3 b3 o3 m c3 (zv (l.take m)) (by rfl) HTL.out (HTK.out _ HDA.out).1 (HTK.out _ HDA.out).2 HTO.out (by simp only [maxLen]; omega) (by omega) HDA.out.size ?_
                 intro v4 w4 hown4 hg4 hat4
                 have HO4 := Lib.hid hown4
                 have HB4 : Hid (Below wc.heap.size wc w4) := (show Below _ _ _ from HDA.out.grown hg4 HDA.out.size (fun t ht => (World.ownsRow.lt HEA.out t ht).1))
                 have HI4 : Hid (w4.cell? ⟨wc.heap.size, 0, none⟩ = some (.int .i64 (k : Int)) ∧ wc.heap.size < w4.heap.size) := (show _ ∧ _ from ⟨grownb_cell hg4 (by simp; omega) (by omega) HIA.out, Nat.lt_of_lt_of_le (by simp; omega) hg4.size⟩)
                 clear hown4 hg4 hat4)
              | (refine step_app rfl _ _ 30 rfl wc.heap.size 3 i3 _ 1 8 Try.underlying30 hi3 hz3 hy3 hx3 rfl (by omega) _ (0 + m) _ (by rfl) HO4.out _ _ 0 1 1 [.int .i64 (k : Int)] (by rfl) rfl (fun _ => ⟨rfl, HI4.out.2⟩) (fun jj hjj => by (have : jj = 0 := by omega); subst this; exact HI4.out.1) HONE.out (by simp only [maxLen]; omega) (by omega) HB4.out.size ?_
                 intro v7 w7 hown7 hg7 hat7
                 have HO7 := Lib.hid hown7
                 have HB7 : Hid (Below wc.heap.size wc w7) := (show Below _ _ _ from HB4.out.grown hg7 HB4.out.size (fun t ht => (World.ownsRow.lt HO4.out t ht).1))
                 clear hown7 hg7 hat7)
              | (refine step_app rfl _ _ 30 rfl wc.heap.size 3 i3 _ 1 8 Try.underlying30 hi3 hz3 hy3 hx3 rfl (by omega) _ (0 + m) _ (by rfl) (World.ownsRow.kept (row := none) HO4.out (grown_of_below (below_new w4 (.cells #[.int .i64 (k : Int)] 3)) none) (Classical.em _)) (some ⟨w4.heap.size, 0, none⟩) w4.heap.size 0 1 1 [.int .i64 (k : Int)] (by rfl) rfl (fun _ => ⟨rfl, by simp⟩) (fun jj hjj => by (have : jj = 0 := by omega); subst this; exact (Blk.new w4 3 #[.int .i64 (k : Int)]).cell 0) HONE.out (by simp only [maxLen]; omega) (by omega) (HB4.out.alloc HB4.out.size _).size ?_
                 intro v7 w7 hown7 hg7 hat7
                 have HO7 := Lib.hid hown7
                 have HB7 : Hid (Below wc.heap.size wc w7) := (show Below _ _ _ from (HB4.out.alloc HB4.out.size _).grown hg7 (HB4.out.alloc HB4.out.size _).size (fun t ht => (World.ownsRow.lt HO4.out t ht).1))
                 clear hown7 hg7 hat7)
              | (refine step_app rfl _ _ 30 rfl wc.heap.size 3 i3 _ 1 8 Try.underlying30 hi3 hz3 hy3 hx3 rfl (by omega) _ (0 + m + 1) _ (by rfl) HO7.out (A3.map (fun x => x.add m)) b10 o10 (l.length - m) (c3 - m) (zv (l.drop m)) (by rfl) HDL.out (HDK.out _ HB7.out).1 (HDK.out _ HB7.out).2 HDO.out (by simp only [maxLen]; omega) (by omega) HB7.out.size ?_
                 intro v11 w11 hown11 hg11 hat11
                 have HO11 := Lib.hid hown11
                 have HB11 : Hid (Below wc.heap.size wc w11) := (show Below _ _ _ from HB7.out.grown hg11 HB7.out.size (fun t ht => (World.ownsRow.lt HO7.out t ht).1))
                 clear hown11 hg11 hat11))
            all_goals
              have HI11 : Hid (IO w11 w.heap.size (spcK f (k + 1)) v11) := (show World.ownsRow _ _ _ _ _ _ _ from by
                refine World.ownsRow.mono (base := wc.heap.size) ?_ HBr.out.size
                have e1 : (spcK f (k + 1)).length = 0 + m + 1 + (l.length - m) := by rw [HNX.out, List.length_append, List.length_append, List.length_take, List.length_drop, List.length_singleton]; omega
                have e2 : zv (spcK f (k + 1)) = [] ++ zv (l.take m) ++ [.int .i64 (k : Int)] ++ zv (l.drop m) := by rw [HNX.out, zv_app, zv_app]; rfl
                rw [e1, e2]
                exact HO11.out)
              have HB12 := Lib.hid (HB.out.trans (HB11.out.mono HB.out.size))
              go_wp2_with fail
              go_roundg (N - (k + 1))
              case measure => omega
              case rel => exact ⟨k + 1, by omega, by omega, by go_num, HI11.out, HB12.out⟩
    · have hltz : ¬ (k : Int) < (N : Int) := by omega
      have hke : k = N := by omega
      subst hke
      go_wp2_with fail
      go_ret
      exact HP.out _ _ HI.out HBr.out
end Go.Proofs.Ytefjhhgfkdkfaaa
/- The document's answer on a task: KindsErr, sortErr, CheckCase. -/
namespace Go.Proofs.Ytefjhhgfkdkfaaa
set_option linter.unusedSimpArgs false
set_option linter.unusedVariables false
open Go.RowKit
set_option maxRecDepth 100000 in
theorem kinds52_any (f : Fnt) (v : Value) (w : World) (hv : SoV w f.sorts v) (hm : f.sorts.length ≤ 1000) : Calls Try.prog 52 #[.agg (fcs f v)] w (IntPost (kiErr f) w) := by
  have hb0 := below_new w (.cells (fcs f v) 24)
  have hbk := Blk.new w 24 (fcs f v)
  have HB0 := Lib.hid hb0
  have HC := Lib.hid (spaces_any f v _ (hv.below hb0) hm)
  obtain ⟨A, c, rfl⟩ := hv.shape
  have c0 := hbk.cell 0
  have c1 := hbk.cell 1
  have c2 := hbk.cell 2
  have HL := Lib.hid (spcK_len f f.sorts.length)
  have HE : Hid (kiErr f = if 8 < (spl f.sorts f.sorts.length).length then 8 else 0) := rfl
  have HP : Hid (∀ W x, x = kiErr f → Below w.heap.size w W → IntPost (kiErr f) w (.returned (.int .i64 x)) W) := (show ∀ W x, _ from fun W x e h => by subst e; exact ⟨rfl, h⟩)
  clear hb0 hbk hv
  go_enter Try.func52, Try.ntmps52
  go_wp2_with fail
  refine HC.out.mono ?_
  rintro e w1 ⟨u, rfl, hio, hb⟩
  have HB := Lib.hid (HB0.out.trans (hb.mono HB0.out.size))
  obtain ⟨A1, c1', rfl⟩ := hio.shape
  rw [HL.out]
  clear hb hio c0 c1 c2 HC HL
  generalize (spl f.sorts f.sorts.length).length = n at *
  by_cases h : 8 < n
  · have hz : (8 : Int) < (n : Int) := by omega
    have HX := Lib.hid (HE.out.trans (if_pos h))
    go_wp2_with fail
    go_ret
    exact HP.out _ _ HX.out.symm HB.out
  · have hz : ¬ (8 : Int) < (n : Int) := by omega
    have HX := Lib.hid (HE.out.trans (if_neg h))
    go_wp2_with fail
    go_ret
    exact HP.out _ _ HX.out.symm HB.out
set_option maxRecDepth 100000 in
theorem sort54_any (f : Fnt) (v : Value) (s : Int) (sp : Bool) (w : World) (hv : SoV w f.sorts v) (hm : f.sorts.length ≤ 1000) : Calls Try.prog 54 #[.agg (fcs f v), .int .i64 s, .bool sp] w (IntPost (srtErr f s sp) w) := by
  have hb0 := below_new w (.cells (fcs f v) 24)
  have hbk := Blk.new w 24 (fcs f v)
  have HB0 := Lib.hid hb0
  have HV0 := Lib.hid (hv.below hb0)
  obtain ⟨A, c, rfl⟩ := hv.shape
  have c0 := hbk.cell 0
  have c1 := hbk.cell 1
  have c2 := hbk.cell 2
  have HE : Hid (srtErr f s sp = if win s 0 (f.sorts.length - 1) = false then 6 else if spB f s = sp then 0 else 15) := rfl
  have HP : Hid (∀ W x, x = srtErr f s sp → Below w.heap.size w W → IntPost (srtErr f s sp) w (.returned (.int .i64 x)) W) := (show ∀ W x, _ from fun W x e h => by subst e; exact ⟨rfl, h⟩)
  have HW : Hid (∀ W, Calls Try.prog 13 #[.int .i64 s, .int .i64 0, .int .i64 ((f.sorts.length : Int) - 1)] W fun e w' => e = .returned (.bool (win s 0 ((f.sorts.length : Int) - 1))) ∧ W = w') := (show ∀ W, _ from fun W => within13_any _ _ _ W)
  have HIS : Hid (0 ≤ s ∧ s < f.sorts.length → Calls Try.prog 92 #[.agg (fcs f (.slice A f.sorts.length c)), .int .i64 s] (w.alloc (.cells (fcs f (.slice A f.sorts.length c)) 24)) fun e w' => e = .returned (.bool (spB f s)) ∧ Below (w.alloc (.cells (fcs f (.slice A f.sorts.length c)) 24)).heap.size (w.alloc (.cells (fcs f (.slice A f.sorts.length c)) 24)) w') := (show _ → _ from fun h => isSpaceR_any f _ s _ HV0.out h hm)
  clear hb0 hbk hv
  go_enter Try.func54, Try.ntmps54
  go_wp2_with fail
  refine (HW.out _).mono ?_
  rintro e w1 ⟨rfl, hw1⟩
  subst hw1
  cases hw : win s 0 ((f.sorts.length : Int) - 1) with
  | false =>
    have HX := Lib.hid (HE.out.trans (if_pos hw))
    go_wp2_with fail
    go_ret
    exact HP.out _ _ HX.out.symm HB0.out
  | true =>
    have hr : 0 ≤ s ∧ s < f.sorts.length := by simp [win] at hw; omega
    have HE2 := Lib.hid (HE.out.trans (if_neg (by rw [hw]; simp)))
    have HC := Lib.hid (HIS.out hr)
    clear hw hr HE HIS
    go_wp2_with fail
    refine HC.out.mono ?_
    rintro e w2 ⟨rfl, hb⟩
    have HB := Lib.hid (HB0.out.trans (hb.mono HB0.out.size))
    clear hb
    generalize spB f s = b at *
    by_cases hbs : b = sp
    · have HX := Lib.hid (HE2.out.trans (if_pos hbs))
      subst hbs
      cases b with
      | true =>
        go_wp2_with fail
        go_ret
        exact HP.out _ _ HX.out.symm HB.out
      | false =>
        go_wp2_with fail
        go_ret
        exact HP.out _ _ HX.out.symm HB.out
    · have HX := Lib.hid (HE2.out.trans (if_neg hbs))
      cases b with
      | true =>
        cases sp with
        | true => exact absurd rfl hbs
        | false =>
          go_wp2_with fail
          go_ret
          exact HP.out _ _ HX.out.symm HB.out
      | false =>
        cases sp with
        | false => exact absurd rfl hbs
        | true =>
          go_wp2_with fail
          go_ret
          exact HP.out _ _ HX.out.symm HB.out
set_option maxRecDepth 100000 in
set_option maxHeartbeats 2000000 in
theorem case53_any (f : Fnt) (v : Value) (cs : List Int) (vc : Value) (w : World) (hv : SoV w f.sorts v) (hn : f.name.size ≤ 9223372036854775807) (hc : IV w cs vc) (hcm : cs.length ≤ 1000000) : Calls Try.prog 53 #[.agg (fcs f v), vc] w (IntPost (caErr f cs) w) := by
  have hb0 := below_new w (.cells (fcs f v) 24)
  have HB0 := Lib.hid hb0
  have HK0 := Lib.hid (Blk.new w 24 (fcs f v))
  have HC0 := Lib.hid (hc.below hb0)
  have HC := Lib.hid (refErr_any f v _ (hv.below hb0) hn)
  obtain ⟨Av, cv, rfl⟩ := hv.shape
  obtain ⟨A, b, off, c, rfl, -, -, -, -⟩ := hc.open
  have hfew := hv.few
  have k0 := HK0.out.cell 0
  have k1 := HK0.out.cell 1
  have k2 := HK0.out.cell 2
  have HP : Hid (∀ W x, x = caErr f cs → Below w.heap.size w W → IntPost (caErr f cs) w (.returned (.int .i64 x)) W) := (show ∀ W x, _ from fun W x e h => by subst e; exact ⟨rfl, h⟩)
  have HE : Hid (caErr f cs = if (fnErr f).2 ≠ 0 then (fnErr f).2 else cntErr f.sorts.length cs) := rfl
  have HE1 : Hid (cntErr f.sorts.length cs = if cs.length ≠ f.sorts.length then 10 else if 0 ≤ idx (fun j => !win (gz cs j) 0 1000000) cs.length then 2 else 0) := rfl
  clear hb0 hv hc
  go_enter Try.func53, Try.ntmps53
  go_wp2_with fail
  refine HC.out.mono ?_
  generalize w.alloc (.cells (fcs f (.slice Av f.sorts.length cv)) 24) = W0 at *
  rintro e W1 ⟨rfl, hb1⟩
  have HB1 := Lib.hid (HB0.out.trans (hb1.mono HB0.out.size))
  have HK1 := Lib.hid (HK0.out.below hb1 HK0.out.lt)
  have HC1 := Lib.hid (HC0.out.below hb1)
  clear hb1 k0 k1 k2 HC HB0 HK0 HC0
  by_cases hf : (fnErr f).2 = 0
  · have hbn := bne_f hf
    have HE2 := Lib.hid ((HE.out.trans (if_neg (fun h => h hf))).trans HE1.out)
    rw [hf] at hbn ⊢
    clear hf HE HE1
    have k2 := HK1.out.cell 2
    have kl := HK1.out.lt
    by_cases hl : cs.length = f.sorts.length
    · have HE3 := Lib.hid (HE2.out.trans (if_neg (fun h => h hl)))
      have hlz : (cs.length : Int) = (f.sorts.length : Int) := by omega
      have hbn2 := bne_f hlz
      clear hlz HE2
      have HNL : Hid (cs.length = f.sorts.length) := hl
      clear hl
      obtain ⟨A', b', off', c', he, hA, hz, -, -⟩ := HC1.out.open
      injection he with e1 e2 e3
      clear e2 e3
      subst e1
      have HA := Lib.hid hA
      have HZ := Lib.hid hz
      clear hA hz
      generalize hN : cs.length = N at *
      have HN := Lib.hid hN
      clear hN
      go_wp2_with fail
      go_loopg [6] N (fun gg s6 wr => ∃ k : Nat, k ≤ N ∧ N - k ≤ gg ∧ s6 = .int .i64 (k : Int) ∧ W1 = wr ∧ Hid (∀ j, j < k → win (gz cs j) 0 1000000 = true))
      case atStart => exact ⟨0, by omega, by omega, rfl, rfl, fun j hj => absurd hj (Nat.not_lt_zero _)⟩
      case round =>
        obtain ⟨k, hk, hg, rfl, rfl, HO⟩ := hrel
        by_cases hlt : k < N
        · have hltz : (k : Int) < (N : Int) := by omega
          obtain ⟨rfl, hbl⟩ := HA.out (by omega)
          have z := HZ.out k (by rw [HN.out]; exact hlt)
          have HW : Hid (∀ W, Calls Try.prog 13 #[.int .i64 (gz cs k), .int .i64 0, .int .i64 1000000] W fun e w' => e = .returned (.bool (win (gz cs k) 0 1000000)) ∧ W = w') := (show ∀ W, _ from fun W => within13_any _ _ _ W)
          have HHIT : Hid (win (gz cs k) 0 1000000 = false → caErr f cs = 2) := (show _ → _ from fun h => by
            have h2 := idx_hit (pr := fun j => !win (gz cs j) 0 1000000) (k := k) (n := N) (by rw [h]; rfl) (fun j hj => by rw [HO.out j hj]; rfl) hlt
            exact HE3.out.trans (if_pos (by rw [h2]; omega)))
          have HNXT : Hid (win (gz cs k) 0 1000000 = true → ∀ j, j < k + 1 → win (gz cs j) 0 1000000 = true) := (show _ → _ from fun h j hj => by
            by_cases e : j = k
            · subst e; exact h
            · exact HO.out j (by omega))
          generalize hwk : win (gz cs k) 0 1000000 = wk at *
          generalize gz cs k = y at *
          go_wp2_with fail
          refine (HW.out _).mono ?_
          rintro e w2 ⟨rfl, hw2⟩
          subst hw2
          cases wk with
          | true =>
            go_wp2_with fail
            go_roundg (N - (k + 1))
            case measure => omega
            case rel => exact ⟨k + 1, by omega, by omega, by go_num, rfl, HNXT.out (by first | rfl | trivial)⟩
          | false =>
            have HX := Lib.hid (HHIT.out (by first | rfl | trivial))
            go_wp2_with fail
            go_ret
            exact HP.out _ _ HX.out.symm HB1.out
        · have hltz : ¬ (k : Int) < (N : Int) := by omega
          have HX : Hid (caErr f cs = 0) := (show _ = _ from by
            have h2 := idx_none (pr := fun j => !win (gz cs j) 0 1000000) (n := N) (fun j hj => by rw [HO.out j (by omega)]; rfl)
            exact HE3.out.trans (if_neg (by rw [h2]; omega)))
          go_wp2_with fail
          go_ret
          exact HP.out _ _ HX.out.symm HB1.out
    · have HX := Lib.hid (HE2.out.trans (if_pos hl))
      have hlz : ¬ (cs.length : Int) = (f.sorts.length : Int) := by omega
      have hbn2 := bne_t hlz
      go_wp2_with fail
      go_ret
      exact HP.out _ _ HX.out.symm HB1.out
  · have hbn := bne_t hf
    have HX := Lib.hid (HE.out.trans (if_pos hf))
    generalize (fnErr f).2 = fe at *
    go_wp2_with fail
    go_ret
    exact HP.out _ _ HX.out.symm HB1.out
end Go.Proofs.Ytefjhhgfkdkfaaa
