/- ref.Longest: the longest chain across a full forme, and the first one. -/
import Derived.Test.YtlfeoofchebbkaaBeg
import Derived.Lib.QuietBelow
namespace Go.Proofs.Ytlfeoofchebbkaa
set_option linter.unusedSimpArgs false
set_option linter.unusedVariables false
open Go.RowKit Go.Sort
theorem Below.blk_row {w w' : World} {g : Nat} {t : TypeId} {n : Nat} {f : Nat → Value} (r : w.rowIs g t n f) {B : Nat} (h : Below B w w') (hg : g < B) : w'.rowIs g t n f := r.of_block (h.block g hg)
theorem own_keep {w w' : World} {base : Nat} {v : Value} {n : Nat} {xs : List Value} (h : w.ownsRow base 3 1 v n xs) (b : Below w.heap.size w w') : w'.ownsRow base 3 1 v n xs :=
  h.kept (grown_of_below b none) (by by_cases e : v.ownBlock = none <;> simp [e])
theorem own_cell {w : World} {base n c : Nat} {A : Option Addr} {l : List Nat} (h : w.ownsRow base 3 1 (.slice A n c) n (nums l)) {j : Nat} (hj : j < n) : ∃ g, A = some ⟨g, 0, none⟩ ∧ base ≤ g ∧ g < w.heap.size ∧ w.cell? ⟨g, j, none⟩ = some (.int .i64 ((l.getD j 0 : Nat) : Int)) := by
  have hl : l.length = n := by have := h.1; simpa [nums] using this
  rcases h.2 with ⟨_, h0⟩ | ⟨g, cap, cur, hv, hbs, hg, hnc, _, hcs, ht⟩
  · omega
  · injection hv with h1 h2 h3
    refine ⟨g, h1, hbs, lt_of_block hg, ?_⟩
    rw [cell_of_row w g j cur 3 (0, 0) hg]
    have : (cur.toList.take (n * 1))[j]? = (nums l)[j]? := by rw [ht]
    rw [List.getElem?_take, if_pos (by omega), Array.getElem?_toList] at this
    rw [this]
    unfold nums
    rw [List.getElem?_map, List.getElem?_eq_getElem (by omega), List.getD_eq_getElem?_getD, List.getElem?_eq_getElem (by omega)]
    rfl
theorem own_drewN {w : World} {base size n : Nat} {e : TypeId} {v : Value} {xs : List Value} (h : w.ownsRow base e size v n xs) (q : Nat) : (w.drewN q).ownsRow base e size v n xs := h
/-- What the code knows of the last piece: none yet, or the last one of the list. -/
def Last (acc : List Nat) (fr : Int) : Prop := (fr = -1 ∧ acc = []) ∨ ∃ (l : List Nat) (m : Nat), fr = (m : Int) ∧ acc = l ++ [m]
def LongPostR (w : World) (D : Dir) (e : Ending) (w' : World) : Prop :=
  ∃ (l : List Nat) (v : Value), e = .returned (.tuple #[.int .i64 D.maxT, v]) ∧ D.IsChain D.maxT (-1) l ∧ w'.ownsRow w.heap.size 3 1 v l.length (nums l) ∧ Below w.heap.size w w'
def bstep (D : Dir) (i : Nat) : Int := if D.b i = 0 then D.T i else 0
set_option maxRecDepth 100000 in
set_option maxHeartbeats 8000000 in
theorem refLongest_any (f : Forme) (ws : List Int) (A A1 : Option Addr) (b off c b1 o1 c1 : Nat) (w : World) (hA : Lies A f.ps.length w.heap.size b off) (hps : PsAt w b off f.ps) (hf : f.Whole) (hz : Usable f ws) (hn : f.ps.length ≤ 1000)
    (hA1 : Lies A1 ws.length w.heap.size b1 o1) (hz1 : ZsAt w b1 o1 ws) :
    Calls Try.prog 34 #[.agg #[.int .i64 f.W, .int .i64 f.H, .slice A f.ps.length c], .slice A1 f.ps.length c1] w (LongPostR w (across f ws)) := by
  obtain ⟨inf, hInf, hInf0, hInf1, hInf2⟩ := info_parts Try.info3
  have wf := across_wf hf.toLaid hz.z
  have fu := across_full hf hz.z
  have hT := across_T hf.toLaid hz
  have hDn : (across f ws).n = f.ps.length := hz.z.len
  have hwl : ws.length = f.ps.length := hz.z.len
  have hmx : (across f ws).maxT ≤ 1000000000000 := maxTo_le (by omega) hT
  have hmx0 := Dir.maxT_pos wf fu.some
  have hnear := Dir.maxT_near wf fu
  have HNEAR : Hid (maxTo f.ps.length (bstep (across f ws)) = (across f ws).maxT) := by rw [← hDn]; exact hnear
  have HB : Hid (∀ j, j < f.ps.length → (across f ws).b j = (gp f.ps j).x) := fun j hj => across_b ws hj
  have HL : Hid (∀ i k, i < f.ps.length → k < f.ps.length → (across f ws).leads i k = nbB (gp f.ps i) (gp f.ps k)) := fun i k hi hk => across_leads ws hi hk
  have HT : Hid (∀ i, i < f.ps.length → (across f ws).T i ≤ 1000000000000 ∧ 0 ≤ (across f ws).T i ∧ (across f ws).s i ≤ (across f ws).T i) := fun i hi => ⟨hT i (by omega), by have := Dir.T_pos wf i (by omega); omega, (Dir.T_pos wf i (by omega)).1⟩
  have HSB : Hid (∀ i, i < f.ps.length → 1 ≤ gz ws i ∧ gz ws i ≤ 500000) := fun i hi => ⟨by
    have := wf.s1 i (by omega); rw [across_s] at this; omega, sz_le hz.b (by omega) i⟩
  have HSE : Hid (∀ i, (across f ws).s i = gz ws i) := fun i => rfl
  have HS : Hid (∀ i, i < f.ps.length → Sml (gp f.ps i)) := fun i hi => hf.toLaid.sml hi
  have HW := Lib.hid wf
  have HU := Lib.hid fu
  have hcr := fun W (hW : Below w.heap.size w W) => rests_any f ws A A1 b off c b1 o1 c1 W (hA.mono hW.size) (fun j hj => (hps j hj).below hW (hA (by omega)).2) hf.toLaid hz hn (hA1.mono hW.size) (ZsAt.mono' hA1 hz1 hW)
  clear hz hf hT wf fu hnear
  generalize hD : across f ws = D at *
  clear hD
  generalize hln : f.ps.length = n at *
  have HLN := Lib.hid hln
  clear hln
  have HWL := Lib.hid hwl
  have HDN := Lib.hid hDn
  have HCR := Lib.hid hcr
  clear hwl hDn hcr
  go_enter Try.func34, Try.ntmps34
  go_wp2_with fail
  have hB0 := below_new w (Obj.cells #[Value.int IntKind.i64 f.W, Value.int IntKind.i64 f.H, Value.slice A n c] 37)
  have hF0 := Blk.new w 37 #[Value.int IntKind.i64 f.W, Value.int IntKind.i64 f.H, Value.slice A n c]
  generalize w.alloc (Obj.cells #[Value.int IntKind.i64 f.W, Value.int IntKind.i64 f.H, Value.slice A n c] 37) = W0 at *
  refine (HCR.out _ hB0).mono ?_
  rintro e W2 ⟨g, rfl, hg, R2, b2⟩
  rw [HDN.out] at R2
  rw [HDN.out]
  have hF2 := hF0.below b2 hF0.lt
  have HB2 := Lib.hid (hB0.trans (b2.mono hB0.size))
  have HR2 := Lib.hid R2
  have hgl := R2.lt
  have hwg : w.heap.size < g := Nat.lt_of_lt_of_le hF0.lt hg
  clear b2 R2 hB0 hF0 hg HCR
  have HK : Hid (∀ W, Below W2.heap.size W2 W → (W.cell? ⟨w.heap.size, 0, none⟩ = some (.int .i64 f.W) ∧ W.cell? ⟨w.heap.size, 1, none⟩ = some (.int .i64 f.H) ∧ W.cell? ⟨w.heap.size, 2, none⟩ = some (.slice A n c)) ∧ W2.heap.size ≤ W.heap.size) := (show ∀ W, _ from fun W hW => by
    have hx := hF2.below hW hF2.lt
    exact ⟨⟨hx.cell 0, hx.cell 1, hx.cell 2⟩, hW.size⟩)
  have HQ : Hid (∀ W, Below W2.heap.size W2 W → ∀ k, k < n → A = some ⟨b, off, none⟩ ∧ PAt W b (off + k * 6) (gp f.ps k) ∧ b < w.heap.size) := (show ∀ W, _ from fun W hW k hk => by
    obtain ⟨rfl, hb⟩ := hA (by omega)
    exact ⟨rfl, (hps k (by have := HLN.out; omega)).below (HB2.out.trans (hW.mono HB2.out.size)) hb, hb⟩)
  have HZQ : Hid (∀ W, Below W2.heap.size W2 W → ∀ k, k < n → A1 = some ⟨b1, o1, none⟩ ∧ W.cell? ⟨b1, o1 + k, none⟩ = some (.int .i64 (gz ws k)) ∧ b1 < w.heap.size) := (show ∀ W, _ from fun W hW k hk => by
    obtain ⟨rfl, hb⟩ := hA1 (by have := HWL.out; omega)
    exact ⟨rfl, ((HB2.out.trans (hW.mono HB2.out.size)).cell (p := ⟨b1, o1 + k, none⟩) hb).trans (hz1 k (by have := HWL.out; omega)), hb⟩)
  have HRG : Hid (∀ W, Below W2.heap.size W2 W → W.rowIs g 3 n (fun j => .int .i64 (D.T j))) := fun W hW => HR2.out.of_block (hW.block g hgl)
  have hw2 : w.heap.size < W2.heap.size := by omega
  clear hA hps hA1 hz1 hF2 HR2
  go_wp2_with fail
  go_loopg [7, 8] n (fun gg s7 s8 wr => ∃ k : Nat, k ≤ n ∧ n - k ≤ gg ∧ s8 = .int .i64 k ∧ s7 = .int .i64 (maxTo k (bstep D)) ∧ W2 = wr)
  case atStart => exact ⟨0, Nat.zero_le _, by omega, rfl, rfl, rfl⟩
  case round =>
    obtain ⟨k, hk, hgk, rfl, rfl, rfl⟩ := hrel
    obtain ⟨⟨f0, f1, f2⟩, -⟩ := HK.out W2 (Below.refl _ _)
    by_cases hlt : k < n
    · have hltz : (k : Int) < (n : Int) := by omega
      have hk0 : (0 : Int) ≤ (k : Int) := by omega
      obtain ⟨rfl, ⟨c0, c1', c2, c3, c4, c5⟩, -⟩ := HQ.out W2 (Below.refl _ _) k hlt
      have r1 := (HRG.out W2 (Below.refl _ _)).cell hlt
      have HSN : Hid (maxTo (k + 1) (bstep D) = max (maxTo k (bstep D)) (if (gp f.ps k).x = 0 then D.T k else 0)) := by
        show _ = _
        rw [maxTo_snoc]
        unfold bstep
        rw [HB.out k hlt]
      obtain ⟨t1, t2, t3⟩ := HT.out k hlt
      have hm0 := maxTo_nonneg k (bstep D)
      generalize maxTo k (bstep D) = mx at *
      generalize D.T k = t at *
      generalize gp f.ps k = p at *
      by_cases hx : p.x = 0
      · have hxb : (p.x == 0) = true := by simp [hx]
        have HX := Lib.hid hx
        clear hx
        go_wp2_with fail
        all_goals
          go_roundg (n - (k + 1))
          case measure => omega
          case rel => exact ⟨k + 1, by omega, by omega, by go_num, by rw [HSN.out, if_pos HX.out]; congr 1; omega, rfl⟩
      · have hxb : (p.x == 0) = false := by simp [hx]
        have HX := Lib.hid hx
        clear hx
        go_wp2_with fail
        go_roundg (n - (k + 1))
        case measure => omega
        case rel => exact ⟨k + 1, by omega, by omega, by go_num, by rw [HSN.out, if_neg HX.out]; congr 1; omega, rfl⟩
    · have hltz : ¬ (k : Int) < (n : Int) := by omega
      have he : k = n := by omega
      subst he
      rw [HNEAR.out]
      generalize hM : D.maxT = M at *
      have HM := Lib.hid hM
      clear hM
      go_wp2_with fail
      clear f0 f1 f2
      go_loopg [9, 10, 11, 12] M.toNat (fun gg s9 s10 _ _ wr => ∃ (acc : List Nat) (rest fr : Int), rest.toNat ≤ gg ∧ s10 = .int .i64 rest ∧ 0 ≤ rest ∧ rest ≤ M ∧ Hid (Last acc fr) ∧ Hid (D.Coll acc rest fr) ∧ Hid (D.At rest fr) ∧ Hid (acc.length + rest.toNat ≤ M.toNat) ∧
          Hid (wr.ownsRow W2.heap.size 3 1 s9 acc.length (nums acc)) ∧ Hid (Below W2.heap.size W2 wr))
      case atStart =>
        refine ⟨[], M, -1, Nat.le_refl _, rfl, by omega, Int.le_refl _, (show Last _ _ from .inl ⟨rfl, rfl⟩), ?_, ?_, (show _ ≤ _ by simp), World.ownsRow_nil _ _ _ _, Below.refl _ _⟩
        · rw [← HM.out]; exact Dir.Coll.start D
        · rw [← HM.out]; exact .inl ⟨rfl, rfl⟩
      case round =>
        obtain ⟨acc, rest, fr, hgg, rfl, hr0, hr1, HLA, HC, HA, HLN', HO, HBw⟩ := hrel
        by_cases hpos : 0 < rest
        · go_wp2_with fail
          obtain ⟨wo, rfl⟩ : ∃ wo : World, wo = wr := ⟨_, rfl⟩
          obtain ⟨gko, rfl⟩ : ∃ x : Nat, x = gk := ⟨_, rfl⟩
          obtain ⟨v, rfl⟩ : ∃ x : Value, x = u9 := ⟨_, rfl⟩
          obtain ⟨io, hio⟩ := HA.out.next HW.out HU.out hpos
          have HIO := Lib.hid hio
          clear hio
          go_loopg [9, 10, 11, 12] k (fun gg s9 s10 s11 _ wi => ∃ i : Nat, i ≤ k ∧ k - i ≤ gg ∧ s11 = .int .i64 i ∧ s9 = v ∧ s10 = .int .i64 rest ∧ Hid (∀ c, c < i → D.hit rest fr c = false) ∧ Hid (wi.ownsRow W2.heap.size 3 1 v acc.length (nums acc)) ∧ Hid (Below W2.heap.size W2 wi))
          case atStart => exact ⟨0, Nat.zero_le _, by omega, rfl, rfl, rfl, fun c hc => absurd hc (Nat.not_lt_zero _), HO.out, HBw.out⟩
          case round =>
            obtain ⟨i, hi, hgi, rfl, rfl, rfl, NH, HO', HB'⟩ := hrel
            obtain ⟨⟨f0, f1, f2⟩, hsz⟩ := HK.out wr HB'.out
            by_cases hik : i < k
            · have hikz : (i : Int) < (k : Int) := by omega
              have hi0 : (0 : Int) ≤ (i : Int) := by omega
              obtain ⟨rfl, ⟨c0, c1', c2, c3, c4, c5⟩, hbw⟩ := HQ.out wr HB'.out i hik
              obtain ⟨rfl, z1, hb1w⟩ := HZQ.out wr HB'.out i hik
              have r1 := (HRG.out wr HB'.out).cell hik
              obtain ⟨t1, t2, t3⟩ := HT.out i hik
              rw [HSE.out i] at t3
              obtain ⟨s1, s2⟩ := HSB.out i hik
              have hhit : Hid (D.hit rest fr i = (D.T i == rest && ((decide (fr < 0) && D.b i == 0) || (decide (0 ≤ fr) && D.leads fr.toNat i)))) := rfl
              rw [HB.out i hik] at hhit
              have HSI := Lib.hid (HS.out i hik)
              have HXX : Hid (∀ j, j = i → D.s j = gz ws i) := fun j e => by rw [e, HSE.out i]
              have hsr : D.T i = rest → gz ws i ≤ rest := fun e => by omega
              have HSR := Lib.hid hsr
              clear hsr
              rcases HLA.out with ⟨hfr, hacc⟩ | ⟨l, m, hfr, hacc⟩
              · subst hfr
                subst hacc
                obtain ⟨A', c', rfl⟩ := own_slice HO'.out
                generalize hq : gp f.ps i = p at *
                clear hq
                by_cases hx : p.x = 0
                · have hxb : (p.x == 0) = true := by simp [hx]
                  have HH : Hid (D.hit rest (-1) i = (D.T i == rest)) := by show _ = _; rw [hhit.out, hxb]; simp
                  clear hx hhit
                  simp only [List.length_nil]
                  by_cases ht : D.T i = rest
                  · have htb : (D.T i == rest) = true := by simp [ht]
                    have HTT := Lib.hid ht
                    have HHT : Hid (D.hit rest (-1) i = true) := by show _ = _; rw [HH.out, htb]
                    clear ht
                    generalize D.T i = t at *
                    go_wp2_with fail
                    go_quiet (fail)
                    have hNext : Hid (D.IsNext rest (-1) i) := ⟨by have := HDN.out; omega, HHT.out, NH.out⟩
                    have hsr := HSR.out HTT.out
                    generalize hsk : gz ws i = sk at *
                    have HSKE : Hid (∀ j, j = i → D.s j = sk) := HXX.out
                    clear hsk
                    have e1 : IntKind.i64.wrap (rest - sk) = rest - sk := IntWalk.i64_in _ (by omega)
                    go_wp2_with fail
                    have HS0 : Hid (∀ q, (wr.drewN q).cell? ⟨b1, o1 + i, none⟩ = some (.int .i64 sk)) := fun q => z1
                    have hLen : Hid (([] : List Nat).length + 1 ≤ 1000000000001) := by have := HLN'.out; show _ ≤ _; omega
                    have e2 : (([] : List Nat) ++ [i]).length = ([] : List Nat).length + 1 := rfl
                    have e3 : nums (([] : List Nat) ++ [i]) = nums ([] : List Nat) ++ [.int .i64 i] := by simp [nums]
                    have E2 := Lib.hid e2
                    have E3 := Lib.hid e3
                    clear e2 e3
                    have hb1w2 : b1 < W2.heap.size := by omega
                    go_region_held3 (fun w' => w'.cell? ⟨b1, o1 + i, none⟩ = some (.int .i64 sk))
                      (first
                        | exact HS0.out _
                        | go_keep
                        | (refine far_keep hgrow (fun t ht => (HO'.out.lt t ht).1) hb1w2 ?_ ?_ <;> first | assumption | (simp; omega)))
                      ((refine step_append_lies _ (by rfl) (.tmp 90) (.tmp 92) 23 (by rfl) W2.heap.size 3 inf _ 1 8 Try.underlying23 hInf hInf0 hInf1 hInf2 rfl (by omega) _ ([] : List Nat).length (nums ([] : List Nat)) (by rfl) ((own_drewN HO'.out _).alloc _)
                          ⟨wr.heap.size, 0, none⟩ 1 1 [.int .i64 i] (by rfl) (by rfl) (World.news_of_block (cs := #[.int .i64 i]) (t := 3) (fr := (0, 0)) (heap_alloc_new (wr.drewN _) _)) (by simp [Value.oneCell']) (by omega) (by have := hLen.out; simp only [maxLen]; omega) (by have := hLen.out; omega) (by simp; have := HB'.out.size; omega) (wr.heap.size + 1) (by simp) ?_; intro g1 cap1 W1 hown hgrow hat hlt1))
                    have HG := Lib.hid hgrow
                    have HOW := Lib.hid hown
                    clear hgrow hown hat e1
                    go_wp2_with fail
                    go_roundg (rest - sk).toNat
                    case measure => omega
                    case rel =>
                      refine ⟨([] : List Nat) ++ [i], rest - sk, i, Nat.le_refl _, by first | rfl | (congr 1; omega), by omega, by omega, (show Last _ _ from .inr ⟨([] : List Nat), i, rfl, rfl⟩), ?_, ?_, ?_, ?_, ?_⟩
                      · show D.Coll _ _ _; rw [← HSKE.out i rfl]; exact HC.out.step hpos hNext.out
                      · show D.At _ _; rw [← HSKE.out i rfl]; exact Dir.At.step hNext.out
                      · show _ ≤ _; rw [E2.out]; have := HLN'.out; omega
                      · show World.ownsRow _ _ _ _ _ _ _
                        have := HOW.out
                        rw [E2.out, E3.out]; exact this
                      · show Below _ _ _; exact ((below_drewN HB'.out _).alloc HB'.out.size _).grown HG.out (by simp; have := HB'.out.size; omega) (fun t ht => (HO'.out.lt t ht).1)
                  · have htb : (D.T i == rest) = false := by simp [ht]
                    have HHF : Hid (D.hit rest (-1) i = false) := by show _ = _; rw [HH.out, htb]
                    clear ht
                    generalize D.T i = t at *
                    go_wp2_with fail
                    go_quiet (fail)
                    go_wp2_with fail
                    go_roundg (k - (i + 1))
                    case measure => omega
                    case rel =>
                      refine ⟨i + 1, by omega, by omega, by go_num, rfl, rfl, (show ∀ c, _ from fun c hc => ?_), HO'.out, below_drewN HB'.out _⟩
                      by_cases e : c = i
                      · rw [e]; exact HHF.out
                      · exact NH.out c (by omega)
                · have hxb : (p.x == 0) = false := by simp [hx]
                  have HH : Hid (D.hit rest (-1) i = false) := by show _ = _; rw [hhit.out, hxb]; simp
                  clear hx hhit
                  simp only [List.length_nil]
                  go_wp2_with fail
                  go_quiet (fail)
                  go_wp2_with fail
                  go_roundg (k - (i + 1))
                  case measure => omega
                  case rel =>
                    refine ⟨i + 1, by omega, by omega, by go_num, rfl, rfl, (show ∀ c, _ from fun c hc => ?_), HO'.out, below_drewN HB'.out _⟩
                    by_cases e : c = i
                    · rw [e]; exact HH.out
                    · exact NH.out c (by omega)
              · subst hfr
                subst hacc
                have hmk : m < k := by
                  have hh := HA.out
                  have h2 := HDN.out
                  rcases hh with h | h
                  · omega
                  · have := h.2.1; omega
                obtain ⟨A', c', rfl⟩ := own_slice HO'.out
                obtain ⟨gc, rfl, hgc1, hgc2, cm⟩ := own_cell HO'.out (j := l.length) (by simp)
                have hgd : (l ++ [m]).getD l.length 0 = m := by simp [List.getD_eq_getElem?_getD]
                rw [hgd] at cm
                obtain ⟨-, ⟨d0, d1, d2, d3, d4, d5⟩, -⟩ := HQ.out wr HB'.out m hmk
                have hq : (l ++ [m]).length = l.length + 1 := by simp
                rw [hq] at HO' HLN'
                rw [hq]
                clear hq hgd
                have hleads : Hid (D.leads m i = nbB (gp f.ps m) (gp f.ps i)) := HL.out m i hmk hik
                have hhit2 : Hid (D.hit rest m i = (D.T i == rest && nbB (gp f.ps m) (gp f.ps i))) := by
                  show _ = _
                  rw [hhit.out, Int.toNat_natCast, hleads.out, decide_eq_false (show ¬ ((m : Int) < 0) by omega), decide_eq_true (show (0 : Int) ≤ (m : Int) by omega)]
                  simp
                have HSM := Lib.hid (HS.out m hmk)
                have HNB := Lib.hid (neighbours_any (gp f.ps m) (gp f.ps i))
                clear hhit hleads
                have HLQ : Hid ((l ++ [m]).length = l.length + 1) := by show _ = _; simp
                generalize hql : l.length = q at *
                have HQL := Lib.hid hql
                clear hql
                generalize hqm : gp f.ps m = pm at *
                generalize hqi : gp f.ps i = pi at *
                clear hqm hqi
                have hq0 : (((q : Int) + 1) == 0) = false := by rw [beq_eq_false_iff_ne]; omega
                have hq1 : (0 : Int) < (q : Int) + 1 := by omega
                have hq2 : IntKind.i64.wrap ((q : Int) + 1 - 1) = (q : Int) := by rw [show (q : Int) + 1 - 1 = (q : Int) by omega]; exact IntWalk.i64_in _ (by have := HLN'.out; omega)
                have hq3 : IntKind.i64.wrap (q : Int) = (q : Int) := IntWalk.i64_in _ (by have := HLN'.out; omega)
                have hq4 : (q : Int) < (q : Int) + 1 := by omega
                have hq5 : (0 : Int) ≤ (q : Int) := by omega
                have hm0 : (0 : Int) ≤ (m : Int) := by omega
                have hmkz : (m : Int) < (k : Int) := by omega
                have HMM : Hid (m < k) := hmk
                clear hmk
                cases hnb : nbB pm pi with
                | true =>
                  by_cases ht : D.T i = rest
                  · have htb : (D.T i == rest) = true := by simp [ht]
                    have HTT := Lib.hid ht
                    have HHT : Hid (D.hit rest m i = true) := by show _ = _; rw [hhit2.out, htb, hnb]; rfl
                    clear ht
                    generalize D.T i = t at *
                    go_wp2_with fail
                    have x2 := cell_regrown f2
                    have xc := cell_regrown cm
                    have y0 := cell_regrown d0
                    have y1 := cell_regrown d1
                    have y2 := cell_regrown d2
                    have y3 := cell_regrown d3
                    have y4 := cell_regrown d4
                    have y5 := cell_regrown d5
                    have x0 := cell_regrown c0
                    have x1 := cell_regrown c1'
                    have x2' := cell_regrown c2
                    have x3 := cell_regrown c3
                    have x4 := cell_regrown c4
                    have x5 := cell_regrown c5
                    have cN : ∀ d os, Calls Try.prog 91 #[.agg (pcs pm), .agg (pcs pi)] (grow (redrawn wr d) os) fun e w'' => e = .returned (.bool true) ∧ ∃ p : Regrown, w'' = grow (redrawn wr p.d) p.os := fun d os => Calls.regrown_of (by have := HNB.out (grow (redrawn wr d) os) HSM.out HSI.out; rw [hnb] at this; exact this)
                    refine wp_region_quiet_below (by kernel_rfl) (by kernel_rfl) ?_
                    repeat (first | go_big_quiet_step (exact cN _ _) | quiet_step (exact cN _ _))
                    refine wpQuiet_nil ?_
                    intro _ hw'
                    obtain ⟨⟨dq, osq⟩, hw''⟩ := hw'
                    subst hw''
                    have b3 := below_regrown wr dq osq
                    generalize grow (redrawn wr dq) osq = w3 at *
                    have HO3 := Lib.hid (own_keep HO'.out b3)
                    have HB3 := Lib.hid (HB'.out.trans (b3.mono HB'.out.size))
                    have z1 := z1
                    have z1' : w3.cell? ⟨b1, o1 + i, none⟩ = some (.int .i64 (gz ws i)) := (b3.cell (p := ⟨b1, o1 + i, none⟩) (by have := HB'.out.size; show b1 < _; omega)).trans z1
                    have r1' := (b3.cell (p := ⟨g, i, none⟩) (by have := HB'.out.size; show g < _; omega)).trans r1
                    clear z1 r1 b3 x2 xc x0 x1 x2' x3 x4 x5 y0 y1 y2 y3 y4 y5 cN f0 f1 f2 cm d0 d1 d2 d3 d4 d5 c0 c1' c2 c3 c4 c5 hq0 hq1 hq2 hq3 hq4 hq5 hgc2
                    have hsz3 := HB3.out.size
                    have z1 := z1'
                    have r1 := r1'
                    clear z1' r1'
                    have hNext : Hid (D.IsNext rest m i) := ⟨by have := HDN.out; omega, HHT.out, NH.out⟩
                    have hsr := HSR.out HTT.out
                    generalize hsk : gz ws i = sk at *
                    have HSKE : Hid (∀ j, j = i → D.s j = sk) := HXX.out
                    clear hsk
                    have e1 : IntKind.i64.wrap (rest - sk) = rest - sk := IntWalk.i64_in _ (by omega)
                    go_wp2_with fail
                    have HS0 : Hid (∀ q, (w3.drewN q).cell? ⟨b1, o1 + i, none⟩ = some (.int .i64 sk)) := fun q => z1
                    have hLen : Hid ((q + 1) + 1 ≤ 1000000000001) := by have := HLN'.out; show _ ≤ _; omega
                    have e2 : ((l ++ [m]) ++ [i]).length = (q + 1) + 1 := (by rw [List.length_append, HLQ.out]; rfl)
                    have e3 : nums ((l ++ [m]) ++ [i]) = nums (l ++ [m]) ++ [.int .i64 i] := by simp [nums]
                    have E2 := Lib.hid e2
                    have E3 := Lib.hid e3
                    clear e2 e3
                    have hb1w2 : b1 < W2.heap.size := by omega
                    go_region_held3 (fun w' => w'.cell? ⟨b1, o1 + i, none⟩ = some (.int .i64 sk))
                      (first
                        | exact HS0.out _
                        | go_keep
                        | (refine far_keep hgrow (fun t ht => (HO3.out.lt t ht).1) hb1w2 ?_ ?_ <;> first | assumption | (simp; omega)))
                      ((refine step_append_lies _ (by rfl) (.tmp 90) (.tmp 92) 23 (by rfl) W2.heap.size 3 inf _ 1 8 Try.underlying23 hInf hInf0 hInf1 hInf2 rfl (by omega) _ (q + 1) (nums (l ++ [m])) (by rfl) ((own_drewN HO3.out _).alloc _)
                          ⟨w3.heap.size, 0, none⟩ 1 1 [.int .i64 i] (by rfl) (by rfl) (World.news_of_block (cs := #[.int .i64 i]) (t := 3) (fr := (0, 0)) (heap_alloc_new (w3.drewN _) _)) (by simp [Value.oneCell']) (by omega) (by have := hLen.out; simp only [maxLen]; omega) (by have := hLen.out; omega) (by simp; have := HB3.out.size; omega) (w3.heap.size + 1) (by simp) ?_; intro g1 cap1 W1 hown hgrow hat hlt1))
                    have HG := Lib.hid hgrow
                    have HOW := Lib.hid hown
                    clear hgrow hown hat e1
                    go_wp2_with fail
                    go_roundg (rest - sk).toNat
                    case measure => omega
                    case rel =>
                      refine ⟨(l ++ [m]) ++ [i], rest - sk, i, Nat.le_refl _, by first | rfl | (congr 1; omega), by omega, by omega, (show Last _ _ from .inr ⟨(l ++ [m]), i, rfl, rfl⟩), ?_, ?_, ?_, ?_, ?_⟩
                      · show D.Coll _ _ _; rw [← HSKE.out i rfl]; exact HC.out.step hpos hNext.out
                      · show D.At _ _; rw [← HSKE.out i rfl]; exact Dir.At.step hNext.out
                      · show _ ≤ _; rw [E2.out]; have := HLN'.out; omega
                      · show World.ownsRow _ _ _ _ _ _ _
                        have := HOW.out
                        rw [E2.out, E3.out]; exact this
                      · show Below _ _ _; exact ((below_drewN HB3.out _).alloc HB3.out.size _).grown HG.out (by simp; have := HB3.out.size; omega) (fun t ht => (HO3.out.lt t ht).1)
                  · have htb : (D.T i == rest) = false := by simp [ht]
                    have HHF : Hid (D.hit rest m i = false) := by show _ = _; rw [hhit2.out, htb]; rfl
                    clear ht
                    generalize D.T i = t at *
                    go_wp2_with fail
                    have x2 := cell_regrown f2
                    have xc := cell_regrown cm
                    have y0 := cell_regrown d0
                    have y1 := cell_regrown d1
                    have y2 := cell_regrown d2
                    have y3 := cell_regrown d3
                    have y4 := cell_regrown d4
                    have y5 := cell_regrown d5
                    have x0 := cell_regrown c0
                    have x1 := cell_regrown c1'
                    have x2' := cell_regrown c2
                    have x3 := cell_regrown c3
                    have x4 := cell_regrown c4
                    have x5 := cell_regrown c5
                    have cN : ∀ d os, Calls Try.prog 91 #[.agg (pcs pm), .agg (pcs pi)] (grow (redrawn wr d) os) fun e w'' => e = .returned (.bool true) ∧ ∃ p : Regrown, w'' = grow (redrawn wr p.d) p.os := fun d os => Calls.regrown_of (by have := HNB.out (grow (redrawn wr d) os) HSM.out HSI.out; rw [hnb] at this; exact this)
                    refine wp_region_quiet_below (by kernel_rfl) (by kernel_rfl) ?_
                    repeat (first | go_big_quiet_step (exact cN _ _) | quiet_step (exact cN _ _))
                    refine wpQuiet_nil ?_
                    intro _ hw'
                    obtain ⟨⟨dq, osq⟩, hw''⟩ := hw'
                    subst hw''
                    have b3 := below_regrown wr dq osq
                    generalize grow (redrawn wr dq) osq = w3 at *
                    have HO3 := Lib.hid (own_keep HO'.out b3)
                    have HB3 := Lib.hid (HB'.out.trans (b3.mono HB'.out.size))
                    have z1 := z1
                    have z1' : w3.cell? ⟨b1, o1 + i, none⟩ = some (.int .i64 (gz ws i)) := (b3.cell (p := ⟨b1, o1 + i, none⟩) (by have := HB'.out.size; show b1 < _; omega)).trans z1
                    have r1' := (b3.cell (p := ⟨g, i, none⟩) (by have := HB'.out.size; show g < _; omega)).trans r1
                    clear z1 r1 b3 x2 xc x0 x1 x2' x3 x4 x5 y0 y1 y2 y3 y4 y5 cN f0 f1 f2 cm d0 d1 d2 d3 d4 d5 c0 c1' c2 c3 c4 c5 hq0 hq1 hq2 hq3 hq4 hq5 hgc2
                    have hsz3 := HB3.out.size
                    have z1 := z1'
                    have r1 := r1'
                    clear z1' r1'
                    go_wp2_with fail
                    go_roundg (k - (i + 1))
                    case measure => omega
                    case rel =>
                      refine ⟨i + 1, by omega, by omega, by go_num, (by rw [HLQ.out]), rfl, (show ∀ c, _ from fun c hc => ?_), (by rw [HLQ.out]; exact HO3.out), HB3.out⟩
                      by_cases e : c = i
                      · rw [e]; exact HHF.out
                      · exact NH.out c (by omega)
                | false =>
                  have HHF : Hid (D.hit rest m i = false) := by show _ = _; rw [hhit2.out, hnb]; simp
                  go_wp2_with fail
                  have x2 := cell_regrown f2
                  have xc := cell_regrown cm
                  have y0 := cell_regrown d0
                  have y1 := cell_regrown d1
                  have y2 := cell_regrown d2
                  have y3 := cell_regrown d3
                  have y4 := cell_regrown d4
                  have y5 := cell_regrown d5
                  have x0 := cell_regrown c0
                  have x1 := cell_regrown c1'
                  have x2' := cell_regrown c2
                  have x3 := cell_regrown c3
                  have x4 := cell_regrown c4
                  have x5 := cell_regrown c5
                  have cN : ∀ d os, Calls Try.prog 91 #[.agg (pcs pm), .agg (pcs pi)] (grow (redrawn wr d) os) fun e w'' => e = .returned (.bool false) ∧ ∃ p : Regrown, w'' = grow (redrawn wr p.d) p.os := fun d os => Calls.regrown_of (by have := HNB.out (grow (redrawn wr d) os) HSM.out HSI.out; rw [hnb] at this; exact this)
                  refine wp_region_quiet_below (by kernel_rfl) (by kernel_rfl) ?_
                  repeat (first | go_big_quiet_step (exact cN _ _) | quiet_step (exact cN _ _))
                  refine wpQuiet_nil ?_
                  intro _ hw'
                  obtain ⟨⟨dq, osq⟩, hw''⟩ := hw'
                  subst hw''
                  have b3 := below_regrown wr dq osq
                  generalize grow (redrawn wr dq) osq = w3 at *
                  have HO3 := Lib.hid (own_keep HO'.out b3)
                  have HB3 := Lib.hid (HB'.out.trans (b3.mono HB'.out.size))
                  have z1 := z1
                  have z1' : w3.cell? ⟨b1, o1 + i, none⟩ = some (.int .i64 (gz ws i)) := (b3.cell (p := ⟨b1, o1 + i, none⟩) (by have := HB'.out.size; show b1 < _; omega)).trans z1
                  have r1' := (b3.cell (p := ⟨g, i, none⟩) (by have := HB'.out.size; show g < _; omega)).trans r1
                  clear z1 r1 b3 x2 xc x0 x1 x2' x3 x4 x5 y0 y1 y2 y3 y4 y5 cN f0 f1 f2 cm d0 d1 d2 d3 d4 d5 c0 c1' c2 c3 c4 c5 hq0 hq1 hq2 hq3 hq4 hq5 hgc2
                  have z1 := z1'
                  have r1 := r1'
                  clear z1' r1'
                  go_wp2_with fail
                  go_roundg (k - (i + 1))
                  case measure => omega
                  case rel =>
                    refine ⟨i + 1, by omega, by omega, by go_num, (by rw [HLQ.out]), rfl, (show ∀ c, _ from fun c hc => ?_), (by rw [HLQ.out]; exact HO3.out), HB3.out⟩
                    by_cases e : c = i
                    · rw [e]; exact HHF.out
                    · exact NH.out c (by omega)
            · exfalso
              have h1 := HIO.out
              have h2 := NH.out io (by have := h1.1; have := HDN.out; omega)
              rw [h1.2.1] at h2
              cases h2
        · have hfin : Hid (LongPostR w D (.returned (.tuple #[.int .i64 M, u9])) wr) := by
            refine ⟨acc, u9, by rw [HM.out], ?_, own_mono HO.out (by omega), HB2.out.trans (HBw.out.mono (by omega))⟩
            have := HC.out.done (by omega)
            exact this
          clear HO
          go_wp2_with fail
          go_ret2
          exact hfin.out
end Go.Proofs.Ytlfeoofchebbkaa
