/- longest: the longest chain, and the first such chain. -/
import Derived.Test.YtlfeoofchebbkaaDoorThr
import Derived.Deep.RegionHeld3
namespace Go.Proofs.YtlfeoofchebbkaaDoor
set_option linter.unusedSimpArgs false
set_option linter.unusedVariables false
open Go.RowKit
def nums (l : List Nat) : List Value := l.map fun (i : Nat) => Value.int .i64 (i : Int)
def LongPost (w : World) (D : Dir) (e : Ending) (w' : World) : Prop :=
  ∃ (l : List Nat) (v : Value), e = .returned (.tuple #[.int .i64 D.maxT, v]) ∧ D.IsChain D.maxT (-1) l ∧ w'.ownsRow w.heap.size 3 1 v l.length (nums l) ∧ Below w.heap.size w w'
theorem far_keep {base b o : Nat} {u : Value} {W W' : World} {row : Option Nat} (hg : W.grownBy W' row) (hr : ∀ t, row = some t → base ≤ t) (hb : b < base) (hW : base ≤ W.heap.size) (h : W.cell? ⟨b, o, none⟩ = some u) : W'.cell? ⟨b, o, none⟩ = some u :=
  (World.cell?_of_block (a := ⟨b, o, none⟩) (hg.block b (by omega) (fun e => by have := hr b e.symm; omega))).trans h
set_option maxRecDepth 100000 in
set_option maxHeartbeats 4000000 in
theorem longest_any (D : Dir) (wf : D.WF) (fu : D.Full) (hn : D.n ≤ 1000) (hT : ∀ i, i < D.n → D.T i ≤ 1000000000000) (B dg : Nat) (Aa Ab Az : Option Addr) (ca cb cz ba oa bb ob bz oz : Nat) (w : World)
    (hD : DAt w B dg D Aa Ab Az ca cb cz ba oa bb ob bz oz) (hB : B ≤ w.heap.size) :
    Calls Tryd.prog 33 #[.pointer (some ⟨dg, 0, none⟩)] w (LongPost w D) := by
  obtain ⟨i0, hi0, hz0, hz1, hz2⟩ := info_parts Tryd.info3
  have hc1 := tails_any D wf (by omega) hT B dg Aa Ab Az ca cb cz ba oa bb ob bz oz w hD hB
  have hT0 : ∀ j, j < D.n → 0 ≤ D.T j := fun j hj => by have := Dir.T_pos wf j hj; omega
  have hmx : D.maxT ≤ 1000000000000 := maxTo_le (by omega) hT
  have hmx0 := Dir.maxT_pos wf fu.some
  have HD := Lib.hid hD
  have HT := Lib.hid hT
  have HT0 := Lib.hid hT0
  clear hD hT hT0
  go_enter Tryd.func33, Tryd.ntmps33
  go_wp2_with fail
  refine hc1.mono ?_
  rintro e w1 ⟨g, rfl, hg, R1, b1⟩
  have HR1 := Lib.hid R1
  have HB1 := Lib.hid b1
  clear hc1 R1 b1
  go_wp2_with fail
  refine (max_any D.n D.n g D.T w1 HR1.out HT0.out fu.some (by omega)).mono ?_
  rintro e w2 ⟨rfl, rfl⟩
  have hmm : maxTo D.n D.T = D.maxT := rfl
  rw [hmm]
  clear hmm
  generalize hM : D.maxT = M at *
  have HM := Lib.hid hM
  clear hM
  go_wp2_with fail
  go_loopg [6, 7, 8] M.toNat (fun gg s6 s7 s8 wr => ∃ (acc : List Nat) (rest fr : Int), rest.toNat ≤ gg ∧ s7 = .int .i64 rest ∧ s8 = .int .i64 fr ∧ 0 ≤ rest ∧ rest ≤ M ∧ Hid (D.Coll acc rest fr) ∧ Hid (D.At rest fr) ∧ Hid (acc.length + rest.toNat ≤ M.toNat) ∧
      Hid (wr.ownsRow w.heap.size 3 1 s6 acc.length (nums acc)) ∧ Hid (wr.rowIs g 3 D.n (fun j => .int .i64 (D.T j))) ∧ Hid (Below w.heap.size w wr) ∧ Hid (s6.ownBlock ≠ some g) ∧ w.heap.size ≤ wr.heap.size)
  case atStart =>
    refine ⟨[], M, -1, Nat.le_refl _, rfl, rfl, by omega, Int.le_refl _, ?_, ?_, (show _ ≤ _ by simp), World.ownsRow_nil _ _ _ _, HR1.out, HB1.out, (show _ ≠ _ by simp [Value.ownBlock]), HB1.out.size⟩
    · rw [← HM.out]; exact Dir.Coll.start D
    · rw [← HM.out]; exact .inl ⟨rfl, rfl⟩
  case round =>
    obtain ⟨acc, rest, fr, hgg, rfl, rfl, hr0, hr1, HC, HA, HL, HO, HR, HB, HV, hw⟩ := hrel
    clear HR1 HB1
    have hfr : -1 ≤ fr := by rcases HA.out with h | h <;> omega
    by_cases hpos : 0 < rest
    · go_wp2_with fail
      obtain ⟨wo, rfl⟩ : ∃ wo : World, wo = wr := ⟨_, rfl⟩
      obtain ⟨gko, rfl⟩ : ∃ x : Nat, x = gk := ⟨_, rfl⟩
      obtain ⟨v, rfl⟩ : ∃ x : Value, x = u6 := ⟨_, rfl⟩
      obtain ⟨io, hio⟩ := HA.out.next wf fu hpos
      have HIO := Lib.hid hio
      clear hio
      go_loopg [6, 7, 8, 19] D.n (fun gg s6 s7 s8 s19 wi => ∃ k : Nat, k ≤ D.n ∧ D.n - k ≤ gg ∧ s19 = .int .i64 k ∧ s6 = v ∧ s7 = .int .i64 rest ∧ s8 = .int .i64 fr ∧ Hid (∀ c, c < k → D.hit rest fr c = false) ∧
        Hid (wi.ownsRow w.heap.size 3 1 v acc.length (nums acc)) ∧ Hid (wi.rowIs g 3 D.n (fun j => .int .i64 (D.T j))) ∧ Hid (Below w.heap.size w wi) ∧ w.heap.size ≤ wi.heap.size)
      case atStart => exact ⟨0, Nat.zero_le _, by omega, rfl, rfl, rfl, rfl, fun c hc => absurd hc (Nat.not_lt_zero _), HO.out, HR.out, HB.out, hw⟩
      case round =>
        obtain ⟨k, hk, hgk, rfl, rfl, rfl, rfl, NH, HO', HR', HB', hwi⟩ := hrel
        clear HO HR HB hw
        by_cases hlt : k < D.n
        · have hltz : (k : Int) < (D.n : Int) := by omega
          have hk0 : (0 : Int) ≤ (k : Int) := by omega
          have r1 := HR'.out.cell hlt
          have hDr := HD.out.keep (w' := wr) fun b o hb => HB'.out.cell (p := ⟨b, o, none⟩) (Nat.lt_of_lt_of_le hb hB)
          have hhit : Hid (D.hit rest fr k = (D.T k == rest && ((decide (fr < 0) && D.b k == 0) || (decide (0 ≤ fr) && D.leads fr.toNat k)))) := rfl
          by_cases ht : D.T k = rest
          · have htb : (D.T k == rest) = true := by simp [ht]
            have HTT := Lib.hid ht
            clear ht
            have hs2K : D.s k ≤ rest := by have := (Dir.T_pos wf k hlt).1; have := HTT.out; omega
            by_cases hf : fr < 0
            · have hf' : ¬ 0 ≤ fr := by omega
              by_cases hbk : D.b k = 0
              · have hb0 : (D.b k == 0) = true := by simp [hbk]
                have HH : Hid (D.hit rest fr k = true) := by show _ = _; rw [hhit.out, htb, hb0]; simp [hf]
                have qb := hDr.pb k hlt
                obtain ⟨rfl, hba⟩ := hDr.la (by omega)
                have c0 := hDr.c0
                clear hbk hhit
                generalize D.b k = bk at *
                generalize D.T k = t at *
                have hz := hDr.pz k hlt
                have hc2 := hDr.c2
                obtain ⟨rfl, hbz⟩ := hDr.lz (by omega)
                have hdgB := hDr.gB
                have hs1 := wf.s1 k hlt
                have hbz' : bz < w.heap.size := by omega
                have hdg' : dg < w.heap.size := by omega
                have hNext : Hid (D.IsNext rest fr k) := ⟨hlt, HH.out, NH.out⟩
                have HSK : Hid (D.s k ≤ rest) := hs2K
                have hsr : D.s k ≤ rest := HSK.out
                have hLen : Hid (acc.length + 1 ≤ 1000000000001) := by have := HL.out; show _ ≤ _; omega
                have HSD : Hid (Dir.s D k = D.s k) := rfl
                clear hDr
                generalize hsk : D.s k = sk at *
                have HSKE := Lib.hid hsk
                clear hsk
                have e1 : IntKind.i64.wrap (rest - sk) = rest - sk := IntWalk.i64_in _ (by omega)
                go_wp2_with fail
                have hS0 : wr.drew.cell? ⟨dg, 2, none⟩ = some (.slice (some ⟨bz, oz, none⟩) D.n cz) ∧ wr.drew.cell? ⟨bz, oz + k, none⟩ = some (.int .i64 sk) := ⟨hc2, hz⟩
                go_region_held3 (fun w' => w'.cell? ⟨dg, 2, none⟩ = some (.slice (some ⟨bz, oz, none⟩) D.n cz) ∧ w'.cell? ⟨bz, oz + k, none⟩ = some (.int .i64 sk))
                  (first
                    | exact hS0
                    | go_keep
                    | (go_split_ands
                       refine ⟨far_keep hgrow (fun t ht => (HO'.out.lt t ht).1) hdg' ?_ ?_, far_keep hgrow (fun t ht => (HO'.out.lt t ht).1) hbz' ?_ ?_⟩ <;> first | assumption | (simp; omega)))
                  ((refine step_append_lies _ (by rfl) (.tmp 53) (.tmp 55) 22 (by rfl) w.heap.size 3 i0 _ 1 8 Tryd.underlying22 hi0 hz0 hz1 hz2 rfl (by omega) u6 acc.length (nums acc) (by rfl) ((HO'.out.alloc _).drew)
                      ⟨wr.heap.size, 0, none⟩ 1 1 [.int .i64 k] (by rfl) (by rfl) (World.news_of_block (cs := #[.int .i64 k]) (t := 3) (fr := (0, 0)) (heap_alloc_new wr _)) (by simp [Value.oneCell']) (by omega) (by have := hLen.out; simp only [maxLen]; omega) (by have := hLen.out; omega) (by simp; omega) (wr.heap.size + 1) (by simp) ?_; intro g1 cap1 W1 hown hgrow hat hlt1))
                have HG := Lib.hid hgrow
                have HOW := Lib.hid hown
                have HAT := Lib.hid hat
                clear hgrow hown hat hS0 hc2 hz e1
                go_wp2_with fail
                go_roundg (rest - sk).toNat
                case measure => omega
                case rel =>
                  have hbw : Below w.heap.size w wr := HB'.out
                  refine ⟨acc ++ [k], rest - sk, k, Nat.le_refl _, rfl, by first | rfl | (congr 1; omega), by omega, by omega, ?_, ?_, ?_, ?_, ?_, ?_, ?_, ?_⟩
                  · show D.Coll _ _ _; rw [← HSKE.out]; exact HC.out.step hpos hNext.out
                  · show D.At _ _; rw [← HSKE.out]; exact Dir.At.step hNext.out
                  · show _ ≤ _; have := HL.out; simp; omega
                  · show World.ownsRow _ _ _ _ _ _ _
                    have := HOW.out
                    simpa [nums] using this
                  · exact (HR'.out.alloc _).drew.of_block (HG.out.block g (by have := HR'.out.lt; simp [World.drew]; omega) (fun e => HV.out e.symm))
                  · show Below _ _ _; exact ((hbw.alloc hwi _).drew).grown HG.out (by simp [World.drew]; omega) (fun t ht => (HO'.out.lt t ht).1)
                  · show _ ≠ _
                    rw [ownBlock_some]
                    have := HR'.out.lt
                    rcases HAT.out with h | h
                    · rw [← h]; exact HV.out
                    · intro he; injection he with he; omega
                  · have := HG.out.size; simp [World.drew] at this; omega
              · have hb0 : (D.b k == 0) = false := by simp [hbk]
                have hh : Hid (D.hit rest fr k = false) := by show _ = _; rw [hhit.out, htb, hb0]; simp [hf]; omega
                have qb := hDr.pb k hlt
                obtain ⟨rfl, hba⟩ := hDr.la (by omega)
                have c0 := hDr.c0
                clear hbk hhit hDr
                generalize D.b k = bk at *
                generalize D.T k = t at *
                go_wp2_with fail
                go_roundg (D.n - (k + 1))
                case measure => omega
                case rel =>
                  refine ⟨k + 1, by omega, by omega, by go_num, rfl, rfl, rfl, (show ∀ c, _ from fun c hc => ?_), HO'.out, HR'.out, HB'.out, hwi⟩
                  by_cases e : c = k
                  · rw [e]; exact hh.out
                  · exact NH.out c (by omega)
            · have hf' : 0 ≤ fr := by omega
              have hmn : fr.toNat < D.n := by
                rcases HA.out with h | h
                · omega
                · exact h.2.1
              obtain ⟨m, hm⟩ := Int.eq_ofNat_of_zero_le hf'
              subst hm
              rw [Int.toNat_natCast] at hmn hhit
              have hcall := leads_any D B dg Aa Ab Az ca cb cz ba oa bb ob bz oz m k wr hDr (by omega) hmn hlt (by omega)
              have HDR := Lib.hid hDr
              clear hDr
              go_wp2_with fail
              refine hcall.mono ?_
              rintro e w3 ⟨rfl, b3⟩
              have hDr := HDR.out.keep (w' := w3) fun b o hb => b3.cell (p := ⟨b, o, none⟩) (Nat.lt_of_lt_of_le hb (by omega))
              have HO3 := Lib.hid (HO'.out.kept (grown_of_below b3 none) (by by_cases e : u6.ownBlock = none <;> simp [e]))
              have HR3 := Lib.hid (HR'.out.of_block (b3.block g HR'.out.lt))
              have HB3 := Lib.hid (HB'.out.trans (b3.mono hwi))
              have hwi3 : w.heap.size ≤ w3.heap.size := by have := b3.size; omega
              clear HDR HO' HR' HB' hwi b3 hcall r1
              have HO' := Lib.hid HO3.out
              have HR' := Lib.hid HR3.out
              have HB' := Lib.hid HB3.out
              have hwi := hwi3
              clear HO3 HR3 HB3 hwi3
              cases hl : D.leads m k with
              | true =>
                have HH : Hid (D.hit rest m k = true) := by show _ = _; rw [hhit.out, htb, hl]; simp
                clear hhit
                generalize D.T k = t at *
                have hz := hDr.pz k hlt
                have hc2 := hDr.c2
                obtain ⟨rfl, hbz⟩ := hDr.lz (by omega)
                have hdgB := hDr.gB
                have hs1 := wf.s1 k hlt
                have hbz' : bz < w.heap.size := by omega
                have hdg' : dg < w.heap.size := by omega
                have hNext : Hid (D.IsNext rest m k) := ⟨hlt, HH.out, NH.out⟩
                have HSK : Hid (D.s k ≤ rest) := hs2K
                have hsr : D.s k ≤ rest := HSK.out
                have hLen : Hid (acc.length + 1 ≤ 1000000000001) := by have := HL.out; show _ ≤ _; omega
                have HSD : Hid (Dir.s D k = D.s k) := rfl
                clear hDr
                generalize hsk : D.s k = sk at *
                have HSKE := Lib.hid hsk
                clear hsk
                have e1 : IntKind.i64.wrap (rest - sk) = rest - sk := IntWalk.i64_in _ (by omega)
                go_wp2_with fail
                have hS0 : w3.drew.cell? ⟨dg, 2, none⟩ = some (.slice (some ⟨bz, oz, none⟩) D.n cz) ∧ w3.drew.cell? ⟨bz, oz + k, none⟩ = some (.int .i64 sk) := ⟨hc2, hz⟩
                go_region_held3 (fun w' => w'.cell? ⟨dg, 2, none⟩ = some (.slice (some ⟨bz, oz, none⟩) D.n cz) ∧ w'.cell? ⟨bz, oz + k, none⟩ = some (.int .i64 sk))
                  (first
                    | exact hS0
                    | go_keep
                    | (go_split_ands
                       refine ⟨far_keep hgrow (fun t ht => (HO'.out.lt t ht).1) hdg' ?_ ?_, far_keep hgrow (fun t ht => (HO'.out.lt t ht).1) hbz' ?_ ?_⟩ <;> first | assumption | (simp; omega)))
                  ((refine step_append_lies _ (by rfl) (.tmp 53) (.tmp 55) 22 (by rfl) w.heap.size 3 i0 _ 1 8 Tryd.underlying22 hi0 hz0 hz1 hz2 rfl (by omega) u6 acc.length (nums acc) (by rfl) ((HO'.out.alloc _).drew)
                      ⟨w3.heap.size, 0, none⟩ 1 1 [.int .i64 k] (by rfl) (by rfl) (World.news_of_block (cs := #[.int .i64 k]) (t := 3) (fr := (0, 0)) (heap_alloc_new w3 _)) (by simp [Value.oneCell']) (by omega) (by have := hLen.out; simp only [maxLen]; omega) (by have := hLen.out; omega) (by simp; omega) (w3.heap.size + 1) (by simp) ?_; intro g1 cap1 W1 hown hgrow hat hlt1))
                have HG := Lib.hid hgrow
                have HOW := Lib.hid hown
                have HAT := Lib.hid hat
                clear hgrow hown hat hS0 hc2 hz e1
                go_wp2_with fail
                go_roundg (rest - sk).toNat
                case measure => omega
                case rel =>
                  have hbw : Below w.heap.size w w3 := HB'.out
                  refine ⟨acc ++ [k], rest - sk, k, Nat.le_refl _, rfl, by first | rfl | (congr 1; omega), by omega, by omega, ?_, ?_, ?_, ?_, ?_, ?_, ?_, ?_⟩
                  · show D.Coll _ _ _; rw [← HSKE.out]; exact HC.out.step hpos hNext.out
                  · show D.At _ _; rw [← HSKE.out]; exact Dir.At.step hNext.out
                  · show _ ≤ _; have := HL.out; simp; omega
                  · show World.ownsRow _ _ _ _ _ _ _
                    have := HOW.out
                    simpa [nums] using this
                  · exact (HR'.out.alloc _).drew.of_block (HG.out.block g (by have := HR'.out.lt; simp [World.drew]; omega) (fun e => HV.out e.symm))
                  · show Below _ _ _; exact ((hbw.alloc hwi _).drew).grown HG.out (by simp [World.drew]; omega) (fun t ht => (HO'.out.lt t ht).1)
                  · show _ ≠ _
                    rw [ownBlock_some]
                    have := HR'.out.lt
                    rcases HAT.out with h | h
                    · rw [← h]; exact HV.out
                    · intro he; injection he with he; omega
                  · have := HG.out.size; simp [World.drew] at this; omega
              | false =>
                have hh : Hid (D.hit rest m k = false) := by show _ = _; rw [hhit.out, htb, hl]; simp; omega
                clear hhit hDr
                generalize D.T k = t at *
                go_wp2_with fail
                go_roundg (D.n - (k + 1))
                case measure => omega
                case rel =>
                  refine ⟨k + 1, by omega, by omega, by go_num, rfl, rfl, rfl, (show ∀ c, _ from fun c hc => ?_), HO'.out, HR'.out, HB'.out, hwi⟩
                  by_cases e : c = k
                  · rw [e]; exact hh.out
                  · exact NH.out c (by omega)
          · have htb : (D.T k == rest) = false := by simp [ht]
            have hh : Hid (D.hit rest fr k = false) := by show _ = _; rw [hhit.out, htb]; rfl
            clear ht hDr hhit
            generalize D.T k = t at *
            go_wp2_with fail
            go_roundg (D.n - (k + 1))
            case measure => omega
            case rel =>
              refine ⟨k + 1, by omega, by omega, by go_num, rfl, rfl, rfl, (show ∀ c, _ from fun c hc => ?_), HO'.out, HR'.out, HB'.out, hwi⟩
              by_cases e : c = k
              · rw [e]; exact hh.out
              · exact NH.out c (by omega)
        · exfalso
          have h1 := HIO.out.1
          have h2 := NH.out io (by omega)
          rw [HIO.out.2.1] at h2; cases h2
    · go_wp2_with fail
      go_ret2
      have h0 : rest = 0 := by omega
      refine ⟨acc, u6, by rw [HM.out]; rfl, HC.out.done (by omega), HO.out, HB.out⟩
end Go.Proofs.YtlfeoofchebbkaaDoor
