/- CheckRules: the error of rules, of the program and of the document's answer. -/
import Derived.Test.YtbnganlfelgogaaGreatVRff
import Derived.Test.YtbnganlfelgogaaGreatVBas
set_option linter.unusedSimpArgs false
set_option linter.unusedVariables false
set_option maxRecDepth 100000
set_option maxHeartbeats 40000000
namespace Go.Proofs.YtbnganlfelgogaaGreat
open Go.RowKit
@[reducible,go_sem] def rcs (r:Rls):Array Value:=#[.int .i64 r.measure,.int .i64 r.indent,.int .i64 r.least,.int .i64 r.most,.int .i64 r.gap,.int .i64 r.hyphen,.int .i64 r.single,.int .i64 r.double]
@[reducible,go_sem] def fcs (f:Fnt) (v:Value):Array Value:=#[.string f.name,.int .i64 f.body,v]
structure TB (w W:World) (f:Fnt) (v:Value) (r:Rls):Prop where
 B:Below w.heap.size w W
 F:Blk W w.heap.size 24 (fcs f v)
 R:Blk W (w.heap.size+1) 26 (rcs r)
 S:SoV W f.sorts v
theorem TB.step {w W W':World} {f:Fnt} {v:Value} {r:Rls} (h:TB w W f v r) (hb:Below W.heap.size W W'):TB w W' f v r:=⟨h.B.trans (hb.mono h.B.size),h.F.below hb h.F.lt,h.R.below hb h.R.lt,h.S.below hb⟩
theorem TB.start {w:World} {f:Fnt} {v:Value} (r:Rls) (h:SoV w f.sorts v):TB w ((w.alloc (.cells (fcs f v) 24)).alloc (.cells (rcs r) 26)) f v r:=by
 have h1:=below_new w (.cells (fcs f v) 24)
 have h2:=below_new (w.alloc (.cells (fcs f v) 24)) (.cells (rcs r) 26)
 have hR:=Blk.new (w.alloc (.cells (fcs f v) 24)) 26 (rcs r)
 rw [World.size_alloc] at hR
 exact ⟨h1.trans (h2.mono h1.size),(Blk.new w 24 _).below h2 (by simp),hR,(h.below h1).below h2⟩
theorem SoV.width {W:World} {f:Fnt} {v:Value} {s:Int} (h:SoV W f.sorts v) (hs:0≤s∧s < f.sorts.length):∃ b off c,v=.slice (some ⟨b,off,none⟩) f.sorts.length c∧b < W.heap.size∧W.cell? ⟨b,off+s.toNat*4+3,none⟩=some (.int .i64 (wd f s)):=by
 obtain ⟨A,b,off,c,rfl,h1,h2,h3⟩:=h
 obtain ⟨rfl,hb⟩:=h1 (by omega)
 exact ⟨b,off,c,rfl,hb,(h2 s.toNat (by omega)).2.2.2⟩
theorem SoV.few {W:World} {l:List TSort} {v:Value} (h:SoV W l v):l.length≤9223372036854775807:=by
 obtain ⟨A,b,off,c,rfl,h1,h2,h3,h4,h5⟩:=h
 omega
theorem fnErr_few {f:Fnt} (h:(fnErr f).2=0):0 < f.sorts.length∧f.sorts.length≤120:=by
 unfold fnErr at h
 by_cases h1:isNm f.name=false
 · rw [if_pos h1] at h;exact absurd h (by decide)
 rw [if_neg h1] at h
 by_cases h2:win f.body 1 144=false
 · rw [if_pos h2] at h;exact absurd h (by decide)
 rw [if_neg h2] at h
 by_cases h3:f.sorts.length=0
 · rw [if_pos h3] at h;exact absurd h (by decide)
 rw [if_neg h3] at h
 by_cases h4:120 < f.sorts.length
 · rw [if_pos h4] at h;exact absurd h (by decide)
 omega
theorem checkRules_any (f:Fnt) (v:Value) (r:Rls) (w:World) (hv:SoV w f.sorts v) (hn:f.name.size≤9223372036854775807) :
 Calls Tryz.prog 28 #[.agg (fcs f v),.agg (rcs r)] w fun e w'=>e=.returned (.int .i64 (ruErr f r))∧Below w.heap.size w w':=by
 have HT:=Lib.hid (TB.start r hv)
 have hlen:=hv.few
 obtain ⟨rv,hrv⟩:∃ r',ruErr f r=r':=⟨_,rfl⟩
 rw [hrv]
 have HRV:=Lib.hid hrv
 have HN:=Lib.hid (fun W hW=>founted_any f v W hW hn)
 clear hrv hv hn
 have g0:=HT.out.F.cell 0
 have g1:=HT.out.F.cell 1
 have g2:=HT.out.F.cell 2
 have q0:=HT.out.R.cell 0
 have q1:=HT.out.R.cell 1
 have q2:=HT.out.R.cell 2
 have q3:=HT.out.R.cell 3
 have q4:=HT.out.R.cell 4
 have q5:=HT.out.R.cell 5
 have q6:=HT.out.R.cell 6
 have q7:=HT.out.R.cell 7
 go_enter Tryz.func28,Tryz.ntmps28
 go_wp2_with fail
 generalize (w.alloc (.cells (fcs f v) 24)).alloc (.cells (rcs r) 26)=W0 at *
 refine (HN.out _ HT.out.S).mono ?_
 rintro e W1 ⟨rfl,hb⟩
 have H1:=Lib.hid (HT.out.step hb)
 clear hb HT HN
 clear g0 g1 g2 q0 q1 q2 q3 q4 q5 q6 q7
 have g0:=H1.out.F.cell 0
 have g1:=H1.out.F.cell 1
 have g2:=H1.out.F.cell 2
 have q0:=H1.out.R.cell 0
 have q1:=H1.out.R.cell 1
 have q2:=H1.out.R.cell 2
 have q3:=H1.out.R.cell 3
 have q4:=H1.out.R.cell 4
 have q5:=H1.out.R.cell 5
 have q6:=H1.out.R.cell 6
 have q7:=H1.out.R.cell 7
 obtain ⟨ev,hev⟩:∃ x,(fnErr f).2=x:=⟨_,rfl⟩
 rw [hev]
 have HEV:=Lib.hid hev
 clear hev
 by_cases he:ev=0
 rotate_left
 · have heb:=bne_t he
   have HE:=Lib.hid he
   clear he
   have HFIN:Hid ((ev:Int)=rv):=by show _=_;rw [←HRV.out];unfold ruErr;rw [if_pos (by rw [HEV.out];exact HE.out),HEV.out]
   go_wp2_with fail
   go_ret
   exact ⟨ret_int HFIN.out,H1.out.B⟩
 · have heb:=bne_f he
   have HE:=Lib.hid (HEV.out.trans he)
   have hfw:=fnErr_few HE.out
   clear he HEV
   go_wp2_with fail
   refine (within44_any _ _ _ _).mono ?_
   rintro e w' ⟨rfl,rfl⟩
   cases hq:win r.measure 1 1000000 with
   | false=>
    have HQ:=Lib.hid hq
    clear hq
    have HFIN:Hid ((2:Int)=rv):=by show _=_;rw [←HRV.out];unfold ruErr;rw [if_neg (fun h=>h HE.out),if_pos (Or.inl HQ.out)]
    go_wp2_with fail
    go_ret
    exact ⟨ret_int HFIN.out,H1.out.B⟩
   | true=>
    have A1:=Lib.hid hq
    clear hq
    go_wp2_with fail
    refine (within44_any _ _ _ _).mono ?_
    rintro e w' ⟨rfl,rfl⟩
    cases hq:win r.indent 0 20000 with
    | false=>
     have HQ:=Lib.hid hq
     clear hq
     have HFIN:Hid ((2:Int)=rv):=by show _=_;rw [←HRV.out];unfold ruErr;rw [if_neg (fun h=>h HE.out),if_pos (Or.inr (Or.inl HQ.out))]
     go_wp2_with fail
     go_ret
     exact ⟨ret_int HFIN.out,H1.out.B⟩
    | true=>
     have A2:=Lib.hid hq
     clear hq
     go_wp2_with fail
     refine (within44_any _ _ _ _).mono ?_
     rintro e w' ⟨rfl,rfl⟩
     cases hq:win r.least 1 10000 with
     | false=>
      have HQ:=Lib.hid hq
      clear hq
      have HFIN:Hid ((2:Int)=rv):=by show _=_;rw [←HRV.out];unfold ruErr;rw [if_neg (fun h=>h HE.out),if_pos (Or.inr (Or.inr (Or.inl HQ.out)))]
      go_wp2_with fail
      go_ret
      exact ⟨ret_int HFIN.out,H1.out.B⟩
     | true=>
      have A3:=Lib.hid hq
      clear hq
      go_wp2_with fail
      refine (within44_any _ _ _ _).mono ?_
      rintro e w' ⟨rfl,rfl⟩
      cases hq:win r.most 1 10000 with
      | false=>
       have HQ:=Lib.hid hq
       clear hq
       have HFIN:Hid ((2:Int)=rv):=by show _=_;rw [←HRV.out];unfold ruErr;rw [if_neg (fun h=>h HE.out),if_pos (Or.inr (Or.inr (Or.inr HQ.out)))]
       go_wp2_with fail
       go_ret
       exact ⟨ret_int HFIN.out,H1.out.B⟩
      | true=>
       have A4:=Lib.hid hq
       clear hq
       by_cases h3:r.most < r.least
       · have HQ:=Lib.hid h3
         have HFIN:Hid ((9:Int)=rv):=by show _=_;rw [←HRV.out];unfold ruErr;rw [if_neg (fun h=>h HE.out),if_neg (by rw [A1.out,A2.out,A3.out,A4.out];decide),if_pos HQ.out]
         go_wp2_with fail
         go_ret
         exact ⟨ret_int HFIN.out,H1.out.B⟩
       · have A5:=Lib.hid h3
         go_wp2_with fail
         refine (has_any f v _ _ H1.out.S).mono ?_
         rintro e W2 ⟨rfl,hb⟩
         have H2:=Lib.hid (H1.out.step hb)
         clear hb
         clear g0 g1 g2 q0 q1 q2 q3 q4 q5 q6 q7
         have g0:=H2.out.F.cell 0
         have g1:=H2.out.F.cell 1
         have g2:=H2.out.F.cell 2
         have q0:=H2.out.R.cell 0
         have q1:=H2.out.R.cell 1
         have q2:=H2.out.R.cell 2
         have q3:=H2.out.R.cell 3
         have q4:=H2.out.R.cell 4
         have q5:=H2.out.R.cell 5
         have q6:=H2.out.R.cell 6
         have q7:=H2.out.R.cell 7
         cases hq:win r.gap 0 (f.sorts.length-1) with
         | false=>
          have HQ:=Lib.hid hq
          clear hq
          have HFIN:Hid ((6:Int)=rv):=by show _=_;rw [←HRV.out];unfold ruErr;rw [if_neg (fun h=>h HE.out),if_neg (by rw [A1.out,A2.out,A3.out,A4.out];decide),if_neg (by have:=A5.out;omega),if_pos HQ.out]
          go_wp2_with fail
          go_ret
          exact ⟨ret_int HFIN.out,H2.out.B⟩
         | true=>
          have A6:=Lib.hid hq
          have hgr:=win_t.1 hq
          have hgr2:0≤r.gap∧r.gap < f.sorts.length:=by omega
          clear hq
          go_wp2_with fail
          refine (isSpaceP_any f v _ _ H2.out.S hgr2 (by omega)).mono ?_
          rintro e W3 ⟨rfl,hb⟩
          have H3:=Lib.hid (H2.out.step hb)
          clear hb
          clear g0 g1 g2 q0 q1 q2 q3 q4 q5 q6 q7
          have g0:=H3.out.F.cell 0
          have g1:=H3.out.F.cell 1
          have g2:=H3.out.F.cell 2
          have q0:=H3.out.R.cell 0
          have q1:=H3.out.R.cell 1
          have q2:=H3.out.R.cell 2
          have q3:=H3.out.R.cell 3
          have q4:=H3.out.R.cell 4
          have q5:=H3.out.R.cell 5
          have q6:=H3.out.R.cell 6
          have q7:=H3.out.R.cell 7
          cases hq:spB f r.gap with
          | false=>
           have HQ:=Lib.hid hq
           clear hq
           have HFIN:Hid ((15:Int)=rv):=by show _=_;rw [←HRV.out];unfold ruErr;rw [if_neg (fun h=>h HE.out),if_neg (by rw [A1.out,A2.out,A3.out,A4.out];decide),if_neg (by have:=A5.out;omega),if_neg (by rw [A6.out];decide),if_pos HQ.out]
           go_wp2_with fail
           go_ret
           exact ⟨ret_int HFIN.out,H3.out.B⟩
          | true=>
           have A7:=Lib.hid hq
           clear hq
           obtain ⟨b,off,c',hve,hbw,hwc⟩:=H3.out.S.width hgr2
           have hgt:(r.gap.toNat:Int)=r.gap:=Int.toNat_of_nonneg hgr2.1
           subst hve
           have HGT:=Lib.hid hgt
           clear hgt
           have HWI:Hid (∀ W,Calls Tryz.prog 94 #[.int .i64 (wd f r.gap),.int .i64 r.least,.int .i64 r.most] W fun e w'=>e=.returned (.bool (win (wd f r.gap) r.least r.most))∧w'=W):=(show ∀ W,_ from fun W=>(within44_any _ _ _ W).mono fun _ _ ⟨h1,h2⟩=>⟨h1,h2.symm⟩)
           generalize hwd:wd f r.gap=wg at *
           have HWD:=Lib.hid hwd
           clear hwd
           go_wp2_with fail
           go_quiet ((go_at_call 94;exact Calls.quiet_of_same (HWI.out _)))
           cases hq:win wg r.least r.most with
           | false=>
            have HQ:Hid (win (wd f r.gap) r.least r.most=false):=by show _=_;rw [HWD.out];exact hq
            have HX:=Lib.hid (H3.out.step (below_drewN _ nq))
            have HFIN:Hid ((9:Int)=rv):=by show _=_;rw [←HRV.out];unfold ruErr;rw [if_neg (fun h=>h HE.out),if_neg (by rw [A1.out,A2.out,A3.out,A4.out];decide),if_neg (by have:=A5.out;omega),if_neg (by rw [A6.out];decide),if_neg (by rw [A7.out];decide),if_pos HQ.out]
            go_wp2_with fail
            go_ret
            exact ⟨ret_int HFIN.out,HX.out.B⟩
           | true=>
            have A8:Hid (win (wd f r.gap) r.least r.most=true):=by show _=_;rw [HWD.out];exact hq
            clear hq
            go_wp2_with fail
            have H4:=Lib.hid (H3.out.step (below_drewN _ nq))
            clear g0 g1 g2 q0 q1 q2 q3 q4 q5 q6 q7
            clear H3 hwc hbw HWI
            have g0:=H4.out.F.cell 0
            have g1:=H4.out.F.cell 1
            have g2:=H4.out.F.cell 2
            have q0:=H4.out.R.cell 0
            have q1:=H4.out.R.cell 1
            have q2:=H4.out.R.cell 2
            have q3:=H4.out.R.cell 3
            have q4:=H4.out.R.cell 4
            have q5:=H4.out.R.cell 5
            have q6:=H4.out.R.cell 6
            have q7:=H4.out.R.cell 7
            generalize (W3.drewN nq)=W4 at *
            refine (has_any f _ _ _ H4.out.S).mono ?_
            rintro e W5 ⟨rfl,hb⟩
            have H5:=Lib.hid (H4.out.step hb)
            clear hb
            clear g0 g1 g2 q0 q1 q2 q3 q4 q5 q6 q7
            have g0:=H5.out.F.cell 0
            have g1:=H5.out.F.cell 1
            have g2:=H5.out.F.cell 2
            have q0:=H5.out.R.cell 0
            have q1:=H5.out.R.cell 1
            have q2:=H5.out.R.cell 2
            have q3:=H5.out.R.cell 3
            have q4:=H5.out.R.cell 4
            have q5:=H5.out.R.cell 5
            have q6:=H5.out.R.cell 6
            have q7:=H5.out.R.cell 7
            cases hq:win r.hyphen 0 (f.sorts.length-1) with
            | false=>
             have HQ:=Lib.hid hq
             clear hq
             have HFIN:Hid ((6:Int)=rv):=by show _=_;rw [←HRV.out];unfold ruErr;rw [if_neg (fun h=>h HE.out),if_neg (by rw [A1.out,A2.out,A3.out,A4.out];decide),if_neg (by have:=A5.out;omega),if_neg (by rw [A6.out];decide),if_neg (by rw [A7.out];decide),if_neg (by rw [A8.out];decide),if_pos HQ.out]
             go_wp2_with fail
             go_ret
             exact ⟨ret_int HFIN.out,H5.out.B⟩
            | true=>
             have A9:=Lib.hid hq
             have hhr:=win_t.1 hq
             have hhr2:0≤r.hyphen∧r.hyphen < f.sorts.length:=by omega
             clear hq
             go_wp2_with fail
             refine (isSpaceP_any f _ _ _ H5.out.S hhr2 (by omega)).mono ?_
             rintro e W6 ⟨rfl,hb⟩
             have H6:=Lib.hid (H5.out.step hb)
             clear hb
             clear g0 g1 g2 q0 q1 q2 q3 q4 q5 q6 q7
             have g0:=H6.out.F.cell 0
             have g1:=H6.out.F.cell 1
             have g2:=H6.out.F.cell 2
             have q0:=H6.out.R.cell 0
             have q1:=H6.out.R.cell 1
             have q2:=H6.out.R.cell 2
             have q3:=H6.out.R.cell 3
             have q4:=H6.out.R.cell 4
             have q5:=H6.out.R.cell 5
             have q6:=H6.out.R.cell 6
             have q7:=H6.out.R.cell 7
             cases hq:spB f r.hyphen with
             | true=>
              have HQ:=Lib.hid hq
              clear hq
              have HFIN:Hid ((15:Int)=rv):=by show _=_;rw [←HRV.out];unfold ruErr;rw [if_neg (fun h=>h HE.out),if_neg (by rw [A1.out,A2.out,A3.out,A4.out];decide),if_neg (by have:=A5.out;omega),if_neg (by rw [A6.out];decide),if_neg (by rw [A7.out];decide),if_neg (by rw [A8.out];decide),if_neg (by rw [A9.out];decide),if_pos HQ.out]
              go_wp2_with fail
              go_ret
              exact ⟨ret_int HFIN.out,H6.out.B⟩
             | false=>
              have A10:=Lib.hid hq
              clear hq
              go_wp2_with fail
              refine (within44_any _ _ _ _).mono ?_
              rintro e w' ⟨rfl,rfl⟩
              cases hq:win r.single 0 100000 with
              | false=>
               have HQ:=Lib.hid hq
               clear hq
               have HFIN:Hid ((2:Int)=rv):=by show _=_;rw [←HRV.out];unfold ruErr;rw [if_neg (fun h=>h HE.out),if_neg (by rw [A1.out,A2.out,A3.out,A4.out];decide),if_neg (by have:=A5.out;omega),if_neg (by rw [A6.out];decide),if_neg (by rw [A7.out];decide),if_neg (by rw [A8.out];decide),if_neg (by rw [A9.out];decide),if_neg (by rw [A10.out];decide),if_pos (Or.inl HQ.out)]
               go_wp2_with fail
               go_ret
               exact ⟨ret_int HFIN.out,H6.out.B⟩
              | true=>
               have A11:=Lib.hid hq
               clear hq
               go_wp2_with fail
               refine (within44_any _ _ _ _).mono ?_
               rintro e w' ⟨rfl,rfl⟩
               cases hq:win r.double 0 100000 with
               | false=>
                have HQ:=Lib.hid hq
                clear hq
                have HFIN:Hid ((2:Int)=rv):=by show _=_;rw [←HRV.out];unfold ruErr;rw [if_neg (fun h=>h HE.out),if_neg (by rw [A1.out,A2.out,A3.out,A4.out];decide),if_neg (by have:=A5.out;omega),if_neg (by rw [A6.out];decide),if_neg (by rw [A7.out];decide),if_neg (by rw [A8.out];decide),if_neg (by rw [A9.out];decide),if_neg (by rw [A10.out];decide),if_pos (Or.inr HQ.out)]
                go_wp2_with fail
                go_ret
                exact ⟨ret_int HFIN.out,H6.out.B⟩
               | true=>
                have A12:=Lib.hid hq
                clear hq
                have HFIN:Hid ((0:Int)=rv):=by show _=_;rw [←HRV.out];unfold ruErr;rw [if_neg (fun h=>h HE.out),if_neg (by rw [A1.out,A2.out,A3.out,A4.out];decide),if_neg (by have:=A5.out;omega),if_neg (by rw [A6.out];decide),if_neg (by rw [A7.out];decide),if_neg (by rw [A8.out];decide),if_neg (by rw [A9.out];decide),if_neg (by rw [A10.out];decide),if_neg (by rw [A11.out,A12.out];decide)]
                go_wp2_with fail
                go_ret
                exact ⟨ret_int HFIN.out,H6.out.B⟩
theorem refRules_any (f:Fnt) (v:Value) (r:Rls) (w:World) (hv:SoV w f.sorts v) (hn:f.name.size≤9223372036854775807) :
 Calls Tryz.prog 29 #[.agg (fcs f v),.agg (rcs r)] w fun e w'=>e=.returned (.int .i64 (ruErr f r))∧Below w.heap.size w w':=by
 have HT:=Lib.hid (TB.start r hv)
 have hlen:=hv.few
 obtain ⟨rv,hrv⟩:∃ r',ruErr f r=r':=⟨_,rfl⟩
 rw [hrv]
 have HRV:=Lib.hid hrv
 have HN:=Lib.hid (fun W hW=>refErr_any f v W hW hn)
 clear hrv hv hn
 have g0:=HT.out.F.cell 0
 have g1:=HT.out.F.cell 1
 have g2:=HT.out.F.cell 2
 have q0:=HT.out.R.cell 0
 have q1:=HT.out.R.cell 1
 have q2:=HT.out.R.cell 2
 have q3:=HT.out.R.cell 3
 have q4:=HT.out.R.cell 4
 have q5:=HT.out.R.cell 5
 have q6:=HT.out.R.cell 6
 have q7:=HT.out.R.cell 7
 go_enter Tryz.func29,Tryz.ntmps29
 go_wp2_with fail
 generalize (w.alloc (.cells (fcs f v) 24)).alloc (.cells (rcs r) 26)=W0 at *
 refine (HN.out _ HT.out.S).mono ?_
 rintro e W1 ⟨rfl,hb⟩
 have H1:=Lib.hid (HT.out.step hb)
 clear hb HT HN
 clear g0 g1 g2 q0 q1 q2 q3 q4 q5 q6 q7
 have g0:=H1.out.F.cell 0
 have g1:=H1.out.F.cell 1
 have g2:=H1.out.F.cell 2
 have q0:=H1.out.R.cell 0
 have q1:=H1.out.R.cell 1
 have q2:=H1.out.R.cell 2
 have q3:=H1.out.R.cell 3
 have q4:=H1.out.R.cell 4
 have q5:=H1.out.R.cell 5
 have q6:=H1.out.R.cell 6
 have q7:=H1.out.R.cell 7
 obtain ⟨ev,hev⟩:∃ x,(fnErr f).2=x:=⟨_,rfl⟩
 rw [hev]
 have HEV:=Lib.hid hev
 clear hev
 by_cases he:ev=0
 rotate_left
 · have heb:=bne_t he
   have HE:=Lib.hid he
   clear he
   have HFIN:Hid ((ev:Int)=rv):=by show _=_;rw [←HRV.out];unfold ruErr;rw [if_pos (by rw [HEV.out];exact HE.out),HEV.out]
   go_wp2_with fail
   go_ret
   exact ⟨ret_int HFIN.out,H1.out.B⟩
 · have heb:=bne_f he
   have HE:=Lib.hid (HEV.out.trans he)
   have hfw:=fnErr_few HE.out
   clear he HEV
   go_wp2_with fail
   refine (within13_any _ _ _ _).mono ?_
   rintro e w' ⟨rfl,rfl⟩
   cases hq:win r.measure 1 1000000 with
   | false=>
    have HQ:=Lib.hid hq
    clear hq
    have HFIN:Hid ((2:Int)=rv):=by show _=_;rw [←HRV.out];unfold ruErr;rw [if_neg (fun h=>h HE.out),if_pos (Or.inl HQ.out)]
    go_wp2_with fail
    go_ret
    exact ⟨ret_int HFIN.out,H1.out.B⟩
   | true=>
    have A1:=Lib.hid hq
    clear hq
    go_wp2_with fail
    refine (within13_any _ _ _ _).mono ?_
    rintro e w' ⟨rfl,rfl⟩
    cases hq:win r.indent 0 20000 with
    | false=>
     have HQ:=Lib.hid hq
     clear hq
     have HFIN:Hid ((2:Int)=rv):=by show _=_;rw [←HRV.out];unfold ruErr;rw [if_neg (fun h=>h HE.out),if_pos (Or.inr (Or.inl HQ.out))]
     go_wp2_with fail
     go_ret
     exact ⟨ret_int HFIN.out,H1.out.B⟩
    | true=>
     have A2:=Lib.hid hq
     clear hq
     go_wp2_with fail
     refine (within13_any _ _ _ _).mono ?_
     rintro e w' ⟨rfl,rfl⟩
     cases hq:win r.least 1 10000 with
     | false=>
      have HQ:=Lib.hid hq
      clear hq
      have HFIN:Hid ((2:Int)=rv):=by show _=_;rw [←HRV.out];unfold ruErr;rw [if_neg (fun h=>h HE.out),if_pos (Or.inr (Or.inr (Or.inl HQ.out)))]
      go_wp2_with fail
      go_ret
      exact ⟨ret_int HFIN.out,H1.out.B⟩
     | true=>
      have A3:=Lib.hid hq
      clear hq
      go_wp2_with fail
      refine (within13_any _ _ _ _).mono ?_
      rintro e w' ⟨rfl,rfl⟩
      cases hq:win r.most 1 10000 with
      | false=>
       have HQ:=Lib.hid hq
       clear hq
       have HFIN:Hid ((2:Int)=rv):=by show _=_;rw [←HRV.out];unfold ruErr;rw [if_neg (fun h=>h HE.out),if_pos (Or.inr (Or.inr (Or.inr HQ.out)))]
       go_wp2_with fail
       go_ret
       exact ⟨ret_int HFIN.out,H1.out.B⟩
      | true=>
       have A4:=Lib.hid hq
       clear hq
       by_cases h3:r.most < r.least
       · have HQ:=Lib.hid h3
         have HFIN:Hid ((9:Int)=rv):=by show _=_;rw [←HRV.out];unfold ruErr;rw [if_neg (fun h=>h HE.out),if_neg (by rw [A1.out,A2.out,A3.out,A4.out];decide),if_pos HQ.out]
         go_wp2_with fail
         go_ret
         exact ⟨ret_int HFIN.out,H1.out.B⟩
       · have A5:=Lib.hid h3
         obtain ⟨A,b,off,c,hve⟩:∃ A b off c,v=.slice A f.sorts.length c∧(b:Nat)=b∧(off:Nat)=off:=by
          obtain ⟨A,b,off,c,h,-⟩:=H1.out.S
          exact ⟨A,0,0,c,h,rfl,rfl⟩
         obtain ⟨rfl,-,-⟩:=hve
         clear b off
         go_wp2_with fail
         refine (within13_any _ _ _ _).mono ?_
         rintro e w' ⟨rfl,rfl⟩
         cases hq:win r.gap 0 (f.sorts.length-1) with
         | false=>
          have HQ:=Lib.hid hq
          clear hq
          have HFIN:Hid ((6:Int)=rv):=by show _=_;rw [←HRV.out];unfold ruErr;rw [if_neg (fun h=>h HE.out),if_neg (by rw [A1.out,A2.out,A3.out,A4.out];decide),if_neg (by have:=A5.out;omega),if_pos HQ.out]
          go_wp2_with fail
          go_ret
          exact ⟨ret_int HFIN.out,H1.out.B⟩
         | true=>
          have A6:=Lib.hid hq
          have hgr:=win_t.1 hq
          have hgr2:0≤r.gap∧r.gap < f.sorts.length:=by omega
          clear hq
          go_wp2_with fail
          refine (isSpaceR_any f _ _ _ H1.out.S hgr2 (by omega)).mono ?_
          rintro e W2 ⟨rfl,hb⟩
          have H2:=Lib.hid (H1.out.step hb)
          clear hb
          clear g0 g1 g2 q0 q1 q2 q3 q4 q5 q6 q7
          have g0:=H2.out.F.cell 0
          have g1:=H2.out.F.cell 1
          have g2:=H2.out.F.cell 2
          have q0:=H2.out.R.cell 0
          have q1:=H2.out.R.cell 1
          have q2:=H2.out.R.cell 2
          have q3:=H2.out.R.cell 3
          have q4:=H2.out.R.cell 4
          have q5:=H2.out.R.cell 5
          have q6:=H2.out.R.cell 6
          have q7:=H2.out.R.cell 7
          cases hq:spB f r.gap with
          | false=>
           have HQ:=Lib.hid hq
           clear hq
           have HFIN:Hid ((15:Int)=rv):=by show _=_;rw [←HRV.out];unfold ruErr;rw [if_neg (fun h=>h HE.out),if_neg (by rw [A1.out,A2.out,A3.out,A4.out];decide),if_neg (by have:=A5.out;omega),if_neg (by rw [A6.out];decide),if_pos HQ.out]
           go_wp2_with fail
           go_ret
           exact ⟨ret_int HFIN.out,H2.out.B⟩
          | true=>
           have A7:=Lib.hid hq
           clear hq
           obtain ⟨b,off,c',hve,hbw,hwc⟩:=H2.out.S.width hgr2
           have hgt:(r.gap.toNat:Int)=r.gap:=Int.toNat_of_nonneg hgr2.1
           injection hve with hA hc0 hc1
           subst hA
           clear hc0 hc1
           have HGT:=Lib.hid hgt
           clear hgt
           have HWI:Hid (∀ W,Calls Tryz.prog 19 #[.int .i64 (wd f r.gap),.int .i64 r.least,.int .i64 r.most] W fun e w'=>e=.returned (.bool (win (wd f r.gap) r.least r.most))∧w'=W):=(show ∀ W,_ from fun W=>(within13_any _ _ _ W).mono fun _ _ ⟨h1,h2⟩=>⟨h1,h2.symm⟩)
           generalize hwd:wd f r.gap=wg at *
           have HWD:=Lib.hid hwd
           clear hwd
           go_wp2_with fail
           go_quiet ((go_at_call 19;exact Calls.quiet_of_same (HWI.out _)))
           cases hq:win wg r.least r.most with
           | false=>
            have HQ:Hid (win (wd f r.gap) r.least r.most=false):=by show _=_;rw [HWD.out];exact hq
            have HX:=Lib.hid (H2.out.step (below_drewN _ nq))
            have HFIN:Hid ((9:Int)=rv):=by show _=_;rw [←HRV.out];unfold ruErr;rw [if_neg (fun h=>h HE.out),if_neg (by rw [A1.out,A2.out,A3.out,A4.out];decide),if_neg (by have:=A5.out;omega),if_neg (by rw [A6.out];decide),if_neg (by rw [A7.out];decide),if_pos HQ.out]
            go_wp2_with fail
            go_ret
            exact ⟨ret_int HFIN.out,HX.out.B⟩
           | true=>
            have A8:Hid (win (wd f r.gap) r.least r.most=true):=by show _=_;rw [HWD.out];exact hq
            clear hq
            go_wp2_with fail
            have H3:=Lib.hid (H2.out.step (below_drewN _ nq))
            clear g0 g1 g2 q0 q1 q2 q3 q4 q5 q6 q7
            clear H2 hwc hbw HWI
            have g0:=H3.out.F.cell 0
            have g1:=H3.out.F.cell 1
            have g2:=H3.out.F.cell 2
            have q0:=H3.out.R.cell 0
            have q1:=H3.out.R.cell 1
            have q2:=H3.out.R.cell 2
            have q3:=H3.out.R.cell 3
            have q4:=H3.out.R.cell 4
            have q5:=H3.out.R.cell 5
            have q6:=H3.out.R.cell 6
            have q7:=H3.out.R.cell 7
            generalize (W2.drewN nq)=W3 at *
            refine (within13_any _ _ _ _).mono ?_
            rintro e w' ⟨rfl,rfl⟩
            cases hq:win r.hyphen 0 (f.sorts.length-1) with
            | false=>
             have HQ:=Lib.hid hq
             clear hq
             have HFIN:Hid ((6:Int)=rv):=by show _=_;rw [←HRV.out];unfold ruErr;rw [if_neg (fun h=>h HE.out),if_neg (by rw [A1.out,A2.out,A3.out,A4.out];decide),if_neg (by have:=A5.out;omega),if_neg (by rw [A6.out];decide),if_neg (by rw [A7.out];decide),if_neg (by rw [A8.out];decide),if_pos HQ.out]
             go_wp2_with fail
             go_ret
             exact ⟨ret_int HFIN.out,H3.out.B⟩
            | true=>
             have A9:=Lib.hid hq
             have hhr:=win_t.1 hq
             have hhr2:0≤r.hyphen∧r.hyphen < f.sorts.length:=by omega
             clear hq
             go_wp2_with fail
             refine (isSpaceR_any f _ _ _ H3.out.S hhr2 (by omega)).mono ?_
             rintro e W4 ⟨rfl,hb⟩
             have H4:=Lib.hid (H3.out.step hb)
             clear hb
             clear g0 g1 g2 q0 q1 q2 q3 q4 q5 q6 q7
             have g0:=H4.out.F.cell 0
             have g1:=H4.out.F.cell 1
             have g2:=H4.out.F.cell 2
             have q0:=H4.out.R.cell 0
             have q1:=H4.out.R.cell 1
             have q2:=H4.out.R.cell 2
             have q3:=H4.out.R.cell 3
             have q4:=H4.out.R.cell 4
             have q5:=H4.out.R.cell 5
             have q6:=H4.out.R.cell 6
             have q7:=H4.out.R.cell 7
             cases hq:spB f r.hyphen with
             | true=>
              have HQ:=Lib.hid hq
              clear hq
              have HFIN:Hid ((15:Int)=rv):=by show _=_;rw [←HRV.out];unfold ruErr;rw [if_neg (fun h=>h HE.out),if_neg (by rw [A1.out,A2.out,A3.out,A4.out];decide),if_neg (by have:=A5.out;omega),if_neg (by rw [A6.out];decide),if_neg (by rw [A7.out];decide),if_neg (by rw [A8.out];decide),if_neg (by rw [A9.out];decide),if_pos HQ.out]
              go_wp2_with fail
              go_ret
              exact ⟨ret_int HFIN.out,H4.out.B⟩
             | false=>
              have A10:=Lib.hid hq
              clear hq
              go_wp2_with fail
              refine (within13_any _ _ _ _).mono ?_
              rintro e w' ⟨rfl,rfl⟩
              cases hq:win r.single 0 100000 with
              | false=>
               have HQ:=Lib.hid hq
               clear hq
               have HFIN:Hid ((2:Int)=rv):=by show _=_;rw [←HRV.out];unfold ruErr;rw [if_neg (fun h=>h HE.out),if_neg (by rw [A1.out,A2.out,A3.out,A4.out];decide),if_neg (by have:=A5.out;omega),if_neg (by rw [A6.out];decide),if_neg (by rw [A7.out];decide),if_neg (by rw [A8.out];decide),if_neg (by rw [A9.out];decide),if_neg (by rw [A10.out];decide),if_pos (Or.inl HQ.out)]
               go_wp2_with fail
               go_ret
               exact ⟨ret_int HFIN.out,H4.out.B⟩
              | true=>
               have A11:=Lib.hid hq
               clear hq
               go_wp2_with fail
               refine (within13_any _ _ _ _).mono ?_
               rintro e w' ⟨rfl,rfl⟩
               cases hq:win r.double 0 100000 with
               | false=>
                have HQ:=Lib.hid hq
                clear hq
                have HFIN:Hid ((2:Int)=rv):=by show _=_;rw [←HRV.out];unfold ruErr;rw [if_neg (fun h=>h HE.out),if_neg (by rw [A1.out,A2.out,A3.out,A4.out];decide),if_neg (by have:=A5.out;omega),if_neg (by rw [A6.out];decide),if_neg (by rw [A7.out];decide),if_neg (by rw [A8.out];decide),if_neg (by rw [A9.out];decide),if_neg (by rw [A10.out];decide),if_pos (Or.inr HQ.out)]
                go_wp2_with fail
                go_ret
                exact ⟨ret_int HFIN.out,H4.out.B⟩
               | true=>
                have A12:=Lib.hid hq
                clear hq
                have HFIN:Hid ((0:Int)=rv):=by show _=_;rw [←HRV.out];unfold ruErr;rw [if_neg (fun h=>h HE.out),if_neg (by rw [A1.out,A2.out,A3.out,A4.out];decide),if_neg (by have:=A5.out;omega),if_neg (by rw [A6.out];decide),if_neg (by rw [A7.out];decide),if_neg (by rw [A8.out];decide),if_neg (by rw [A9.out];decide),if_neg (by rw [A10.out];decide),if_neg (by rw [A11.out,A12.out];decide)]
                go_wp2_with fail
                go_ret
                exact ⟨ret_int HFIN.out,H4.out.B⟩
end Go.Proofs.YtbnganlfelgogaaGreat
