/- checkWord: the error of a word, of the program and of the document's answer. -/
import Derived.Test.YtbnganlfelgogaaGreatVRul
import Derived.Lib.QuietBelow
import Derived.Deep.DeepCutAuto
set_option linter.unusedSimpArgs false
set_option linter.unusedVariables false
set_option maxRecDepth 100000
set_option maxHeartbeats 40000000
namespace Go.Proofs.YtbnganlfelgogaaGreat
open Go.RowKit Go.Sort
def wE (f:Fnt) (p:PWord):Int:=
 if p.sorts.length=0 then 10
 else if 60 < p.sorts.length then 8
 else if (fstE (stErr f p.sorts) p.sorts.length).2≠0 then (fstE (stErr f p.sorts) p.sorts.length).2
 else (fstE (brErr p.sorts.length p.breaks) p.breaks.length).2
structure WB (w W:World) (f:Fnt) (v:Value) (p:PWord) (v1 v2:Value):Prop where
 B:Below w.heap.size w W
 F:Blk W w.heap.size 24 (fcs f v)
 X:Blk W (w.heap.size+1) 40 #[v1,v2]
 S:SoV W f.sorts v
 I1:IV W p.sorts v1
 I2:IV W p.breaks v2
theorem WB.step {w W W':World} {f:Fnt} {v:Value} {p:PWord} {v1 v2:Value} (h:WB w W f v p v1 v2) (hb:Below W.heap.size W W'):WB w W' f v p v1 v2:=
 ⟨h.B.trans (hb.mono h.B.size),h.F.below hb h.F.lt,h.X.below hb h.X.lt,h.S.below hb,h.I1.below hb,h.I2.below hb⟩
theorem WB.start {w:World} {f:Fnt} {v:Value} {p:PWord} {v1 v2:Value} (h:SoV w f.sorts v) (h1:IV w p.sorts v1) (h2:IV w p.breaks v2):WB w ((w.alloc (.cells (fcs f v) 24)).alloc (.cells #[v1,v2] 40)) f v p v1 v2:=by
 have b1:=below_new w (.cells (fcs f v) 24)
 have b2:=below_new (w.alloc (.cells (fcs f v) 24)) (.cells #[v1,v2] 40)
 have hR:=Blk.new (w.alloc (.cells (fcs f v) 24)) 40 #[v1,v2]
 rw [World.size_alloc] at hR
 exact ⟨b1.trans (b2.mono b1.size),(Blk.new w 24 _).below b2 (by simp),hR,(h.below b1).below b2,(h1.below b1).below b2,(h2.below b1).below b2⟩
theorem IV.at {W:World} {zs:List Int} {A:Option Addr} {c k:Nat} (h:IV W zs (.slice A zs.length c)) (hk:k < zs.length):∃ b off,A=some ⟨b,off,none⟩∧b < W.heap.size∧W.cell? ⟨b,off+k,none⟩=some (.int .i64 (gz zs k)):=by
 obtain ⟨A',b,off,c',he,h1,h2,-⟩:=h.open
 injection he with hA hn hc
 subst hA
 obtain ⟨rfl,hb⟩:=h1 (by omega)
 exact ⟨b,off,rfl,hb,h2 k hk⟩
theorem SoV.shape {W:World} {l:List TSort} {v:Value} (h:SoV W l v):∃ A c,v=.slice A l.length c:=by
 obtain ⟨A,b,off,c,rfl,-⟩:=h
 exact ⟨A,c,rfl⟩
theorem st_bad {f:Fnt} {l:List Int} {k:Nat} (h:win (gz l k) 0 (f.sorts.length-1)=false):stErr f l k=6:=by unfold stErr;rw [if_pos h]
theorem st_sp {f:Fnt} {l:List Int} {k:Nat} (h:win (gz l k) 0 (f.sorts.length-1)=true) (h2:spB f (gz l k)=true):stErr f l k=15:=by unfold stErr;rw [if_neg (by rw [h];decide),if_pos h2]
theorem st_ok {f:Fnt} {l:List Int} {k:Nat} (h:win (gz l k) 0 (f.sorts.length-1)=true) (h2:spB f (gz l k)=false):stErr f l k=0:=by unfold stErr;rw [if_neg (by rw [h];decide),if_neg (by rw [h2];decide)]
theorem br_bad {n:Nat} {l:List Int} {k:Nat} (h:win (gz l k) 1 (n-1)=false):brErr n l k=2:=by unfold brErr;rw [if_pos h]
theorem br_ord {n:Nat} {l:List Int} {k:Nat} (h:win (gz l k) 1 (n-1)=true) (h0:0 < k) (h1:gz l k≤gz l (k-1)):brErr n l k=9:=by unfold brErr;rw [if_neg (by rw [h];decide),if_pos ⟨h0,h1⟩]
theorem br_ok {n:Nat} {l:List Int} {k:Nat} (h:win (gz l k) 1 (n-1)=true) (h1:¬(0 < k∧gz l k≤gz l (k-1))):brErr n l k=0:=by unfold brErr;rw [if_neg (by rw [h];decide),if_neg h1]
theorem checkWord_any (f:Fnt) (v:Value) (p:PWord) (v1 v2:Value) (w:World) (hv:SoV w f.sorts v) (h1:IV w p.sorts v1) (h2:IV w p.breaks v2) (hm:f.sorts.length≤120) :
 Calls Tryz.prog 91 #[.agg (fcs f v),.agg #[v1,v2]] w fun e w'=>e=.returned (.int .i64 (wE f p))∧Below w.heap.size w w':=by
 have HT:=Lib.hid (WB.start hv h1 h2)
 obtain ⟨rv,hrv⟩:∃ r',wE f p=r':=⟨_,rfl⟩
 rw [hrv]
 have HD:Hid (rv=if p.sorts.length=0 then 10 else if 60 < p.sorts.length then 8 else if (fstE (stErr f p.sorts) p.sorts.length).2≠0 then (fstE (stErr f p.sorts) p.sorts.length).2 else (fstE (brErr p.sorts.length p.breaks) p.breaks.length).2):=hrv.symm
 obtain ⟨AS,bS,oS,cS,rfl,-,-,-,hc1⟩:=h1.open
 obtain ⟨AB,bB,oB,cB,rfl,-,-,hlB,hc2⟩:=h2.open
 obtain ⟨Av,cv,rfl⟩:=hv.shape
 clear hrv hv h1 h2 bS oS bB oB
 have g0:=HT.out.F.cell 0
 have g1:=HT.out.F.cell 1
 have g2:=HT.out.F.cell 2
 have q0:=HT.out.X.cell 0
 have q1:=HT.out.X.cell 1
 go_enter Tryz.func91,Tryz.ntmps91
 by_cases h0:p.sorts.length=0
 · have h0c:((p.sorts.length:Int) == 0)=true:=by simpa using h0
   have HL:=Lib.hid h0
   clear h0
   generalize p.sorts.length=n at *
   go_wp2_with fail
   go_ret
   exact ⟨ret_int (by rw [HD.out,if_pos HL.out]),HT.out.B⟩
 have h0c:((p.sorts.length:Int) == 0)=false:=beq_eq_false_iff_ne.2 (by omega)
 have hn0:0 < p.sorts.length:=by omega
 have HL:=Lib.hid h0
 clear h0
 by_cases h60:60 < p.sorts.length
 · have h60z:(60:Int) < (p.sorts.length:Int):=by omega
   have HL2:=Lib.hid h60
   clear h60
   go_wp2_with fail
   go_ret
   exact ⟨ret_int (by rw [HD.out,if_neg HL.out,if_pos HL2.out]),HT.out.B⟩
 have h60z:¬(60:Int) < (p.sorts.length:Int):=by omega
 have hn60:p.sorts.length≤60:=by omega
 have HD2:Hid (rv=if (fstE (stErr f p.sorts) p.sorts.length).2≠0 then (fstE (stErr f p.sorts) p.sorts.length).2 else (fstE (brErr p.sorts.length p.breaks) p.breaks.length).2):=by show _=_;rw [HD.out,if_neg HL.out,if_neg h60]
 clear h60 HD HL
 have HS1:Hid (∀ k e,k < p.sorts.length→(∀ j,j < k→stErr f p.sorts j=0)→stErr f p.sorts k=e→e≠0→rv=e):=(show ∀ k e,_ from fun k e hk hE he h0=>by
  rw [HD2.out,fstE_hit (k:=k) (by rw [he];exact h0) hE hk]
  show (if stErr f p.sorts k≠0 then stErr f p.sorts k else _)=e
  rw [he,if_pos h0])
 have HS2:Hid ((∀ j,j < p.sorts.length→stErr f p.sorts j=0)→rv=(fstE (brErr p.sorts.length p.breaks) p.breaks.length).2):=(show _→_ from fun hE=>by rw [HD2.out,fstE_none hE,if_neg (by decide)])
 clear HD2
 generalize hnn:p.sorts.length=n at *
 have HNN:=Lib.hid hnn
 generalize hmm:p.breaks.length=m at *
 have HMM:=Lib.hid hmm
 clear hnn hmm
 go_wp2_with fail
 go_loopg [22,6] n (fun gg s22 _ wr=>∃ k:Nat,k≤n∧n-k≤gg∧s22=.int .i64 k∧Hid (WB w wr f (.slice Av f.sorts.length cv) p (.slice AS n cS) (.slice AB m cB))∧Hid (∀ j,j < k→stErr f p.sorts j=0))
 case atStart=>exact ⟨0,by omega,by omega,rfl,HT.out,fun j hj=>absurd hj (Nat.not_lt_zero _)⟩
 case round=>
  obtain ⟨k,hk,hg,rfl,HK,HE⟩:=hrel
  clear HT g0 g1 g2 q0 q1
  have g0:=HK.out.F.cell 0
  have g1:=HK.out.F.cell 1
  have g2:=HK.out.F.cell 2
  have q0:=HK.out.X.cell 0
  have q1:=HK.out.X.cell 1
  have hws:=HK.out.F.lt
  have hws1:=HK.out.X.lt
  by_cases hlt:k < n
  · have hltz:(k:Int) < (n:Int):=by omega
    have hI1:=HK.out.I1
    rw [←HNN.out] at hI1
    obtain ⟨bS,oS,rfl,hbS,hz⟩:=hI1.at (k:=k) (by rw [HNN.out];exact hlt)
    clear hI1
    have ERR:Hid (∀ e,stErr f p.sorts k=e→e≠0→rv=e):=(show ∀ e,_ from fun e=>HS1.out k e hlt HE.out)
    have P6:Hid (win (gz p.sorts k) 0 (f.sorts.length-1)=false→stErr f p.sorts k=6):=st_bad
    have P15:Hid (win (gz p.sorts k) 0 (f.sorts.length-1)=true→spB f (gz p.sorts k)=true→stErr f p.sorts k=15):=st_sp
    have P0:Hid (win (gz p.sorts k) 0 (f.sorts.length-1)=true→spB f (gz p.sorts k)=false→stErr f p.sorts k=0):=st_ok
    generalize hse:stErr f p.sorts k=se at *
    have HSE:=Lib.hid hse
    clear hse
    generalize gz p.sorts k=z at *
    go_wp2_with fail
    refine (has_any f _ _ _ HK.out.S).mono ?_
    rintro e W2 ⟨rfl,hb⟩
    have H2:=Lib.hid (HK.out.step hb)
    clear hb hz g0 g1 g2 q0 q1
    have g0:=H2.out.F.cell 0
    have g1:=H2.out.F.cell 1
    have g2:=H2.out.F.cell 2
    have q0:=H2.out.X.cell 0
    have q1:=H2.out.X.cell 1
    cases hq:win z 0 (f.sorts.length-1) with
    | false=>
     have HFIN:=Lib.hid (ERR.out 6 (P6.out hq) (by decide))
     clear hq
     go_wp2_with fail
     go_ret
     exact ⟨ret_int HFIN.out.symm,H2.out.B⟩
    | true=>
     have HQ:=Lib.hid hq
     have hzr:=win_t.1 hq
     clear hq
     go_wp2_with fail
     refine (isSpaceP_any f _ _ _ H2.out.S (by omega) (by omega)).mono ?_
     rintro e W3 ⟨rfl,hb⟩
     have H3:=Lib.hid (H2.out.step hb)
     clear hb g0 g1 g2 q0 q1
     have g0:=H3.out.F.cell 0
     have g1:=H3.out.F.cell 1
     have g2:=H3.out.F.cell 2
     have q0:=H3.out.X.cell 0
     have q1:=H3.out.X.cell 1
     cases hq2:spB f z with
     | true=>
      have HFIN:=Lib.hid (ERR.out 15 (P15.out HQ.out hq2) (by decide))
      clear hq2
      go_wp2_with fail
      go_ret
      exact ⟨ret_int HFIN.out.symm,H3.out.B⟩
     | false=>
      have HST:=Lib.hid (P0.out HQ.out hq2)
      clear hq2
      go_wp2_with fail
      go_roundg (n-(k+1))
      case measure=>omega
      case rel=>
       refine ⟨k+1,by omega,by omega,by go_num,H3.out,(show ∀ j,_ from fun j hj=>?_)⟩
       by_cases e:j=k
       · rw [e,HSE.out];exact HST.out
       · exact HE.out j (by omega)
  · have hltz:¬(k:Int) < (n:Int):=by omega
    have hke:k=n:=by omega
    have HF2:=Lib.hid (HS2.out (fun j hj=>HE.out j (by omega)))
    clear hke hlt HE HS1 HS2
    go_wp2_with fail
    go_loopg [39,7,8] m (fun gg s39 _ _ wr=>∃ k2:Nat,k2≤m∧m-k2≤gg∧s39=.int .i64 k2∧Hid (WB w wr f (.slice Av f.sorts.length cv) p (.slice AS n cS) (.slice AB m cB))∧Hid (∀ j,j < k2→brErr n p.breaks j=0))
    case atStart=>exact ⟨0,by omega,by omega,rfl,HK.out,fun j hj=>absurd hj (Nat.not_lt_zero _)⟩
    case round=>
     obtain ⟨k2,hk2,hg2,rfl,HK2,HE2⟩:=hrel
     clear HK g0 g1 g2 q0 q1 hws hws1
     have g0:=HK2.out.F.cell 0
     have g1:=HK2.out.F.cell 1
     have g2:=HK2.out.F.cell 2
     have q0:=HK2.out.X.cell 0
     have q1:=HK2.out.X.cell 1
     have hws:=HK2.out.F.lt
     have hws1:=HK2.out.X.lt
     by_cases hlt:k2 < m
     · have hltz:(k2:Int) < (m:Int):=by omega
       have hI2:=HK2.out.I2
       rw [←HMM.out] at hI2
       obtain ⟨bB,oB,rfl,hbB,hz⟩:=hI2.at (k:=k2) (by rw [HMM.out];exact hlt)
       have hpv:Hid (0 < k2→wr.cell? ⟨bB,oB+(k2-1),none⟩=some (.int .i64 (gz p.breaks (k2-1)))):=(show _→_ from fun h0=>by
        obtain ⟨b',o',he,-,hzp⟩:=hI2.at (k:=k2-1) (by rw [HMM.out];omega)
        injection he with he
        injection he with hb ho
        subst hb
        subst ho
        exact hzp)
       clear hI2
       have ERR:Hid (∀ e,brErr n p.breaks k2=e→e≠0→rv=e):=(show ∀ e,_ from fun e he h0=>by rw [HF2.out,fstE_hit (k:=k2) (by rw [he];exact h0) HE2.out hlt];exact he)
       have P2:Hid (win (gz p.breaks k2) 1 (n-1)=false→brErr n p.breaks k2=2):=br_bad
       have P9:Hid (win (gz p.breaks k2) 1 (n-1)=true→0 < k2→gz p.breaks k2≤gz p.breaks (k2-1)→brErr n p.breaks k2=9):=br_ord
       have P0:Hid (win (gz p.breaks k2) 1 (n-1)=true→¬(0 < k2∧gz p.breaks k2≤gz p.breaks (k2-1))→brErr n p.breaks k2=0):=br_ok
       generalize hse:brErr n p.breaks k2=se at *
       have HSE:=Lib.hid hse
       clear hse
       generalize gz p.breaks k2=z at *
       generalize gz p.breaks (k2-1)=pv at *
       go_wp2_with fail
       refine (within44_any _ _ _ _).mono ?_
       rintro e w' ⟨rfl,rfl⟩
       cases hq:win z 1 (n-1) with
       | false=>
        have HFIN:=Lib.hid (ERR.out 2 (P2.out hq) (by decide))
        clear hq
        go_wp2_with fail
        go_ret
        exact ⟨ret_int HFIN.out.symm,HK2.out.B⟩
       | true=>
        have HQ:=Lib.hid hq
        clear hq
        by_cases hk0:0 < k2
        · have hkz:(0:Int) < (k2:Int):=by omega
          have qp:=hpv.out hk0
          have i1:(0:Int)≤(k2:Int)-1:=by omega
          have i1':(1:Int)≤(k2:Int):=by omega
          have i2:(k2:Int)-1 < (m:Int):=by omega
          have i3:((k2:Int)-1).toNat=k2-1:=by omega
          have i4:IntKind.i64.wrap ((k2:Int)-1)=(k2:Int)-1:=IntWalk.i64_in _ (by omega)
          clear hpv
          by_cases hle:z≤pv
          · have HFIN:=Lib.hid (ERR.out 9 (P9.out HQ.out hk0 hle) (by decide))
            go_wp2_with fail
            go_ret
            exact ⟨ret_int HFIN.out.symm,HK2.out.B⟩
          · have HST:=Lib.hid (P0.out HQ.out (fun h=>hle h.2))
            go_wp2_with fail
            go_roundg (m-(k2+1))
            case measure=>omega
            case rel=>
             refine ⟨k2+1,by omega,by omega,by go_num,HK2.out,(show ∀ j,_ from fun j hj=>?_)⟩
             by_cases e:j=k2
             · rw [e,HSE.out];exact HST.out
             · exact HE2.out j (by omega)
        · have hkz:decide ((0:Int) < (k2:Int))=false:=by simp;omega
          have hkz2:¬(0:Int) < (k2:Int):=by omega
          have HST:=Lib.hid (P0.out HQ.out (fun h=>hk0 h.1))
          clear hpv
          go_wp2_with fail
          go_roundg (m-(k2+1))
          case measure=>omega
          case rel=>
           refine ⟨k2+1,by omega,by omega,by first | go_num | (congr 1;omega),HK2.out,(show ∀ j,_ from fun j hj=>?_)⟩
           by_cases e:j=k2
           · rw [e,HSE.out];exact HST.out
           · exact HE2.out j (by omega)
     · have hltz:¬(k2:Int) < (m:Int):=by omega
       have hke:k2=m:=by omega
       have HFIN:Hid (rv=0):=by show _=_;rw [HF2.out,fstE_none (fun j hj=>HE2.out j (by omega))]
       clear hke hlt
       go_wp2_with fail
       go_ret
       exact ⟨ret_int HFIN.out.symm,HK2.out.B⟩
theorem refWord_any (f:Fnt) (v:Value) (p:PWord) (v1 v2:Value) (w:World) (hv:SoV w f.sorts v) (h1:IV w p.sorts v1) (h2:IV w p.breaks v2) (hm:f.sorts.length≤120) :
 Calls Tryz.prog 93 #[.agg (fcs f v),.agg #[v1,v2]] w fun e w'=>e=.returned (.int .i64 (wE f p))∧Below w.heap.size w w':=by
 have HT:=Lib.hid (WB.start hv h1 h2)
 obtain ⟨rv,hrv⟩:∃ r',wE f p=r':=⟨_,rfl⟩
 rw [hrv]
 have HD:Hid (rv=if p.sorts.length=0 then 10 else if 60 < p.sorts.length then 8 else if (fstE (stErr f p.sorts) p.sorts.length).2≠0 then (fstE (stErr f p.sorts) p.sorts.length).2 else (fstE (brErr p.sorts.length p.breaks) p.breaks.length).2):=hrv.symm
 obtain ⟨AS,bS,oS,cS,rfl,-,-,-,hc1⟩:=h1.open
 obtain ⟨AB,bB,oB,cB,rfl,-,-,hlB,hc2⟩:=h2.open
 obtain ⟨Av,cv,rfl⟩:=hv.shape
 clear hrv hv h1 h2 bS oS bB oB
 have g0:=HT.out.F.cell 0
 have g1:=HT.out.F.cell 1
 have g2:=HT.out.F.cell 2
 have q0:=HT.out.X.cell 0
 have q1:=HT.out.X.cell 1
 go_enter Tryz.func93,Tryz.ntmps93
 by_cases h0:p.sorts.length=0
 · have h0c:((p.sorts.length:Int) == 0)=true:=by simpa using h0
   have HL:=Lib.hid h0
   clear h0
   generalize p.sorts.length=n at *
   go_wp2_with fail
   go_ret
   exact ⟨ret_int (by rw [HD.out,if_pos HL.out]),HT.out.B⟩
 have h0c:((p.sorts.length:Int) == 0)=false:=beq_eq_false_iff_ne.2 (by omega)
 have hn0:0 < p.sorts.length:=by omega
 have HL:=Lib.hid h0
 clear h0
 by_cases h60:60 < p.sorts.length
 · have h60z:(60:Int) < (p.sorts.length:Int):=by omega
   have HL2:=Lib.hid h60
   clear h60
   go_wp2_with fail
   go_ret
   exact ⟨ret_int (by rw [HD.out,if_neg HL.out,if_pos HL2.out]),HT.out.B⟩
 have h60z:¬(60:Int) < (p.sorts.length:Int):=by omega
 have hn60:p.sorts.length≤60:=by omega
 have HD2:Hid (rv=if (fstE (stErr f p.sorts) p.sorts.length).2≠0 then (fstE (stErr f p.sorts) p.sorts.length).2 else (fstE (brErr p.sorts.length p.breaks) p.breaks.length).2):=by show _=_;rw [HD.out,if_neg HL.out,if_neg h60]
 clear h60 HD HL
 have HS1:Hid (∀ k e,k < p.sorts.length→(∀ j,j < k→stErr f p.sorts j=0)→stErr f p.sorts k=e→e≠0→rv=e):=(show ∀ k e,_ from fun k e hk hE he h0=>by
  rw [HD2.out,fstE_hit (k:=k) (by rw [he];exact h0) hE hk]
  show (if stErr f p.sorts k≠0 then stErr f p.sorts k else _)=e
  rw [he,if_pos h0])
 have HS2:Hid ((∀ j,j < p.sorts.length→stErr f p.sorts j=0)→rv=(fstE (brErr p.sorts.length p.breaks) p.breaks.length).2):=(show _→_ from fun hE=>by rw [HD2.out,fstE_none hE,if_neg (by decide)])
 clear HD2
 generalize hnn:p.sorts.length=n at *
 have HNN:=Lib.hid hnn
 generalize hmm:p.breaks.length=m at *
 have HMM:=Lib.hid hmm
 clear hnn hmm
 go_wp2_with fail
 go_loopg [5] n (fun gg s5 wr=>∃ k:Nat,k≤n∧n-k≤gg∧s5=.int .i64 k∧Hid (WB w wr f (.slice Av f.sorts.length cv) p (.slice AS n cS) (.slice AB m cB))∧Hid (∀ j,j < k→stErr f p.sorts j=0))
 case atStart=>exact ⟨0,by omega,by omega,rfl,HT.out,fun j hj=>absurd hj (Nat.not_lt_zero _)⟩
 case round=>
  obtain ⟨k,hk,hg,rfl,HK,HE⟩:=hrel
  clear HT g0 g1 g2 q0 q1
  have g0:=HK.out.F.cell 0
  have g1:=HK.out.F.cell 1
  have g2:=HK.out.F.cell 2
  have q0:=HK.out.X.cell 0
  have q1:=HK.out.X.cell 1
  have hws:=HK.out.F.lt
  have hws1:=HK.out.X.lt
  by_cases hlt:k < n
  · have hltz:(k:Int) < (n:Int):=by omega
    have hI1:=HK.out.I1
    rw [←HNN.out] at hI1
    obtain ⟨bS,oS,rfl,hbS,hz⟩:=hI1.at (k:=k) (by rw [HNN.out];exact hlt)
    clear hI1
    have ERR:Hid (∀ e,stErr f p.sorts k=e→e≠0→rv=e):=(show ∀ e,_ from fun e=>HS1.out k e hlt HE.out)
    have P6:Hid (win (gz p.sorts k) 0 (f.sorts.length-1)=false→stErr f p.sorts k=6):=st_bad
    have P15:Hid (win (gz p.sorts k) 0 (f.sorts.length-1)=true→spB f (gz p.sorts k)=true→stErr f p.sorts k=15):=st_sp
    have P0:Hid (win (gz p.sorts k) 0 (f.sorts.length-1)=true→spB f (gz p.sorts k)=false→stErr f p.sorts k=0):=st_ok
    generalize hse:stErr f p.sorts k=se at *
    have HSE:=Lib.hid hse
    clear hse
    generalize gz p.sorts k=z at *
    have HWI:Hid (∀ W,Calls Tryz.prog 19 #[.int .i64 z,.int .i64 0,.int .i64 ((f.sorts.length:Int)-1)] W fun e w'=>e=.returned (.bool (win z 0 (f.sorts.length-1)))∧w'=W):=(show ∀ W,_ from fun W=>(within13_any _ _ _ W).mono fun _ _ ⟨h1,h2⟩=>⟨h1,h2.symm⟩)
    have i4:IntKind.i64.wrap ((f.sorts.length:Int)-1)=(f.sorts.length:Int)-1:=IntWalk.i64_in _ (by omega)
    go_wp2_with fail
    go_quiet ((go_at_call 19;exact Calls.quiet_of_same (HWI.out _)))
    clear HWI i4
    have hzz:=((below_drewN wr nq).cell (p:=⟨bS,oS+k,none⟩) hbS).trans hz
    have hbS2:bS < (wr.drewN nq).heap.size:=Nat.lt_of_lt_of_le hbS (below_drewN wr nq).size
    have H2:=Lib.hid (HK.out.step (below_drewN wr nq))
    clear hz g0 g1 g2 q0 q1
    generalize wr.drewN nq=W2 at *
    have g0:=H2.out.F.cell 0
    have g1:=H2.out.F.cell 1
    have g2:=H2.out.F.cell 2
    have q0:=H2.out.X.cell 0
    have q1:=H2.out.X.cell 1
    cases hq:win z 0 (f.sorts.length-1) with
    | false=>
     have HFIN:=Lib.hid (ERR.out 6 (P6.out hq) (by decide))
     clear hq
     go_wp2_with fail
     go_ret
     exact ⟨ret_int HFIN.out.symm,H2.out.B⟩
    | true=>
     have HQ:=Lib.hid hq
     have hzr:=win_t.1 hq
     clear hq
     have HIS:Hid (∀ W,SoV W f.sorts (.slice Av f.sorts.length cv)→Calls Tryz.prog 77 #[.agg (fcs f (.slice Av f.sorts.length cv)),.int .i64 z] W fun e w'=>e=.returned (.bool (spB f z))∧Below W.heap.size W w'):=(show ∀ W,_ from fun W hW=>isSpaceR_any f _ z W hW (by omega) (by omega))
     have HS0:=Lib.hid H2.out.S
     generalize hsp:spB f z=sp at *
     have HSP:=Lib.hid hsp
     clear hsp
     go_upto_region 10 with (fail)
     have xg0:=cell_regrown g0
     have xg1:=cell_regrown g1
     have xg2:=cell_regrown g2
     have xq0:=cell_regrown q0
     have xz:=cell_regrown hzz
     have cN:∀ d os,Calls Tryz.prog 77 #[.agg #[.string f.name,.int .i64 f.body,.slice Av f.sorts.length cv],.int .i64 z] (grow (redrawn W2 d) os) fun e w''=>e=.returned (.bool sp)∧∃ p:Regrown,w''=grow (redrawn W2 p.d) p.os:=fun d os=>Calls.regrown_of (HIS.out (grow (redrawn W2 d) os) (HS0.out.below (below_regrown W2 d os)))
     refine wp_region_quiet_below (by kernel_rfl) (by kernel_rfl) ?_
     repeat (first | go_big_quiet_step (exact cN _ _) | quiet_step (exact cN _ _))
     refine wpQuiet_nil ?_
     intro _ hw'
     obtain ⟨⟨dq,osq⟩,hw''⟩:=hw'
     subst hw''
     have b3:=below_regrown W2 dq osq
     have H3:=Lib.hid (H2.out.step b3)
     clear xg0 xg1 xg2 xq0 xz cN b3 hzz g0 g1 g2 q0 q1
     generalize grow (redrawn W2 dq) osq=W3 at *
     have g0:=H3.out.F.cell 0
     have g1:=H3.out.F.cell 1
     have g2:=H3.out.F.cell 2
     have q0:=H3.out.X.cell 0
     have q1:=H3.out.X.cell 1
     cases sp with
     | true=>
      have HFIN:=Lib.hid (ERR.out 15 (P15.out HQ.out (by first | rfl | trivial)) (by decide))
      go_wp2_with fail
      go_ret
      exact ⟨ret_int HFIN.out.symm,H3.out.B⟩
     | false=>
      have HST:=Lib.hid (P0.out HQ.out (by first | rfl | trivial))
      go_wp2_with fail
      go_roundg (n-(k+1))
      case measure=>omega
      case rel=>
       refine ⟨k+1,by omega,by omega,by go_num,H3.out,(show ∀ j,_ from fun j hj=>?_)⟩
       by_cases e:j=k
       · rw [e,HSE.out];exact HST.out
       · exact HE.out j (by omega)
  · have hltz:¬(k:Int) < (n:Int):=by omega
    have hke:k=n:=by omega
    have HF2:=Lib.hid (HS2.out (fun j hj=>HE.out j (by omega)))
    clear hke hlt HE HS1 HS2
    go_wp2_with fail
    go_loopg [6] m (fun gg s6 wr=>∃ k2:Nat,k2≤m∧m-k2≤gg∧s6=.int .i64 k2∧Hid (WB w wr f (.slice Av f.sorts.length cv) p (.slice AS n cS) (.slice AB m cB))∧Hid (∀ j,j < k2→brErr n p.breaks j=0))
    case atStart=>exact ⟨0,by omega,by omega,rfl,HK.out,fun j hj=>absurd hj (Nat.not_lt_zero _)⟩
    case round=>
     obtain ⟨k2,hk2,hg2,rfl,HK2,HE2⟩:=hrel
     clear HK g0 g1 g2 q0 q1 hws hws1
     have g0:=HK2.out.F.cell 0
     have g1:=HK2.out.F.cell 1
     have g2:=HK2.out.F.cell 2
     have q0:=HK2.out.X.cell 0
     have q1:=HK2.out.X.cell 1
     have hws:=HK2.out.F.lt
     have hws1:=HK2.out.X.lt
     by_cases hlt:k2 < m
     · have hltz:(k2:Int) < (m:Int):=by omega
       have hI2:=HK2.out.I2
       rw [←HMM.out] at hI2
       obtain ⟨bB,oB,rfl,hbB,hz⟩:=hI2.at (k:=k2) (by rw [HMM.out];exact hlt)
       have hpv:Hid (0 < k2→wr.cell? ⟨bB,oB+(k2-1),none⟩=some (.int .i64 (gz p.breaks (k2-1)))):=(show _→_ from fun h0=>by
        obtain ⟨b',o',he,-,hzp⟩:=hI2.at (k:=k2-1) (by rw [HMM.out];omega)
        injection he with he
        injection he with hb ho
        subst hb
        subst ho
        exact hzp)
       clear hI2
       have ERR:Hid (∀ e,brErr n p.breaks k2=e→e≠0→rv=e):=(show ∀ e,_ from fun e he h0=>by rw [HF2.out,fstE_hit (k:=k2) (by rw [he];exact h0) HE2.out hlt];exact he)
       have P2:Hid (win (gz p.breaks k2) 1 (n-1)=false→brErr n p.breaks k2=2):=br_bad
       have P9:Hid (win (gz p.breaks k2) 1 (n-1)=true→0 < k2→gz p.breaks k2≤gz p.breaks (k2-1)→brErr n p.breaks k2=9):=br_ord
       have P0:Hid (win (gz p.breaks k2) 1 (n-1)=true→¬(0 < k2∧gz p.breaks k2≤gz p.breaks (k2-1))→brErr n p.breaks k2=0):=br_ok
       generalize hse:brErr n p.breaks k2=se at *
       have HSE:=Lib.hid hse
       clear hse
       generalize gz p.breaks k2=z at *
       generalize gz p.breaks (k2-1)=pv at *
       have HWI:Hid (∀ W,Calls Tryz.prog 19 #[.int .i64 z,.int .i64 1,.int .i64 ((n:Int)-1)] W fun e w'=>e=.returned (.bool (win z 1 (n-1)))∧w'=W):=(show ∀ W,_ from fun W=>(within13_any _ _ _ W).mono fun _ _ ⟨h1,h2⟩=>⟨h1,h2.symm⟩)
       have i4:IntKind.i64.wrap ((n:Int)-1)=(n:Int)-1:=IntWalk.i64_in _ (by omega)
       go_wp2_with fail
       go_quiet ((go_at_call 19;exact Calls.quiet_of_same (HWI.out _)))
       clear HWI i4
       have H2:=Lib.hid (HK2.out.step (below_drewN wr nq))
       have hzz:=((below_drewN wr nq).cell (p:=⟨bB,oB+k2,none⟩) hbB).trans hz
       have hpv2:Hid (0 < k2→(wr.drewN nq).cell? ⟨bB,oB+(k2-1),none⟩=some (.int .i64 pv)):=(show _→_ from fun h0=>((below_drewN wr nq).cell (p:=⟨bB,oB+(k2-1),none⟩) hbB).trans (hpv.out h0))
       have hbB2:bB < (wr.drewN nq).heap.size:=Nat.lt_of_lt_of_le hbB (below_drewN wr nq).size
       clear hz hpv HK2 g0 g1 g2 q0 q1
       generalize wr.drewN nq=W2 at *
       have HK2:=H2
       have hz:=hzz
       have hpv:=hpv2
       clear H2 hzz hpv2
       have g0:=HK2.out.F.cell 0
       have g1:=HK2.out.F.cell 1
       have g2:=HK2.out.F.cell 2
       have q0:=HK2.out.X.cell 0
       have q1:=HK2.out.X.cell 1
       cases hq:win z 1 (n-1) with
       | false=>
        have HFIN:=Lib.hid (ERR.out 2 (P2.out hq) (by decide))
        clear hq
        go_wp2_with fail
        go_ret
        exact ⟨ret_int HFIN.out.symm,HK2.out.B⟩
       | true=>
        have HQ:=Lib.hid hq
        clear hq
        by_cases hk0:0 < k2
        · have hkz:(0:Int) < (k2:Int):=by omega
          have qp:=hpv.out hk0
          have i1:(0:Int)≤(k2:Int)-1:=by omega
          have i1':(1:Int)≤(k2:Int):=by omega
          have i2:(k2:Int)-1 < (m:Int):=by omega
          have i3:((k2:Int)-1).toNat=k2-1:=by omega
          have i4:IntKind.i64.wrap ((k2:Int)-1)=(k2:Int)-1:=IntWalk.i64_in _ (by omega)
          clear hpv
          by_cases hle:z≤pv
          · have HFIN:=Lib.hid (ERR.out 9 (P9.out HQ.out hk0 hle) (by decide))
            go_wp2_with fail
            go_quiet (fail)
            go_wp2_with fail
            go_ret
            exact ⟨ret_int HFIN.out.symm,HK2.out.B.trans ((below_drewN _ _).mono HK2.out.B.size)⟩
          · have HST:=Lib.hid (P0.out HQ.out (fun h=>hle h.2))
            go_wp2_with fail
            go_quiet (fail)
            go_wp2_with fail
            go_roundg (m-(k2+1))
            case measure=>omega
            case rel=>
             refine ⟨k2+1,by omega,by omega,by go_num,(HK2.out.step (below_drewN _ _)),(show ∀ j,_ from fun j hj=>?_)⟩
             by_cases e:j=k2
             · rw [e,HSE.out];exact HST.out
             · exact HE2.out j (by omega)
        · have hkz:decide ((0:Int) < (k2:Int))=false:=by simp;omega
          have hkz2:¬(0:Int) < (k2:Int):=by omega
          have HST:=Lib.hid (P0.out HQ.out (fun h=>hk0 h.1))
          clear hpv
          go_wp2_with fail
          go_quiet (fail)
          go_wp2_with fail
          go_roundg (m-(k2+1))
          case measure=>omega
          case rel=>
           refine ⟨k2+1,by omega,by omega,by first | go_num | (congr 1;omega),(HK2.out.step (below_drewN _ _)),(show ∀ j,_ from fun j hj=>?_)⟩
           by_cases e:j=k2
           · rw [e,HSE.out];exact HST.out
           · exact HE2.out j (by omega)
     · have hltz:¬(k2:Int) < (m:Int):=by omega
       have hke:k2=m:=by omega
       have HFIN:Hid (rv=0):=by show _=_;rw [HF2.out,fstE_none (fun j hj=>HE2.out j (by omega))]
       clear hke hlt
       go_wp2_with fail
       go_ret
       exact ⟨ret_int HFIN.out.symm,HK2.out.B⟩
end Go.Proofs.YtbnganlfelgogaaGreat
