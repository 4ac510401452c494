/- CheckWords: the error of words, of the program and of the document's answer; Err; open. -/
import Derived.Test.YtbnganlfelgogaaGreatVPlc
set_option linter.unusedSimpArgs false
set_option linter.unusedVariables false
set_option maxRecDepth 100000
set_option maxHeartbeats 40000000
namespace Go.Proofs.YtbnganlfelgogaaGreat
open Go.RowKit Go.Sort
structure VB (w W:World) (f:Fnt) (v:Value) (ws:List PWord) (vw:Value):Prop where
 B:Below w.heap.size w W
 F:Blk W w.heap.size 24 (fcs f v)
 S:SoV W f.sorts v
 V:WoV W ws vw
theorem VB.step {w W W':World} {f:Fnt} {v:Value} {ws:List PWord} {vw:Value} (h:VB w W f v ws vw) (hb:Below W.heap.size W W'):VB w W' f v ws vw:=⟨h.B.trans (hb.mono h.B.size),h.F.below hb h.F.lt,h.S.below hb,h.V.below hb⟩
theorem VB.start {w:World} {f:Fnt} {v:Value} {ws:List PWord} {vw:Value} (h:SoV w f.sorts v) (h2:WoV w ws vw):VB w (w.alloc (.cells (fcs f v) 24)) f v ws vw:=⟨below_new _ _,Blk.new _ _ _,h.below (below_new _ _),h2.below (below_new _ _)⟩
theorem wsOk_of {f:Fnt} {ws:List PWord} (h:∀ j,j < ws.length→wErr f ws j=0):WsOk f.sorts.length ws:=fun i hi=>(wErr_ok (h i hi)).1
theorem checkWords_any (f:Fnt) (v:Value) (ws:List PWord) (vw:Value) (w:World) (hv:SoV w f.sorts v) (hn:f.name.size≤9223372036854775807) (hw:WoV w ws vw) :
 Calls Tryz.prog 24 #[.agg (fcs f v),vw] w (ErPost (wsErr f ws) w):=by
 have HD:Hid (wsErr f ws=if (fnErr f).2≠0 then (0,(fnErr f).2) else if 200 < ws.length then (0,8) else if (fstE (wErr f ws) ws.length).2≠0 then fstE (wErr f ws) ws.length else if 300 < (places ws).length then (0,8) else (0,0)):=rfl
 generalize wsErr f ws=er at *
 have HP:Hid (∀ W x y,er=(x,y)→Below w.heap.size w W→ErPost er w (.returned (.tuple #[.int .i64 x,.int .i64 y])) W):=(show ∀ W x y,_ from fun W x y h hb=>erPost_of h hb)
 have HT:=Lib.hid (VB.start hv hw)
 have HN:=Lib.hid (fun W hW=>founted_any f v W hW hn)
 obtain ⟨A,c,rfl,hwm⟩:=hw.shape
 clear hv hn hw
 have g0:=HT.out.F.cell 0
 have g1:=HT.out.F.cell 1
 have g2:=HT.out.F.cell 2
 go_enter Tryz.func24,Tryz.ntmps24
 go_wp2_with fail
 generalize w.alloc (.cells (fcs f v) 24)=W0 at *
 refine (HN.out _ HT.out.S).mono ?_
 rintro e W1 ⟨rfl,hb⟩
 have H1:=Lib.hid (HT.out.step hb)
 clear hb HT HN g0 g1 g2
 have g0:=H1.out.F.cell 0
 have g1:=H1.out.F.cell 1
 have g2:=H1.out.F.cell 2
 obtain ⟨ev,hev⟩:∃ x,(fnErr f).2=x:=⟨_,rfl⟩
 rw [hev]
 have HEV:=Lib.hid hev
 clear hev
 by_cases he:ev=0
 rotate_left
 · have heb:=bne_t he
   have HFIN:Hid (er=(0,ev)):=by show _=_;rw [HD.out,HEV.out,if_pos he]
   clear he
   go_wp2_with fail
   go_ret2
   exact HP.out _ _ _ HFIN.out H1.out.B
 have heb:=bne_f he
 have HF0:=Lib.hid (HEV.out.trans he)
 have hfw:=fnErr_few HF0.out
 have HD2:Hid (er=if 200 < ws.length then (0,8) else if (fstE (wErr f ws) ws.length).2≠0 then fstE (wErr f ws) ws.length else if 300 < (places ws).length then (0,8) else (0,0)):=by show _=_;rw [HD.out,if_neg (fun h=>h HF0.out)]
 clear he HEV HD
 by_cases h200:200 < ws.length
 · have h200z:(200:Int) < (ws.length:Int):=by omega
   have HFIN:Hid (er=(0,8)):=by show _=_;rw [HD2.out,if_pos h200]
   clear h200
   go_wp2_with fail
   go_ret2
   exact HP.out _ _ _ HFIN.out H1.out.B
 have h200z:¬(200:Int) < (ws.length:Int):=by omega
 have hn200:ws.length≤200:=by omega
 have HD3:Hid (er=if (fstE (wErr f ws) ws.length).2≠0 then fstE (wErr f ws) ws.length else if 300 < (places ws).length then (0,8) else (0,0)):=by show _=_;rw [HD2.out,if_neg h200]
 clear h200 HD2
 generalize hnn:ws.length=n at *
 have HNN:=Lib.hid hnn
 clear hnn
 go_wp2_with fail
 go_loopg [20,7,8,9] n (fun gg s20 _ _ _ wr=>∃ k:Nat,k≤n∧n-k≤gg∧s20=.int .i64 k∧Hid (VB w wr f v ws (.slice A n c))∧Hid (∀ j,j < k→wErr f ws j=0))
 case atStart=>exact ⟨0,by omega,by omega,rfl,H1.out,fun j hj=>absurd hj (Nat.not_lt_zero _)⟩
 case round=>
  obtain ⟨k,hk,hg,rfl,HK,HE⟩:=hrel
  clear H1 g0 g1 g2
  have g0:=HK.out.F.cell 0
  have g1:=HK.out.F.cell 1
  have g2:=HK.out.F.cell 2
  have hwr:=HK.out.F.lt
  by_cases hlt:k < n
  · have hltz:(k:Int) < (n:Int):=by omega
    have hV:=HK.out.V
    rw [←HNN.out] at hV
    obtain ⟨b,off,A1,c1,A2,c2,rfl,hbw,z0,z1,I1,I2,-,-,-,-⟩:=hV.at (k:=k) (by rw [HNN.out];exact hlt)
    have HI1:=Lib.hid I1
    have HI2:=Lib.hid I2
    have ERR:Hid (∀ e,wErr f ws k=e→e≠0→er=((k:Int),e)):=(show ∀ e,_ from fun e he h0=>by rw [HD3.out,fstE_hit (k:=k) (by rw [he];exact h0) HE.out hlt,if_pos (by rw [he];exact h0),he])
    have HWD:Hid (∀ W,SoV W f.sorts v→IV W (gw ws k).sorts (.slice A1 (gw ws k).sorts.length c1)→IV W (gw ws k).breaks (.slice A2 (gw ws k).breaks.length c2)→Calls Tryz.prog 91 #[.agg (fcs f v),.agg #[.slice A1 (gw ws k).sorts.length c1,.slice A2 (gw ws k).breaks.length c2]] W fun e w'=>e=.returned (.int .i64 (wErr f ws k))∧Below W.heap.size W w'):=(show ∀ W,_ from fun W a b d=>checkWord_any f v (gw ws k) _ _ W a b d hfw.2)
    clear hV I1 I2
    generalize hse:wErr f ws k=se at *
    have HSE:=Lib.hid hse
    clear hse
    generalize (gw ws k).sorts.length=sl at *
    generalize (gw ws k).breaks.length=bl at *
    have hbx:=below_new wr (.cells #[.slice A1 sl c1,.slice A2 bl c2] 40)
    have HX:=Lib.hid (HK.out.step hbx)
    have hB:=Blk.new wr 40 #[.slice A1 sl c1,.slice A2 bl c2]
    have x0:=hB.cell 0
    have x1:=hB.cell 1
    have HJ1:=Lib.hid (HI1.out.below hbx)
    have HJ2:=Lib.hid (HI2.out.below hbx)
    clear hbx hB
    go_wp2_with fail
    refine (HWD.out _ HX.out.S HJ1.out HJ2.out).mono ?_
    rintro e W3 ⟨rfl,hb⟩
    have H3:=Lib.hid (HX.out.step hb)
    clear hb HX HK HWD HJ1 HJ2 x0 x1 z0 z1 g0 g1 g2
    have g0:=H3.out.F.cell 0
    have g1:=H3.out.F.cell 1
    have g2:=H3.out.F.cell 2
    by_cases he:se=0
    · have heb:=bne_f he
      have HZ:=Lib.hid he
      clear he
      go_wp2_with fail
      go_roundg (n-(k+1))
      case measure=>omega
      case rel=>
       refine ⟨k+1,by omega,by omega,by go_num,H3.out,(show ∀ j,_ from fun j hj=>?_)⟩
       by_cases e:j=k
       · rw [e,HSE.out];exact HZ.out
       · exact HE.out j (by omega)
    · have heb:=bne_t he
      have HFIN:=Lib.hid (ERR.out se (by first | rfl | exact HSE.out) he)
      clear he
      go_wp2_with fail
      go_ret2
      exact HP.out _ _ _ HFIN.out H3.out.B
  · have hltz:¬(k:Int) < (n:Int):=by omega
    have hke:k=n:=by omega
    have HWO:=Lib.hid (wsOk_of (f:=f) (ws:=ws) (fun j hj=>HE.out j (by rw [HNN.out] at hj;omega)))
    have HD4:Hid (er=if 300 < (places ws).length then (0,8) else (0,0)):=by show _=_;rw [HD3.out,fstE_none (fun j hj=>HE.out j (by omega)),if_neg (by decide)]
    have HPL:=Lib.hid (placesOf_any f.sorts.length ws (.slice A n c) wr HK.out.V HWO.out (by rw [HNN.out];omega))
    clear hke hlt HE
    go_wp2_with fail
    refine HPL.out.mono ?_
    rintro e W4 ⟨vp,rfl,hpv,hb,-⟩
    have H4:=Lib.hid (HK.out.step hb)
    obtain ⟨Ap,cp,rfl,-,-⟩:=hpv.shape
    have hpl2:(places ws).length≤20000:=by
     have:=plTo_len HWO.out (Nat.le_refl ws.length)
     rw [HNN.out] at this
     rw [places_len,HNN.out]
     omega
    clear hb hpv HPL HK g0 g1 g2
    generalize (places ws).length=pn at *
    by_cases h300:300 < pn
    · have h300z:(300:Int) < (pn:Int):=by omega
      have HFIN:Hid (er=(0,8)):=by show _=_;rw [HD4.out,if_pos h300]
      clear h300
      go_wp2_with fail
      go_ret2
      exact HP.out _ _ _ HFIN.out H4.out.B
    · have h300z:¬(300:Int) < (pn:Int):=by omega
      have HFIN:Hid (er=(0,0)):=by show _=_;rw [HD4.out,if_neg h300]
      clear h300
      go_wp2_with fail
      go_ret2
      exact HP.out _ _ _ HFIN.out H4.out.B
theorem refWords_any (f:Fnt) (v:Value) (ws:List PWord) (vw:Value) (w:World) (hv:SoV w f.sorts v) (hn:f.name.size≤9223372036854775807) (hw:WoV w ws vw) :
 Calls Tryz.prog 27 #[.agg (fcs f v),vw] w (ErPost (wsErr f ws) w):=by
 have HD:Hid (wsErr f ws=if (fnErr f).2≠0 then (0,(fnErr f).2) else if 200 < ws.length then (0,8) else if (fstE (wErr f ws) ws.length).2≠0 then fstE (wErr f ws) ws.length else if 300 < (places ws).length then (0,8) else (0,0)):=rfl
 generalize wsErr f ws=er at *
 have HP:Hid (∀ W x y,er=(x,y)→Below w.heap.size w W→ErPost er w (.returned (.tuple #[.int .i64 x,.int .i64 y])) W):=(show ∀ W x y,_ from fun W x y h hb=>erPost_of h hb)
 have HT:=Lib.hid (VB.start hv hw)
 have HN:=Lib.hid (fun W hW=>refErr_any f v W hW hn)
 obtain ⟨A,c,rfl,hwm⟩:=hw.shape
 clear hv hn hw
 have g0:=HT.out.F.cell 0
 have g1:=HT.out.F.cell 1
 have g2:=HT.out.F.cell 2
 go_enter Tryz.func27,Tryz.ntmps27
 go_wp2_with fail
 generalize w.alloc (.cells (fcs f v) 24)=W0 at *
 refine (HN.out _ HT.out.S).mono ?_
 rintro e W1 ⟨rfl,hb⟩
 have H1:=Lib.hid (HT.out.step hb)
 clear hb HT HN g0 g1 g2
 have g0:=H1.out.F.cell 0
 have g1:=H1.out.F.cell 1
 have g2:=H1.out.F.cell 2
 obtain ⟨ev,hev⟩:∃ x,(fnErr f).2=x:=⟨_,rfl⟩
 rw [hev]
 have HEV:=Lib.hid hev
 clear hev
 by_cases he:ev=0
 rotate_left
 · have heb:=bne_t he
   have HFIN:Hid (er=(0,ev)):=by show _=_;rw [HD.out,HEV.out,if_pos he]
   clear he
   go_wp2_with fail
   go_ret2
   exact HP.out _ _ _ HFIN.out H1.out.B
 have heb:=bne_f he
 have HF0:=Lib.hid (HEV.out.trans he)
 have hfw:=fnErr_few HF0.out
 have HD2:Hid (er=if 200 < ws.length then (0,8) else if (fstE (wErr f ws) ws.length).2≠0 then fstE (wErr f ws) ws.length else if 300 < (places ws).length then (0,8) else (0,0)):=by show _=_;rw [HD.out,if_neg (fun h=>h HF0.out)]
 clear he HEV HD
 by_cases h200:200 < ws.length
 · have h200z:(200:Int) < (ws.length:Int):=by omega
   have HFIN:Hid (er=(0,8)):=by show _=_;rw [HD2.out,if_pos h200]
   clear h200
   go_wp2_with fail
   go_ret2
   exact HP.out _ _ _ HFIN.out H1.out.B
 have h200z:¬(200:Int) < (ws.length:Int):=by omega
 have hn200:ws.length≤200:=by omega
 have HD3:Hid (er=if (fstE (wErr f ws) ws.length).2≠0 then fstE (wErr f ws) ws.length else if 300 < (places ws).length then (0,8) else (0,0)):=by show _=_;rw [HD2.out,if_neg h200]
 clear h200 HD2
 generalize hnn:ws.length=n at *
 have HNN:=Lib.hid hnn
 clear hnn
 go_wp2_with fail
 go_loopg [7,8] n (fun gg s7 _ wr=>∃ k:Nat,k≤n∧n-k≤gg∧s7=.int .i64 k∧Hid (VB w wr f v ws (.slice A n c))∧Hid (∀ j,j < k→wErr f ws j=0))
 case atStart=>exact ⟨0,by omega,by omega,rfl,H1.out,fun j hj=>absurd hj (Nat.not_lt_zero _)⟩
 case round=>
  obtain ⟨k,hk,hg,rfl,HK,HE⟩:=hrel
  clear H1 g0 g1 g2
  have g0:=HK.out.F.cell 0
  have g1:=HK.out.F.cell 1
  have g2:=HK.out.F.cell 2
  have hwr:=HK.out.F.lt
  by_cases hlt:k < n
  · have hltz:(k:Int) < (n:Int):=by omega
    have hV:=HK.out.V
    rw [←HNN.out] at hV
    obtain ⟨b,off,A1,c1,A2,c2,rfl,hbw,z0,z1,I1,I2,-,-,-,-⟩:=hV.at (k:=k) (by rw [HNN.out];exact hlt)
    have HI1:=Lib.hid I1
    have HI2:=Lib.hid I2
    have ERR:Hid (∀ e,wErr f ws k=e→e≠0→er=((k:Int),e)):=(show ∀ e,_ from fun e he h0=>by rw [HD3.out,fstE_hit (k:=k) (by rw [he];exact h0) HE.out hlt,if_pos (by rw [he];exact h0),he])
    have HWD:Hid (∀ W,SoV W f.sorts v→IV W (gw ws k).sorts (.slice A1 (gw ws k).sorts.length c1)→IV W (gw ws k).breaks (.slice A2 (gw ws k).breaks.length c2)→Calls Tryz.prog 93 #[.agg (fcs f v),.agg #[.slice A1 (gw ws k).sorts.length c1,.slice A2 (gw ws k).breaks.length c2]] W fun e w'=>e=.returned (.int .i64 (wErr f ws k))∧Below W.heap.size W w'):=(show ∀ W,_ from fun W a b d=>refWord_any f v (gw ws k) _ _ W a b d hfw.2)
    clear hV I1 I2
    generalize hse:wErr f ws k=se at *
    have HSE:=Lib.hid hse
    clear hse
    generalize (gw ws k).sorts.length=sl at *
    generalize (gw ws k).breaks.length=bl at *
    go_upto_region 9 with (fail)
    have xg0:=cell_regrown g0
    have xg1:=cell_regrown g1
    have xg2:=cell_regrown g2
    have xz0:=cell_regrown z0
    have xz1:=cell_regrown z1
    have cN:∀ d os,Calls Tryz.prog 93 #[.agg #[.string f.name,.int .i64 f.body,v],.agg #[.slice A1 sl c1,.slice A2 bl c2]] (grow (redrawn wr d) os) fun e w''=>e=.returned (.int .i64 se)∧∃ p:Regrown,w''=grow (redrawn wr p.d) p.os:=fun d os=>Calls.regrown_of (HWD.out (grow (redrawn wr d) os) (HK.out.S.below (below_regrown wr d os)) (HI1.out.below (below_regrown wr d os)) (HI2.out.below (below_regrown wr d os)))
    refine wp_region_quiet_below (by kernel_rfl) (by kernel_rfl) ?_
    repeat (first | go_big_quiet_step (exact cN _ _) | quiet_step (exact cN _ _))
    refine wpQuiet_nil ?_
    intro _ hw'
    obtain ⟨⟨dq,osq⟩,hw''⟩:=hw'
    subst hw''
    have b3:=below_regrown wr dq osq
    have H3:=Lib.hid (HK.out.step b3)
    clear xg0 xg1 xg2 xz0 xz1 cN b3 HK HWD z0 z1 g0 g1 g2
    generalize grow (redrawn wr dq) osq=W3 at *
    have g0:=H3.out.F.cell 0
    have g1:=H3.out.F.cell 1
    have g2:=H3.out.F.cell 2
    by_cases he:se=0
    · have heb:=bne_f he
      have HZ:=Lib.hid he
      clear he
      go_wp2_with fail
      go_roundg (n-(k+1))
      case measure=>omega
      case rel=>
       refine ⟨k+1,by omega,by omega,by go_num,H3.out,(show ∀ j,_ from fun j hj=>?_)⟩
       by_cases e:j=k
       · rw [e,HSE.out];exact HZ.out
       · exact HE.out j (by omega)
    · have heb:=bne_t he
      have HFIN:=Lib.hid (ERR.out se (by first | rfl | exact HSE.out) he)
      clear he
      go_wp2_with fail
      go_ret2
      exact HP.out _ _ _ HFIN.out H3.out.B
  · have hltz:¬(k:Int) < (n:Int):=by omega
    have hke:k=n:=by omega
    have HWO:=Lib.hid (wsOk_of (f:=f) (ws:=ws) (fun j hj=>HE.out j (by rw [HNN.out] at hj;omega)))
    have HD4:Hid (er=if 300 < (places ws).length then (0,8) else (0,0)):=by show _=_;rw [HD3.out,fstE_none (fun j hj=>HE.out j (by omega)),if_neg (by decide)]
    have HPL:=Lib.hid (refPlaces_any f.sorts.length ws (.slice A n c) wr HK.out.V HWO.out (by rw [HNN.out];omega))
    clear hke hlt HE
    go_wp2_with fail
    refine HPL.out.mono ?_
    rintro e W4 ⟨vp,rfl,hpv,hb,-⟩
    have H4:=Lib.hid (HK.out.step hb)
    obtain ⟨Ap,cp,rfl,-,-⟩:=hpv.shape
    have hpl2:(places ws).length≤20000:=by
     have:=plTo_len HWO.out (Nat.le_refl ws.length)
     rw [HNN.out] at this
     rw [places_len,HNN.out]
     omega
    clear hb hpv HPL HK g0 g1 g2
    generalize (places ws).length=pn at *
    by_cases h300:300 < pn
    · have h300z:(300:Int) < (pn:Int):=by omega
      have HFIN:Hid (er=(0,8)):=by show _=_;rw [HD4.out,if_pos h300]
      clear h300
      go_wp2_with fail
      go_ret2
      exact HP.out _ _ _ HFIN.out H4.out.B
    · have h300z:¬(300:Int) < (pn:Int):=by omega
      have HFIN:Hid (er=(0,0)):=by show _=_;rw [HD4.out,if_neg h300]
      clear h300
      go_wp2_with fail
      go_ret2
      exact HP.out _ _ _ HFIN.out H4.out.B
theorem refWordsErr_any (f:Fnt) (v:Value) (ws:List PWord) (vw:Value) (w:World) (hv:SoV w f.sorts v) (hn:f.name.size≤9223372036854775807) (hw:WoV w ws vw) :
 Calls Tryz.prog 44 #[.agg (fcs f v),vw] w fun e w'=>e=.returned (.int .i64 (wsErr f ws).2)∧Below w.heap.size w w':=by
 have HT:=Lib.hid (VB.start hv hw)
 have HC:=Lib.hid (fun W (h:VB w W f v ws vw)=>refWords_any f v ws vw W h.S hn h.V)
 clear hv hn hw
 have g0:=HT.out.F.cell 0
 have g1:=HT.out.F.cell 1
 have g2:=HT.out.F.cell 2
 go_enter Tryz.func44,Tryz.ntmps44
 go_wp2_with fail
 refine (HC.out _ HT.out).mono ?_
 rintro e w1 ⟨rfl,hb⟩
 have HB1:=Lib.hid (HT.out.step hb).B
 clear hb g0 g1 g2
 go_wp2_with fail
 go_ret
 exact ⟨rfl,HB1.out⟩
structure UB (w W:World) (f:Fnt) (v:Value) (r:Rls) (ws:List PWord) (vw:Value):Prop where
 T:TB w W f v r
 V:WoV W ws vw
theorem UB.step {w W W':World} {f:Fnt} {v:Value} {r:Rls} {ws:List PWord} {vw:Value} (h:UB w W f v r ws vw) (hb:Below W.heap.size W W'):UB w W' f v r ws vw:=⟨h.T.step hb,h.V.below hb⟩
theorem UB.start {w:World} {f:Fnt} {v:Value} {r:Rls} {ws:List PWord} {vw:Value} (h:SoV w f.sorts v) (h2:WoV w ws vw):UB w ((w.alloc (.cells (fcs f v) 24)).alloc (.cells (rcs r) 26)) f v r ws vw:=
 ⟨TB.start r h,(h2.below (below_new _ _)).below (below_new _ _)⟩
theorem refErr04_any (f:Fnt) (v:Value) (r:Rls) (ws:List PWord) (vw:Value) (w:World) (hv:SoV w f.sorts v) (hn:f.name.size≤9223372036854775807) (hw:WoV w ws vw) :
 Calls Tryz.prog 39 #[.agg (fcs f v),.agg (rcs r),vw] w fun e w'=>e=.returned (.int .i64 (paErr f r ws))∧Below w.heap.size w w':=by
 have HT:=Lib.hid (UB.start (r:=r) hv hw)
 have HC:=Lib.hid (fun W (h:SoV W f.sorts v)=>refRules_any f v r W h hn)
 have HC2:=Lib.hid (fun W (h:SoV W f.sorts v) (h2:WoV W ws vw)=>refWordsErr_any f v ws vw W h hn h2)
 have HD:Hid (paErr f r ws=if ruErr f r≠0 then ruErr f r else (wsErr f ws).2):=rfl
 generalize paErr f r ws=rv at *
 clear hv hn hw
 have g0:=HT.out.T.F.cell 0
 have g1:=HT.out.T.F.cell 1
 have g2:=HT.out.T.F.cell 2
 have q0:=HT.out.T.R.cell 0
 have q1:=HT.out.T.R.cell 1
 have q2:=HT.out.T.R.cell 2
 have q3:=HT.out.T.R.cell 3
 have q4:=HT.out.T.R.cell 4
 have q5:=HT.out.T.R.cell 5
 have q6:=HT.out.T.R.cell 6
 have q7:=HT.out.T.R.cell 7
 go_enter Tryz.func39,Tryz.ntmps39
 go_wp2_with fail
 generalize (w.alloc (.cells (fcs f v) 24)).alloc (.cells (rcs r) 26)=W0 at *
 refine (HC.out _ HT.out.T.S).mono ?_
 rintro e W1 ⟨rfl,hb⟩
 have H1:=Lib.hid (HT.out.step hb)
 clear hb HT HC g0 g1 g2 q0 q1 q2 q3 q4 q5 q6 q7
 have g0:=H1.out.T.F.cell 0
 have g1:=H1.out.T.F.cell 1
 have g2:=H1.out.T.F.cell 2
 have q0:=H1.out.T.R.cell 0
 have q1:=H1.out.T.R.cell 1
 have q2:=H1.out.T.R.cell 2
 have q3:=H1.out.T.R.cell 3
 have q4:=H1.out.T.R.cell 4
 have q5:=H1.out.T.R.cell 5
 have q6:=H1.out.T.R.cell 6
 have q7:=H1.out.T.R.cell 7
 obtain ⟨ev,hev⟩:∃ x,ruErr f r=x:=⟨_,rfl⟩
 rw [hev] at HD ⊢
 clear hev
 by_cases he:ev=0
 · have heb:=bne_f he
   have HFIN:Hid (rv=(wsErr f ws).2):=by show _=_;rw [HD.out,if_neg (fun h=>h he)]
   clear he
   go_wp2_with fail
   refine (HC2.out _ H1.out.T.S H1.out.V).mono ?_
   rintro e W2 ⟨rfl,hb⟩
   have HB:=Lib.hid (H1.out.step hb).T.B
   clear hb
   go_wp2_with fail
   go_ret
   exact ⟨ret_int HFIN.out.symm,HB.out⟩
 · have heb:=bne_t he
   have HFIN:Hid (rv=ev):=by show _=_;rw [HD.out,if_pos he]
   clear he
   go_wp2_with fail
   go_ret
   exact ⟨ret_int HFIN.out.symm,H1.out.T.B⟩
end Go.Proofs.YtbnganlfelgogaaGreat
namespace Go.Proofs.YtbnganlfelgogaaGreat
open Go.RowKit
def Sml (f:Fnt) (ws:List PWord):Prop:=f.sorts.length≤122∧ws.length≤202∧∀ i,i < ws.length→(gw ws i).sorts.length≤62∧(gw ws i).breaks.length≤6
def PlnPost (f:Fnt) (w:World) (e:Ending) (w':World):Prop:=∃ b:Bool,e=.returned (.bool b)∧(b=true→f.sorts.length≤122)∧Below w.heap.size w w'
theorem plain_any (f:Fnt) (v:Value) (w:World) (hv:SoV w f.sorts v) (hn:f.name.size≤9223372036854775807):Calls Tryz.prog 88 #[.agg (fcs f v)] w (PlnPost f w):=by
 have hfew:=hv.few
 have hb0:=below_new w (.cells (fcs f v) 24)
 have hbk:=Blk.new w 24 (fcs f v)
 have HV0:=Lib.hid (hv.below hb0)
 obtain ⟨A,c,rfl⟩:=hv.shape
 have HB0:=Lib.hid hb0
 have c0:=hbk.cell 0
 have c2:=hbk.cell 2
 have HFL:Hid (∀ W,Below w.heap.size w W→PlnPost f w (.returned (.bool false)) W):=(show ∀ W,_ from fun W h=>⟨false,rfl,(fun h=>by cases h),h⟩)
 have HTR:Hid (∀ W,f.sorts.length≤122→Below w.heap.size w W→PlnPost f w (.returned (.bool true)) W):=(show ∀ W,_ from fun W h1 h=>⟨true,rfl,fun _=>h1,h⟩)
 clear hv hb0
 go_enter Tryz.func88,Tryz.ntmps88
 generalize hN:f.sorts.length=N at *
 have HN:=Lib.hid hN
 clear hN
 by_cases hA:(10 < N∧N≤120)∨122 < N∨20 < f.name.size
 · go_wp2_with fail
   all_goals first
    | (exfalso;omega)
    | (go_ret;exact HFL.out _ HB0.out)
 · have hs:(f.name.size:Int)≤20:=by omega
   go_wp2_with fail
   all_goals first
    | (exfalso;omega)
    | skip
   all_goals
    go_loopg [3] N (fun gg s3 wr=>∃ k:Nat,k≤N∧N-k≤gg∧s3=.int .i64 k∧Hid (Below (w.alloc (.cells (fcs f (.slice A N c)) 24)).heap.size (w.alloc (.cells (fcs f (.slice A N c)) 24)) wr))
    case atStart=>exact ⟨0,by omega,by omega,rfl,Below.refl _ _⟩
    case round=>
     obtain ⟨k,hk,hg,rfl,HB⟩:=hrel
     have c2':=(HB.out.cell (p:=⟨w.heap.size,2,none⟩) (by simp)).trans c2
     have cl':w.heap.size < wr.heap.size:=by have:=HB.out.size;simp at this;omega
     have HBB:=Lib.hid (HB0.out.trans (HB.out.mono HB0.out.size))
     clear c0 c2
     by_cases hlt:k < N
     · have hltz:(k:Int) < (N:Int):=by omega
       have hV:=HV0.out.below HB.out
       obtain ⟨A',b,off,c',he,hA',hss,-,-,hsz⟩:=hV
       rw [HN.out] at he hA'
       injection he with e1 e2 e3
       clear e2 e3
       subst e1
       obtain ⟨rfl,hbl⟩:=hA' (by omega)
       obtain ⟨s0,s1,-,-⟩:=hss k (by rw [HN.out];exact hlt)
       have hsk:=hsz k (by rw [HN.out];exact hlt)
       generalize (gs f.sorts k)=x at *
       clear hss hsz
       go_wp2_with fail
       all_goals first
        | (go_ret;exact HFL.out _ HBB.out)
        | skip
       all_goals
        go_roundg (N-(k+1))
        case measure=>omega
        case rel=>exact ⟨k+1,by omega,by omega,by go_num,HB.out⟩
     · have hltz:¬(k:Int) < (N:Int):=by omega
       go_wp2_with fail
       go_ret
       exact HTR.out _ (by omega) HBB.out
def FewPost (ws:List PWord) (w:World) (e:Ending) (w':World):Prop:=∃ b:Bool,e=.returned (.bool b)∧(b=true→ws.length≤202∧∀ i,i < ws.length→(gw ws i).sorts.length≤62∧(gw ws i).breaks.length≤6)∧Below w.heap.size w w'
theorem few_any (ws:List PWord) (v:Value) (w:World) (hv:WoV w ws v):Calls Tryz.prog 89 #[v] w (FewPost ws w):=by
 obtain ⟨A,c,rfl,hfew⟩:=hv.shape
 have HV:=Lib.hid hv
 have HFL:Hid (∀ W,Below w.heap.size w W→FewPost ws w (.returned (.bool false)) W):=(show ∀ W,_ from fun W h=>⟨false,rfl,(fun h=>by cases h),h⟩)
 have HTR:Hid (∀ W,ws.length≤202→(∀ i,i < ws.length→(gw ws i).sorts.length≤62∧(gw ws i).breaks.length≤6)→Below w.heap.size w W→FewPost ws w (.returned (.bool true)) W):=(show ∀ W,_ from fun W h1 h2 h=>⟨true,rfl,fun _=>⟨h1,h2⟩,h⟩)
 clear hv
 go_enter Tryz.func89,Tryz.ntmps89
 generalize hN:ws.length=N at *
 have HN:=Lib.hid hN
 clear hN
 by_cases hA:(10 < N∧N≤200)∨202 < N
 · go_wp2_with fail
   all_goals first
    | (exfalso;omega)
    | (go_ret;exact HFL.out _ (Below.refl _ _))
 · go_wp2_with fail
   all_goals first
    | (exfalso;omega)
    | skip
   all_goals
    go_loopg [3] N (fun gg s3 wr=>∃ k:Nat,k≤N∧N-k≤gg∧s3=.int .i64 k∧Hid (Below w.heap.size w wr)∧Hid (∀ i,i < k→(gw ws i).sorts.length≤62∧(gw ws i).breaks.length≤6))
    case atStart=>exact ⟨0,by omega,by omega,rfl,Below.refl _ _,(show ∀ i,_ from fun i hi=>absurd hi (Nat.not_lt_zero _))⟩
    case round=>
     obtain ⟨k,hk,hg,rfl,HB,HI⟩:=hrel
     by_cases hlt:k < N
     · have hltz:(k:Int) < (N:Int):=by omega
       have hV:=HV.out.below HB.out
       rw [←HN.out] at hV
       obtain ⟨b,off,A1,c1,A2,c2,rfl,hbl,z1,z2,i1,i2,hm3,hm4,hm1,hm2⟩:=hV.at (k:=k) (by rw [HN.out];exact hlt)
       have HST:Hid ((gw ws k).sorts.length≤62∧(gw ws k).breaks.length≤6→∀ i,i < k+1→(gw ws i).sorts.length≤62∧(gw ws i).breaks.length≤6):=(show _→_ from fun h i hi=>by
        by_cases e:i=k
        · rw [e];exact h
        · exact HI.out i (by omega))
       clear hV i1 i2
       generalize (gw ws k).sorts.length=n1 at *
       generalize (gw ws k).breaks.length=n2 at *
       go_wp2_with fail
       all_goals first
        | (go_ret;exact HFL.out _ HB.out)
        | skip
       all_goals
        go_roundg (N-(k+1))
        case measure=>omega
        case rel=>exact ⟨k+1,by omega,by omega,by go_num,HB.out,HST.out ⟨by omega,by omega⟩⟩
     · have hltz:¬(k:Int) < (N:Int):=by omega
       have hke:k=N:=by omega
       have HI2:Hid (∀ i,i < N→(gw ws i).sorts.length≤62∧(gw ws i).breaks.length≤6):=by rw [hke] at HI;exact HI
       clear hke HI hlt
       go_wp2_with fail
       go_ret
       exact HTR.out _ (by omega) HI2.out HB.out
end Go.Proofs.YtbnganlfelgogaaGreat
namespace Go.Proofs.YtbnganlfelgogaaGreat
open Go.RowKit
@[reducible,go_sem] def xcs (f:Fnt) (v:Value) (r:Rls) (vw:Value):Array Value:=#[.string f.name,.int .i64 f.body,v,.int .i64 r.measure,.int .i64 r.indent,.int .i64 r.least,.int .i64 r.most,.int .i64 r.gap,.int .i64 r.hyphen,.int .i64 r.single,.int .i64 r.double,vw]
def SmPost (f:Fnt) (ws:List PWord) (w:World) (e:Ending) (w':World):Prop:=∃ b:Bool,e=.returned (.bool b)∧(b=true→Sml f ws)∧Below w.heap.size w w'
theorem small_any (f:Fnt) (v:Value) (ws:List PWord) (vw:Value) (w:World) (hv:SoV w f.sorts v) (hn:f.name.size≤9223372036854775807) (hw:WoV w ws vw):Calls Tryz.prog 23 #[.agg (fcs f v),vw] w (SmPost f ws w):=by
 have hb0:=below_new w (.cells (fcs f v) 24)
 have HPL:=Lib.hid (plain_any f v _ (hv.below hb0) hn)
 have HFE:=Lib.hid (fun W (h:Below (w.alloc (.cells (fcs f v) 24)).heap.size (w.alloc (.cells (fcs f v) 24)) W)=>few_any ws vw W ((hw.below hb0).below h))
 have HB0:=Lib.hid hb0
 have HP:Hid (∀ W b,(b=true→Sml f ws)→Below w.heap.size w W→SmPost f ws w (.returned (.bool b)) W):=(show ∀ W b,_ from fun W b h1 h=>⟨b,rfl,h1,h⟩)
 obtain ⟨A,c,rfl⟩:=hv.shape
 obtain ⟨Aw,cw,rfl,-⟩:=hw.shape
 clear hv hw hb0
 go_enter Tryz.func23,Tryz.ntmps23
 go_wp2_with fail
 refine HPL.out.mono ?_
 rintro e w1 ⟨b,rfl,hb1,hb⟩
 have HC:=Lib.hid (HFE.out _ hb)
 have HB1:=Lib.hid (HB0.out.trans (hb.mono HB0.out.size))
 cases b with
 | false=>
  go_wp2_with fail
  go_ret
  exact HP.out _ _ (fun h=>by cases h) HB1.out
 | true=>
  have H1:=Lib.hid (hb1 rfl)
  go_wp2_with (first
   | (go_at_call 89;(with_reducible refine HC.out.mono ?_);rintro e w2 ⟨b2,rfl,hb2,hb3⟩))
  go_ret
  exact HP.out _ _ (fun h=>⟨H1.out,hb2 h⟩) (HB1.out.trans (hb3.mono HB1.out.size))
theorem light_any (f:Fnt) (v:Value) (r:Rls) (ws:List PWord) (vw:Value) (w:World) (hv:SoV w f.sorts v) (hn:f.name.size≤9223372036854775807) (hw:WoV w ws vw):Calls Tryz.prog 31 #[.agg (xcs f v r vw)] w (SmPost f ws w):=by
 have hb0:=below_new w (.cells (xcs f v r vw) 29)
 have HSM:=Lib.hid (small_any f v ws vw _ (hv.below hb0) hn (hw.below hb0))
 have HB0:=Lib.hid hb0
 obtain ⟨A,c,rfl⟩:=hv.shape
 obtain ⟨Aw,cw,rfl,-⟩:=hw.shape
 clear hv hw hb0
 go_enter Tryz.func31,Tryz.ntmps31
 go_wp2_with fail
 refine HSM.out.mono ?_
 rintro e w1 ⟨b,rfl,hb1,hb⟩
 go_wp2_with fail
 go_ret
 exact ⟨b,rfl,hb1,HB0.out.trans (hb.mono HB0.out.size)⟩
def WhPost (f:Fnt) (r:Rls) (ws:List PWord) (w:World) (e:Ending) (w':World):Prop:=∃ b:Bool,e=.returned (.bool b)∧(b=true→Sml f ws∧paErr f r ws=0)∧Below w.heap.size w w'
theorem whole_any (f:Fnt) (v:Value) (r:Rls) (ws:List PWord) (vw:Value) (w:World) (hv:SoV w f.sorts v) (hn:f.name.size≤9223372036854775807) (hw:WoV w ws vw):Calls Tryz.prog 18 #[.agg (xcs f v r vw)] w (WhPost f r ws w):=by
 have hb0:=below_new w (.cells (xcs f v r vw) 29)
 have hbk:=Blk.new w 29 (xcs f v r vw)
 have HSM:=Lib.hid (light_any f v r ws vw _ (hv.below hb0) hn (hw.below hb0))
 have HER:=Lib.hid (fun W (h:Below (w.alloc (.cells (xcs f v r vw) 29)).heap.size (w.alloc (.cells (xcs f v r vw) 29)) W)=>refErr04_any f v r ws vw W ((hv.below hb0).below h) hn ((hw.below hb0).below h))
 have HP:Hid (∀ W b,(b=true→Sml f ws∧paErr f r ws=0)→Below w.heap.size w W→WhPost f r ws w (.returned (.bool b)) W):=(show ∀ W b,_ from fun W b h1 h=>⟨b,rfl,h1,h⟩)
 have HB0:=Lib.hid hb0
 obtain ⟨A,c,rfl⟩:=hv.shape
 obtain ⟨Aw,cw,rfl,-⟩:=hw.shape
 clear hv hw hb0
 have HBK:=Lib.hid hbk
 clear hbk
 go_enter Tryz.func18,Tryz.ntmps18
 go_wp2_with fail
 refine HSM.out.mono ?_
 rintro e w1 ⟨b,rfl,hb1,hb⟩
 have HC:=Lib.hid (HER.out _ hb)
 have HB1:=Lib.hid (HB0.out.trans (hb.mono HB0.out.size))
 cases b with
 | false=>
  go_wp2_with fail
  go_ret
  exact HP.out _ _ (fun h=>by cases h) HB1.out
 | true=>
  have H1:=Lib.hid (hb1 rfl)
  have hk1:=HBK.out.below hb HBK.out.lt
  have c0:=hk1.cell 0
  have c1:=hk1.cell 1
  have c2:=hk1.cell 2
  have c3:=hk1.cell 3
  have c4:=hk1.cell 4
  have c5:=hk1.cell 5
  have c6:=hk1.cell 6
  have c7:=hk1.cell 7
  have c8:=hk1.cell 8
  have c9:=hk1.cell 9
  have c10:=hk1.cell 10
  have c11:=hk1.cell 11
  have cl:=hk1.lt
  clear hk1 hb
  by_cases he:paErr f r ws=0
  · have HE:=Lib.hid he
    rw [he] at HC
    clear he
    go_wp2_with (first
     | (go_at_call 39;(with_reducible refine HC.out.mono ?_);rintro e w2 ⟨rfl,hb3⟩))
    go_ret
    exact HP.out _ _ (fun h=>⟨H1.out,HE.out⟩) (HB1.out.trans (hb3.mono HB1.out.size))
  · have heb:(paErr f r ws == 0)=false:=beq_false_of_ne he
    generalize paErr f r ws=pe at *
    clear he
    go_wp2_with (first
     | (go_at_call 39;(with_reducible refine HC.out.mono ?_);rintro e w2 ⟨rfl,hb3⟩))
    go_ret
    exact HP.out _ _ (fun h=>by cases h) (HB1.out.trans (hb3.mono HB1.out.size))
end Go.Proofs.YtbnganlfelgogaaGreat
