/- The law ParagraphCounts returns true; ref.Fewest. -/
import Derived.Test.YtbnganlfelgogaaGreatVAwk
import Derived.Test.YtbnganlfelgogaaGreatVRli
import Derived.Test.YtbnganlfelgogaaGreatVCop
import Derived.Test.YtbnganlfelgogaaGreatVFws
set_option linter.unusedSimpArgs false
set_option linter.unusedVariables false
set_option maxRecDepth 100000
set_option maxHeartbeats 40000000
namespace Go.Proofs.YtbnganlfelgogaaGreat
open Go.RowKit
structure LY (w W:World) (f:Fnt) (v:Value) (r:Rls) (ws:List PWord) (vw:Value) (yb:Nat) (vf vg:Value):Prop where
 B:Below w.heap.size w W
 X:Blk W w.heap.size 29 (xcs f v r vw)
 Y:Blk W yb 29 (xcs f vf r vg)
 y:w.heap.size < yb
 S:SoV W f.sorts vf
 V:WoV W ws vg
theorem LY.step {w W W':World} {f:Fnt} {v:Value} {r:Rls} {ws:List PWord} {vw:Value} {yb:Nat} {vf vg:Value} (h:LY w W f v r ws vw yb vf vg) (hb:Below W.heap.size W W'):LY w W' f v r ws vw yb vf vg:=
 ⟨h.B.trans (hb.mono h.B.size),h.X.below hb h.X.lt,h.Y.below hb h.Y.lt,h.y,h.S.below hb,h.V.below hb⟩
def TruePost (w:World) (e:Ending) (w':World):Prop:=e=.returned (.bool true)∧Below w.heap.size w w'
theorem refFewest_any (t:Tb) (N D:Nat) (vt:Value) (w:World) (ht:TbOk t N D) (hN:N≤300) (hD:D≤1000000000) (hv:LV w (tbL t N N) vt) :
 Calls Tryz.prog 71 #[vt] w (IntPost (fewR t N N) w):=by
 have HV:=Lib.hid hv
 obtain ⟨A,c,rfl,-,-⟩:=hv.shape
 rw [tbL_len] at HV ⊢
 have HLI:=Lib.hid (fun W (h:Below w.heap.size w W) k (hk:k≤1000000)=>refLeastIn_any t N D _ k W ht hN hD hk (HV.out.below h))
 have HML:Hid (((ML:Nat):Int)=1000000000000000):=rfl
 have HNO:Hid (∀ K,(∀ k,k < K→¬(inD t N k (N-1)).1 < ML)→fewR t N K=-1):=(show ∀ K,_ from fun K h=>fewR_no h)
 have HHI:Hid (∀ k,(inD t N k (N-1)).1 < ML→(∀ j,j < k→¬(inD t N j (N-1)).1 < ML)→k < N→fewR t N N=(k:Int)):=(show ∀ k,_ from fun k h1 h0 hk=>fewR_hit h1 h0 hk)
 have HP:Hid (∀ W x,x=fewR t N N→Below w.heap.size w W→IntPost (fewR t N N) w (.returned (.int .i64 x)) W):=(show ∀ W x,_ from fun W x e h=>by subst e;exact ⟨rfl,h⟩)
 clear hv
 go_enter Tryz.func71,Tryz.ntmps71
 go_wp2_with fail
 go_loopg [3] N (fun gg s3 wr=>∃ k:Nat,k≤N∧N-k≤gg∧s3=.int .i64 (k:Int)∧Hid (Below w.heap.size w wr)∧Hid (∀ j,j < k→¬(inD t N j (N-1)).1 < ML))
 case atStart=>exact ⟨0,by omega,by omega,rfl,Below.refl _ _,fun j hj=>by omega⟩
 case round=>
  obtain ⟨k,hk,hg,rfl,HB,H0⟩:=hrel
  by_cases hlt:k < N
  · have hltz:(k:Int) < (N:Int):=by omega
    have HL:=Lib.hid (HLI.out wr HB.out k (by omega))
    have hml:ML=1000000000000000:=rfl
    go_wp2_with fail
    refine HL.out.mono ?_
    rintro e w3 ⟨rfl,hb3⟩
    have HBN:=Lib.hid (HB.out.trans (hb3.mono HB.out.size))
    clear hb3 HL
    by_cases hq:(inD t N k (N-1)).1 < ML
    · have hqz:(((inD t N k (N-1)).1:Nat):Int) < 1000000000000000:=by omega
      have HF:Hid ((k:Int)=fewR t N N):=(HHI.out k hq H0.out hlt).symm
      clear hq hml
      generalize (inD t N k (N-1)).1=xx at *
      go_wp2_with fail
      go_ret
      exact HP.out _ _ HF.out HBN.out
    · have hqz:¬(((inD t N k (N-1)).1:Nat):Int) < 1000000000000000:=by omega
      have HN1:Hid (∀ j,j < k+1→¬(inD t N j (N-1)).1 < ML):=(show ∀ j,_ from fun j hj=>by
       by_cases e:j=k
       · rw [e];exact hq
       · exact H0.out j (by omega))
      have hqb:decide ((((inD t N k (N-1)).1:Nat):Int) < 1000000000000000)=false:=decide_eq_false hqz
      clear hq hml H0 HNO HHI hqz
      obtain ⟨xx,hxx⟩:∃ x,(inD t N k (N-1)).1=x:=⟨_,rfl⟩
      rw [hxx] at hqb ⊢
      clear hxx
      go_wp2_with fail
      go_roundg (N-(k+1))
      case measure=>omega
      case rel=>exact ⟨k+1,by omega,by omega,by go_num,HBN.out,HN1.out⟩
  · have hltz:¬(k:Int) < (N:Int):=by omega
    have hkn:k=N:=by omega
    have HF:Hid ((-1:Int)=fewR t N N):=(HNO.out N (fun j hj=>H0.out j (by omega))).symm
    clear hkn
    go_wp2_with fail
    go_ret
    exact HP.out _ _ HF.out HB.out
theorem counts_any (f:Fnt) (v:Value) (r:Rls) (ws:List PWord) (vw:Value) (ln:Int) (w:World) (hv:SoV w f.sorts v) (hn:f.name.size≤9223372036854775807) (hw:WoV w ws vw) :
 Calls Tryz.prog 15 #[.agg (xcs f v r vw),.int .i64 ln] w (TruePost w):=by
 have hb0:=below_new w (.cells (xcs f v r vw) 29)
 have hk0:=Blk.new w 29 (xcs f v r vw)
 obtain ⟨A,c,rfl⟩:=hv.shape
 obtain ⟨Aw,cw,rfl,-⟩:=hw.shape
 have HV:=Lib.hid hv
 have HW:=Lib.hid hw
 have HN:=Lib.hid hn
 have HP:Hid (∀ W,Below w.heap.size w W→TruePost w (.returned (.bool true)) W):=(show ∀ W,_ from fun W hb=>⟨rfl,hb⟩)
 have HB0:=Lib.hid hb0
 have HK0:=Lib.hid hk0
 clear hv hw hn hb0 hk0
 go_enter Tryz.func15,Tryz.ntmps15
 go_wp2_with fail
 refine (awake4_any _).mono ?_
 rintro e w1 ⟨rfl,hb1⟩
 have HB1:=Lib.hid (HB0.out.trans (hb1.mono HB0.out.size))
 have HK:=Lib.hid (HK0.out.below hb1 HK0.out.lt)
 clear hb1 HB0 HK0
 have c0:=HK.out.cell 0
 have c1:=HK.out.cell 1
 have c2:=HK.out.cell 2
 have c3:=HK.out.cell 3
 have c4:=HK.out.cell 4
 have c5:=HK.out.cell 5
 have c6:=HK.out.cell 6
 have c7:=HK.out.cell 7
 have c8:=HK.out.cell 8
 have c9:=HK.out.cell 9
 have c10:=HK.out.cell 10
 have c11:=HK.out.cell 11
 have cl:=HK.out.lt
 have HWH:=Lib.hid (light_any f _ r ws _ w1 (HV.out.below HB1.out) HN.out (HW.out.below HB1.out))
 go_wp2_with fail
 refine HWH.out.mono ?_
 rintro e w2 ⟨b,rfl,hb,hb2⟩
 have HB2:=Lib.hid (HB1.out.trans (hb2.mono HB1.out.size))
 have HK2:=Lib.hid (HK.out.below hb2 HK.out.lt)
 clear hb2 c0 c1 c2 c3 c4 c5 c6 c7 c8 c9 c10 c11 cl HWH HK
 cases b with
 | false=>
  clear hb
  go_wp2_with fail
  go_ret
  exact HP.out _ HB2.out
 | true=>
 have HSM:=Lib.hid (hb rfl)
 have HK:=Lib.hid HK2.out
 clear hb HK2
 have c0:=HK.out.cell 0
 have c1:=HK.out.cell 1
 have c2:=HK.out.cell 2
 have c3:=HK.out.cell 3
 have c4:=HK.out.cell 4
 have c5:=HK.out.cell 5
 have c6:=HK.out.cell 6
 have c7:=HK.out.cell 7
 have c8:=HK.out.cell 8
 have c9:=HK.out.cell 9
 have c10:=HK.out.cell 10
 have c11:=HK.out.cell 11
 have cl:=HK.out.lt
 have HOWN:=Lib.hid (own_any f _ r ws _ w2 (HV.out.below HB2.out) (HW.out.below HB2.out) HSM.out)
 go_wp2_with fail
 refine HOWN.out.mono ?_
 rintro e w3 ⟨vf,vg,rfl,hsf,hwg,hb3⟩
 obtain ⟨Af,cf,rfl⟩:=hsf.shape
 obtain ⟨Ag,cg,rfl,-⟩:=hwg.shape
 have HL:Hid (LY w (w3.alloc (.cells (xcs f (.slice Af f.sorts.length cf) r (.slice Ag ws.length cg)) 29)) f (.slice A f.sorts.length c) r ws (.slice Aw ws.length cw) w3.heap.size (.slice Af f.sorts.length cf) (.slice Ag ws.length cg)):=by
  have hbn:=below_new w3 (.cells (xcs f (.slice Af f.sorts.length cf) r (.slice Ag ws.length cg)) 29)
  have hx:=HK.out.below hb3 HK.out.lt
  exact ⟨(HB2.out.trans (hb3.mono HB2.out.size)).trans (hbn.mono (Nat.le_trans HB2.out.size hb3.size)),hx.below hbn hx.lt,Blk.new w3 29 _,hx.lt,hsf.below hbn,hwg.below hbn⟩
 clear hsf hwg hb3 HOWN HK HB1 HB2 c0 c1 c2 c3 c4 c5 c6 c7 c8 c9 c10 c11 cl
 go_upto_region 6 with fail
 generalize w3.alloc (.cells (xcs f (.slice Af f.sorts.length cf) r (.slice Ag ws.length cg)) 29)=w4 at *
 generalize w3.heap.size=yb at *
 have c0:=HL.out.Y.cell 0
 have c1:=HL.out.Y.cell 1
 have c2:=HL.out.Y.cell 2
 have c3:=HL.out.Y.cell 3
 have c4:=HL.out.Y.cell 4
 have c5:=HL.out.Y.cell 5
 have c6:=HL.out.Y.cell 6
 have c7:=HL.out.Y.cell 7
 have c8:=HL.out.Y.cell 8
 have c9:=HL.out.Y.cell 9
 have c10:=HL.out.Y.cell 10
 have c11:=HL.out.Y.cell 11
 have cl:=HL.out.Y.lt
 have HBI:=Lib.hid (bestIn_any f _ r ws _ ln w4 HL.out.S HN.out HL.out.V)
 go_wp2_with fail
 refine HBI.out.mono ?_
 rintro e w5 ⟨hb5,hor⟩
 have HL5:=Lib.hid (HL.out.step hb5)
 clear hb5 HBI HL c0 c1 c2 c3 c4 c5 c6 c7 c8 c9 c10 c11 cl
 have HFW:=Lib.hid (fewest_any f _ r ws _ w5 HL5.out.S HN.out HL5.out.V)
 have HFWP:Hid (∀ e W,FwPost f r ws w5 e W→e=.returned (.tuple #[.int .i64 (fwE f r ws).1,.int .i64 (fwE f r ws).2])∧Below w5.heap.size w5 W):=(show ∀ e W,_ from fun e W h=>h)
 have HFE:Hid (fwE f r ws=if paErr f r ws≠0 then (0,paErr f r ws) else match hop (tab f r ws) ((places ws).length-1) ((places ws).length-1) with | none=>(0,12) | some m=>((m:Int),0)):=rfl
 have HPA:=Lib.hid (fun W (h:Below w.heap.size w W)=>refErr04_any f _ r ws _ W (HV.out.below h) HN.out (HW.out.below h))
 generalize fwE f r ws=fw at *
 by_cases hp0:paErr f r ws=0
 · have HOK:=Lib.hid (paErr_ok hp0)
   have HTB:=Lib.hid (tab_ok HOK.out.ru HOK.out.m)
   have hFE:=HFE.out
   rw [if_neg (fun h=>h hp0)] at hFE
   have HFH:=Lib.hid (few_hop HTB.out)
   have HPC:Hid (∀ W,Below w.heap.size w W→Calls Tryz.prog 39 #[.agg (fcs f (.slice A f.sorts.length c)),.agg (rcs r),.slice Aw ws.length cw] W (fun e w'=>e=.returned (.int .i64 0)∧Below W.heap.size W w')):=(show ∀ W,_ from fun W hW=>by
    have h:=HPA.out W hW
    rwa [hp0] at h)
   clear HPA HFE
   obtain ⟨fk,fe,fr,hfw,HFC⟩:∃ (fk fe fr:Int),fw=(fk,fe)∧Hid (fewR (tab f r ws) (places ws).length (places ws).length=fr∧((fr=-1∧fk=0∧fe=12)∨∃ m:Nat,fr=(m:Int)∧fk=(m:Int)∧fe=0)):=by
    cases hh:hop (tab f r ws) ((places ws).length-1) ((places ws).length-1) with
    | none=>rw [hh] at hFE;exact ⟨0,12,-1,hFE,by have h:=HFH.out;rw [hh] at h;exact ⟨h,.inl ⟨rfl,rfl,rfl⟩⟩⟩
    | some m=>rw [hh] at hFE;exact ⟨(m:Int),0,(m:Int),hFE,by have h:=HFH.out;rw [hh] at h;exact ⟨h,.inr ⟨m,rfl,rfl,rfl⟩⟩⟩
   subst hfw
   clear hFE HFH
   have HTBL:=Lib.hid (fun W (h:Below w.heap.size w W)=>refTable_any f _ r ws _ W (HV.out.below h) (HW.out.below h) HOK.out)
   have hm3:=HOK.out.m
   have hpos:=places_pos ws
   have hDX:DMX≤1000000000:=by unfold DMX;omega
   have HRF:Hid (∀ W vt,LV W (tbL (tab f r ws) (places ws).length (places ws).length) vt→Calls Tryz.prog 71 #[vt] W (IntPost fr W)):=(show ∀ W vt,_ from fun W vt h=>by
    have h1:=refFewest_any _ _ _ vt W HTB.out hm3 hDX h
    rwa [HFC.out.1] at h1)
   have HLI:Hid (∀ W vt (m:Nat),m≤1000000→LV W (tbL (tab f r ws) (places ws).length (places ws).length) vt→Calls Tryz.prog 72 #[vt,.int .i64 (m:Int)] W (IntPost ((inD (tab f r ws) (places ws).length m ((places ws).length-1)).1:Int) W)):=(show ∀ W vt m,_ from fun W vt m hm h=>refLeastIn_any _ _ _ vt m W HTB.out hm3 hDX hm h)
   have HBG:Hid (∀ m:Nat,¬m < (places ws).length→(inD (tab f r ws) (places ws).length m ((places ws).length-1)).1=ML):=(show ∀ m,_ from fun m h=>inD_big HTB.out h)
   have HRB:Hid (∀ W b (q:Nat) vb,Below w.heap.size w W→Path (tab f r ws) 0 b ((places ws).length-1) q→IV W (ints b) vb→(ints b).length≤1000000→Calls Tryz.prog 40 #[.agg (fcs f (.slice A f.sorts.length c)),.agg (rcs r),.slice Aw ws.length cw,vb] W (fun e W'=>e=.returned (.tuple #[.int .i64 (q:Int),.int .i64 0])∧Below W.heap.size W W')):=(show ∀ W b q vb,_ from fun W b q vb hW hp hv hl=>by
    have h:=refBreaks_any f _ r ws _ (ints b) vb W (HV.out.below hW) (HW.out.below hW) HOK.out hv hl
    unfold TwoPost at h
    rwa [path_cb HOK.out hp] at h)
   have HTBP:Hid (∀ W e W',TblPost f r ws W e W'→∃ v hd,e=.returned v∧PSt W' W.heap.size (tbL (tab f r ws) (places ws).length (places ws).length) v hd∧Below W.heap.size W W'):=(show ∀ W e W',_ from fun W e W' h=>h)
   have HTL:Hid ((tbL (tab f r ws) (places ws).length (places ws).length).length=(places ws).length):=tbL_len _ _ _
   have HIL:Hid (∀ b:List Nat,(ints b).length=b.length):=(show ∀ b,_ from fun b=>by simp [ints])
   rcases hor with ⟨h0,-⟩ | hor
   · exact absurd hp0 h0
   clear hp0 HTB HOK
   generalize tbL (tab f r ws) (places ws).length (places ws).length=TL at *
   generalize tab f r ws=t at *
   generalize (places ws).length=N at *
   have hml:((ML:Nat):Int)=1000000000000000:=rfl
   rcases hor with ⟨-,hwin,rfl⟩ | ⟨-,hwin,hiv,rfl⟩ | ⟨-,hwin,hiv,b,vb,rfl,hvb,hpth,hbl⟩
   · -- out of range
     have c0:=HL5.out.Y.cell 0
     have c1:=HL5.out.Y.cell 1
     have c2:=HL5.out.Y.cell 2
     have c3:=HL5.out.Y.cell 3
     have c4:=HL5.out.Y.cell 4
     have c5:=HL5.out.Y.cell 5
     have c6:=HL5.out.Y.cell 6
     have c7:=HL5.out.Y.cell 7
     have c8:=HL5.out.Y.cell 8
     have c9:=HL5.out.Y.cell 9
     have c10:=HL5.out.Y.cell 10
     have c11:=HL5.out.Y.cell 11
     have cl:=HL5.out.Y.lt
     go_wp2_with fail
     refine HFW.out.mono ?_
     intro e w6 h6
     obtain ⟨rfl,hb6⟩:=HFWP.out _ _ h6
     have HL6:=Lib.hid (HL5.out.step hb6)
     clear hb6 h6 HFW HFWP HL5 c0 c1 c2 c3 c4 c5 c6 c7 c8 c9 c10 c11 cl
     have c0:=HL6.out.X.cell 0
     have c1:=HL6.out.X.cell 1
     have c2:=HL6.out.X.cell 2
     have c3:=HL6.out.X.cell 3
     have c4:=HL6.out.X.cell 4
     have c5:=HL6.out.X.cell 5
     have c6:=HL6.out.X.cell 6
     have c7:=HL6.out.X.cell 7
     have c8:=HL6.out.X.cell 8
     have c9:=HL6.out.X.cell 9
     have c10:=HL6.out.X.cell 10
     have c11:=HL6.out.X.cell 11
     have cl:=HL6.out.X.lt
     go_wp2_with fail
     refine (HPC.out w6 HL6.out.B).mono ?_
     rintro e w7 ⟨rfl,hb7⟩
     have HL7:=Lib.hid (HL6.out.step hb7)
     clear hb7 HL6 HPC c0 c1 c2 c3 c4 c5 c6 c7 c8 c9 c10 c11 cl
     have c0:=HL7.out.X.cell 0
     have c1:=HL7.out.X.cell 1
     have c2:=HL7.out.X.cell 2
     have c3:=HL7.out.X.cell 3
     have c4:=HL7.out.X.cell 4
     have c5:=HL7.out.X.cell 5
     have c6:=HL7.out.X.cell 6
     have c7:=HL7.out.X.cell 7
     have c8:=HL7.out.X.cell 8
     have c9:=HL7.out.X.cell 9
     have c10:=HL7.out.X.cell 10
     have c11:=HL7.out.X.cell 11
     have cl:=HL7.out.X.lt
     go_wp2_with fail
     refine (HTBL.out w7 HL7.out.B).mono ?_
     intro e w8 h8
     obtain ⟨vt,hd,rfl,hps,hb8⟩:=HTBP.out _ _ _ h8
     have HL8:=Lib.hid (HL7.out.step hb8)
     have HLT8:=Lib.hid hps.lv
     obtain ⟨At,ct,rfl⟩:=hps.shape
     have htl:=HTL.out
     rw [htl] at HLT8 ⊢
     clear htl
     clear hb8 h8 hps HL7 HTBL HTBP c0 c1 c2 c3 c4 c5 c6 c7 c8 c9 c10 c11 cl
     have HRF8:=Lib.hid (HRF.out w8 _ HLT8.out)
     go_wp2_with fail
     refine HRF8.out.mono ?_
     rintro e w9 ⟨rfl,hb9⟩
     have HL9:=Lib.hid (HL8.out.step hb9)
     have HLT9:=Lib.hid (HLT8.out.below hb9)
     clear hb9 HL8 HLT8 HRF8 HRF
     go_upto_region 13 with fail
     go_cut [107] (fun s107 wx=>s107=.bool false∧wx=w9)
     case first=>
      rcases HFC.out.2 with ⟨rfl,rfl,rfl⟩ | ⟨m,rfl,rfl,rfl⟩
      · go_wp2_with fail;go_meet;exact ⟨rfl,rfl⟩
      · have hmz:¬(m:Int) < 0:=by omega
        have hmz2:(0:Int)≤(m:Int):=by omega
        go_wp2_with fail;go_meet;exact ⟨rfl,rfl⟩
     case rest=>
      obtain ⟨rfl,hwc⟩:=hcut
      subst hwc
      go_wp2_with fail
      refine (within13_any ln 0 300 _).mono ?_
      rintro e w10 ⟨rfl,hw10⟩
      subst hw10
      rw [hwin]
      clear hwin
      go_wp2_with fail
      go_ret
      exact HP.out _ HL9.out.B
   · -- none
     have hwt:=hwin
     have hwin:=win_t.1 hwt
     have HIV3:=Lib.hid hiv
     clear hiv
     have c0:=HL5.out.Y.cell 0
     have c1:=HL5.out.Y.cell 1
     have c2:=HL5.out.Y.cell 2
     have c3:=HL5.out.Y.cell 3
     have c4:=HL5.out.Y.cell 4
     have c5:=HL5.out.Y.cell 5
     have c6:=HL5.out.Y.cell 6
     have c7:=HL5.out.Y.cell 7
     have c8:=HL5.out.Y.cell 8
     have c9:=HL5.out.Y.cell 9
     have c10:=HL5.out.Y.cell 10
     have c11:=HL5.out.Y.cell 11
     have cl:=HL5.out.Y.lt
     go_wp2_with fail
     refine HFW.out.mono ?_
     intro e w6 h6
     obtain ⟨rfl,hb6⟩:=HFWP.out _ _ h6
     have HL6:=Lib.hid (HL5.out.step hb6)
     clear hb6 h6 HFW HFWP HL5 c0 c1 c2 c3 c4 c5 c6 c7 c8 c9 c10 c11 cl
     have c0:=HL6.out.X.cell 0
     have c1:=HL6.out.X.cell 1
     have c2:=HL6.out.X.cell 2
     have c3:=HL6.out.X.cell 3
     have c4:=HL6.out.X.cell 4
     have c5:=HL6.out.X.cell 5
     have c6:=HL6.out.X.cell 6
     have c7:=HL6.out.X.cell 7
     have c8:=HL6.out.X.cell 8
     have c9:=HL6.out.X.cell 9
     have c10:=HL6.out.X.cell 10
     have c11:=HL6.out.X.cell 11
     have cl:=HL6.out.X.lt
     go_wp2_with fail
     refine (HPC.out w6 HL6.out.B).mono ?_
     rintro e w7 ⟨rfl,hb7⟩
     have HL7:=Lib.hid (HL6.out.step hb7)
     clear hb7 HL6 HPC c0 c1 c2 c3 c4 c5 c6 c7 c8 c9 c10 c11 cl
     have c0:=HL7.out.X.cell 0
     have c1:=HL7.out.X.cell 1
     have c2:=HL7.out.X.cell 2
     have c3:=HL7.out.X.cell 3
     have c4:=HL7.out.X.cell 4
     have c5:=HL7.out.X.cell 5
     have c6:=HL7.out.X.cell 6
     have c7:=HL7.out.X.cell 7
     have c8:=HL7.out.X.cell 8
     have c9:=HL7.out.X.cell 9
     have c10:=HL7.out.X.cell 10
     have c11:=HL7.out.X.cell 11
     have cl:=HL7.out.X.lt
     go_wp2_with fail
     refine (HTBL.out w7 HL7.out.B).mono ?_
     intro e w8 h8
     obtain ⟨vt,hd,rfl,hps,hb8⟩:=HTBP.out _ _ _ h8
     have HL8:=Lib.hid (HL7.out.step hb8)
     have HLT8:=Lib.hid hps.lv
     obtain ⟨At,ct,rfl⟩:=hps.shape
     have htl:=HTL.out
     rw [htl] at HLT8 ⊢
     clear htl
     clear hb8 h8 hps HL7 HTBL HTBP c0 c1 c2 c3 c4 c5 c6 c7 c8 c9 c10 c11 cl
     have HRF8:=Lib.hid (HRF.out w8 _ HLT8.out)
     go_wp2_with fail
     refine HRF8.out.mono ?_
     rintro e w9 ⟨rfl,hb9⟩
     have HL9:=Lib.hid (HL8.out.step hb9)
     have HLT9:=Lib.hid (HLT8.out.below hb9)
     clear hb9 HL8 HLT8 HRF8 HRF
     go_upto_region 13 with fail
     go_cut [107] (fun s107 wx=>s107=.bool false∧wx=w9)
     case first=>
      rcases HFC.out.2 with ⟨rfl,rfl,rfl⟩ | ⟨m,rfl,rfl,rfl⟩
      · go_wp2_with fail;go_meet;exact ⟨rfl,rfl⟩
      · have hmz:¬(m:Int) < 0:=by omega
        have hmz2:(0:Int)≤(m:Int):=by omega
        go_wp2_with fail;go_meet;exact ⟨rfl,rfl⟩
     case rest=>
      obtain ⟨rfl,hwc⟩:=hcut
      subst hwc
      go_wp2_with fail
      refine (within13_any ln 0 300 _).mono ?_
      rintro e w10 ⟨rfl,hw10⟩
      subst hw10
      rw [hwt]
      clear hwt
      obtain ⟨m,rfl⟩:∃ m:Nat,ln=(m:Int):=⟨ln.toNat,by have:=hwin.1;omega⟩
      have hm300:m≤300:=by have:=hwin.2;omega
      rw [Int.toNat_natCast] at *
      clear hwin
      go_upto_if 126 with fail
      go_cut [14] (fun s14 wx=>s14=.int .i64 ((inD t N m (N-1)).1:Int)∧Hid (Below wc.heap.size wc wx))
      case first=>
       by_cases hmn:m < N+1
       · have hmnz:(m:Int) < (N:Int)+1:=by omega
         have HLI9:=Lib.hid (HLI.out wc _ m (by omega) HLT9.out)
         clear hmn
         generalize (inD t N m (N-1)).1=iv at *
         go_wp2_with fail
         refine HLI9.out.mono ?_
         rintro e w11 ⟨rfl,hb11⟩
         have HB11:=Lib.hid hb11
         clear hb11
         go_wp2_with fail
         go_meet
         exact ⟨rfl,HB11.out⟩
       · have hmnz:¬(m:Int) < (N:Int)+1:=by omega
         have HIV:=Lib.hid (HBG.out m (by omega))
         have HMLZ:=Lib.hid hml
         clear hmn
         go_wp2_with fail
         go_meet
         exact ⟨by rw [HIV.out,HMLZ.out],Below.refl _ _⟩
      case rest=>
       obtain ⟨rfl,HBC⟩:=hcut
       have HL11:=Lib.hid (HL9.out.step HBC.out)
       rw [HIV3.out,hml]
       clear HIV3
       go_wp2_with fail
       go_ret
       exact HP.out _ HL11.out.B
   · -- breaks
     have hwt:=hwin
     have hwin:=win_t.1 hwt
     obtain ⟨Ab,_,_,cb,rfl,-⟩:=hvb.open
     have HVB5:=Lib.hid hvb
     have HIB:=Lib.hid (HIL.out b)
     have HPT:=Lib.hid hpth
     clear hvb hpth
     have c0:=HL5.out.Y.cell 0
     have c1:=HL5.out.Y.cell 1
     have c2:=HL5.out.Y.cell 2
     have c3:=HL5.out.Y.cell 3
     have c4:=HL5.out.Y.cell 4
     have c5:=HL5.out.Y.cell 5
     have c6:=HL5.out.Y.cell 6
     have c7:=HL5.out.Y.cell 7
     have c8:=HL5.out.Y.cell 8
     have c9:=HL5.out.Y.cell 9
     have c10:=HL5.out.Y.cell 10
     have c11:=HL5.out.Y.cell 11
     have cl:=HL5.out.Y.lt
     go_wp2_with fail
     refine HFW.out.mono ?_
     intro e w6 h6
     obtain ⟨rfl,hb6⟩:=HFWP.out _ _ h6
     have HL6:=Lib.hid (HL5.out.step hb6)
     have HVB6:=Lib.hid (HVB5.out.below hb6)
     clear hb6 h6 HFW HFWP HL5 c0 c1 c2 c3 c4 c5 c6 c7 c8 c9 c10 c11 cl
     have c0:=HL6.out.X.cell 0
     have c1:=HL6.out.X.cell 1
     have c2:=HL6.out.X.cell 2
     have c3:=HL6.out.X.cell 3
     have c4:=HL6.out.X.cell 4
     have c5:=HL6.out.X.cell 5
     have c6:=HL6.out.X.cell 6
     have c7:=HL6.out.X.cell 7
     have c8:=HL6.out.X.cell 8
     have c9:=HL6.out.X.cell 9
     have c10:=HL6.out.X.cell 10
     have c11:=HL6.out.X.cell 11
     have cl:=HL6.out.X.lt
     go_wp2_with fail
     refine (HPC.out w6 HL6.out.B).mono ?_
     rintro e w7 ⟨rfl,hb7⟩
     have HL7:=Lib.hid (HL6.out.step hb7)
     have HVB7:=Lib.hid (HVB6.out.below hb7)
     clear hb7 HL6 HPC c0 c1 c2 c3 c4 c5 c6 c7 c8 c9 c10 c11 cl
     have c0:=HL7.out.X.cell 0
     have c1:=HL7.out.X.cell 1
     have c2:=HL7.out.X.cell 2
     have c3:=HL7.out.X.cell 3
     have c4:=HL7.out.X.cell 4
     have c5:=HL7.out.X.cell 5
     have c6:=HL7.out.X.cell 6
     have c7:=HL7.out.X.cell 7
     have c8:=HL7.out.X.cell 8
     have c9:=HL7.out.X.cell 9
     have c10:=HL7.out.X.cell 10
     have c11:=HL7.out.X.cell 11
     have cl:=HL7.out.X.lt
     go_wp2_with fail
     refine (HTBL.out w7 HL7.out.B).mono ?_
     intro e w8 h8
     obtain ⟨vt,hd,rfl,hps,hb8⟩:=HTBP.out _ _ _ h8
     have HL8:=Lib.hid (HL7.out.step hb8)
     have HVB8:=Lib.hid (HVB7.out.below hb8)
     have HLT8:=Lib.hid hps.lv
     obtain ⟨At,ct,rfl⟩:=hps.shape
     have htl:=HTL.out
     rw [htl] at HLT8 ⊢
     clear htl
     clear hb8 h8 hps HL7 HTBL HTBP c0 c1 c2 c3 c4 c5 c6 c7 c8 c9 c10 c11 cl
     have HRF8:=Lib.hid (HRF.out w8 _ HLT8.out)
     go_wp2_with fail
     refine HRF8.out.mono ?_
     rintro e w9 ⟨rfl,hb9⟩
     have HL9:=Lib.hid (HL8.out.step hb9)
     have HVB9:=Lib.hid (HVB8.out.below hb9)
     have HLT9:=Lib.hid (HLT8.out.below hb9)
     clear hb9 HL8 HLT8 HRF8 HRF
     go_upto_region 13 with fail
     go_cut [107] (fun s107 wx=>s107=.bool false∧wx=w9)
     case first=>
      rcases HFC.out.2 with ⟨rfl,rfl,rfl⟩ | ⟨m,rfl,rfl,rfl⟩
      · go_wp2_with fail;go_meet;exact ⟨rfl,rfl⟩
      · have hmz:¬(m:Int) < 0:=by omega
        have hmz2:(0:Int)≤(m:Int):=by omega
        go_wp2_with fail;go_meet;exact ⟨rfl,rfl⟩
     case rest=>
      obtain ⟨rfl,hwc⟩:=hcut
      subst hwc
      go_wp2_with fail
      refine (within13_any ln 0 300 _).mono ?_
      rintro e w10 ⟨rfl,hw10⟩
      subst hw10
      rw [hwt]
      clear hwt
      obtain ⟨m,rfl⟩:∃ m:Nat,ln=(m:Int):=⟨ln.toNat,by have:=hwin.1;omega⟩
      have hm300:m≤300:=by have:=hwin.2;omega
      rw [Int.toNat_natCast] at *
      clear hwin
      go_upto_if 126 with fail
      go_cut [14] (fun s14 wx=>s14=.int .i64 ((inD t N m (N-1)).1:Int)∧Hid (Below wc.heap.size wc wx))
      case first=>
       by_cases hmn:m < N+1
       · have hmnz:(m:Int) < (N:Int)+1:=by omega
         have HLI9:=Lib.hid (HLI.out wc _ m (by omega) HLT9.out)
         clear hmn
         generalize (inD t N m (N-1)).1=iv at *
         go_wp2_with fail
         refine HLI9.out.mono ?_
         rintro e w11 ⟨rfl,hb11⟩
         have HB11:=Lib.hid hb11
         clear hb11
         go_wp2_with fail
         go_meet
         exact ⟨rfl,HB11.out⟩
       · have hmnz:¬(m:Int) < (N:Int)+1:=by omega
         have HIV:=Lib.hid (HBG.out m (by omega))
         have HMLZ:=Lib.hid hml
         clear hmn
         go_wp2_with fail
         go_meet
         exact ⟨by rw [HIV.out,HMLZ.out],Below.refl _ _⟩
      case rest=>
       obtain ⟨rfl,HBC⟩:=hcut
       have HL11:=Lib.hid (HL9.out.step HBC.out)
       have HVB11:=Lib.hid (HVB9.out.below HBC.out)
       have hib:=HIB.out
       rw [hbl] at hib
       have hiz:¬(((inD t N m (N-1)).1:Nat):Int)=1000000000000000:=by omega
       have HRB11:=Lib.hid (HRB.out _ b _ _ HL11.out.B HPT.out HVB11.out (by omega))
       rw [hib] at HRB11 ⊢
       clear hib hiv
       generalize (inD t N m (N-1)).1=iv at *
       have hivb:((iv:Int) == 1000000000000000)=false:=by simp;exact hiz
       clear hiz
       have c0:=HL11.out.X.cell 0
       have c1:=HL11.out.X.cell 1
       have c2:=HL11.out.X.cell 2
       have c3:=HL11.out.X.cell 3
       have c4:=HL11.out.X.cell 4
       have c5:=HL11.out.X.cell 5
       have c6:=HL11.out.X.cell 6
       have c7:=HL11.out.X.cell 7
       have c8:=HL11.out.X.cell 8
       have c9:=HL11.out.X.cell 9
       have c10:=HL11.out.X.cell 10
       have c11:=HL11.out.X.cell 11
       have cl:=HL11.out.X.lt
       go_wp2_with fail
       refine HRB11.out.mono ?_
       rintro e w12 ⟨rfl,hb12⟩
       have HL12:=Lib.hid (HL11.out.step hb12)
       clear hb12 HL11 HRB11 c0 c1 c2 c3 c4 c5 c6 c7 c8 c9 c10 c11 cl
       go_wp2_with fail
       go_ret
       exact HP.out _ HL12.out.B
 · rcases hor with ⟨h0,rfl⟩ | ⟨h0,-⟩ | ⟨h0,-⟩ | ⟨h0,-⟩
   · have hfw:fw=(0,paErr f r ws):=by rw [HFE.out,if_pos hp0]
     subst hfw
     have hpb:=bne_t hp0
     clear HFE h0 hp0
     have c0:=HL5.out.Y.cell 0
     have c1:=HL5.out.Y.cell 1
     have c2:=HL5.out.Y.cell 2
     have c3:=HL5.out.Y.cell 3
     have c4:=HL5.out.Y.cell 4
     have c5:=HL5.out.Y.cell 5
     have c6:=HL5.out.Y.cell 6
     have c7:=HL5.out.Y.cell 7
     have c8:=HL5.out.Y.cell 8
     have c9:=HL5.out.Y.cell 9
     have c10:=HL5.out.Y.cell 10
     have c11:=HL5.out.Y.cell 11
     have cl:=HL5.out.Y.lt
     go_wp2_with fail
     refine HFW.out.mono ?_
     intro e w6 h6
     obtain ⟨rfl,hb6⟩:=HFWP.out _ _ h6
     have HL6:=Lib.hid (HL5.out.step hb6)
     clear hb6 h6 HFW HFWP HL5 c0 c1 c2 c3 c4 c5 c6 c7 c8 c9 c10 c11 cl
     have c0:=HL6.out.X.cell 0
     have c1:=HL6.out.X.cell 1
     have c2:=HL6.out.X.cell 2
     have c3:=HL6.out.X.cell 3
     have c4:=HL6.out.X.cell 4
     have c5:=HL6.out.X.cell 5
     have c6:=HL6.out.X.cell 6
     have c7:=HL6.out.X.cell 7
     have c8:=HL6.out.X.cell 8
     have c9:=HL6.out.X.cell 9
     have c10:=HL6.out.X.cell 10
     have c11:=HL6.out.X.cell 11
     have cl:=HL6.out.X.lt
     have HPA6:=Lib.hid (HPA.out w6 HL6.out.B)
     generalize paErr f r ws=pe at *
     go_wp2_with fail
     refine HPA6.out.mono ?_
     rintro e w7 ⟨rfl,hb7⟩
     have HL7:=Lib.hid (HL6.out.step hb7)
     clear hb7 HL6 HPA6 HPA c0 c1 c2 c3 c4 c5 c6 c7 c8 c9 c10 c11 cl
     go_wp2_with fail
     go_ret
     exact HP.out _ HL7.out.B
   · exact absurd h0 hp0
   · exact absurd h0 hp0
   · exact absurd h0 hp0
end Go.Proofs.YtbnganlfelgogaaGreat
