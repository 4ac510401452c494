/- ref.AtErr and ref.FormErr; paragraph.Places. -/
import Derived.Test.YtbnganlfelgogaaGreatVLns
import Derived.Test.YtbnganlfelgogaaGreatVFcf
import Derived.Test.YtbnganlfelgogaaGreatVLwa
set_option linter.unusedSimpArgs false
set_option linter.unusedVariables false
set_option maxRecDepth 100000
set_option maxHeartbeats 40000000
namespace Go.Proofs.YtbnganlfelgogaaGreat
open Go.RowKit
def atE (ws:List PWord) (a b:Int):Int:=if win a 0 (((places ws).length:Int)-1)=false∨win b 0 (((places ws).length:Int)-1)=false then 6 else if b≤a then 9 else 0
theorem refAt_any (ns:Nat) (ws:List PWord) (vw:Value) (a b:Int) (w:World) (hw:WoV w ws vw) (hok:WsOk ns ws) (hm:ws.length≤200) (hm3:(places ws).length≤300) :
 Calls Tryz.prog 59 #[vw,.agg #[.int .i64 a,.int .i64 b]] w (IntPost (atE ws a b) w):=by
 have hb0:=below_new w (.cells #[.int .i64 a,.int .i64 b] 70)
 have HB0:=Lib.hid hb0
 have HK0:=Lib.hid (Blk.new w 70 #[.int .i64 a,.int .i64 b])
 have HW:=Lib.hid (hw.below hb0)
 obtain ⟨Aw,cw,rfl,-⟩:=hw.shape
 have HOK:=Lib.hid hok
 have HP:Hid (∀ W x,x=atE ws a b→Below w.heap.size w W→IntPost (atE ws a b) w (.returned (.int .i64 x)) W):=(show ∀ W x,_ from fun W x e h=>by subst e;exact ⟨rfl,h⟩)
 have HE:Hid (atE ws a b=if win a 0 (((places ws).length:Int)-1)=false∨win b 0 (((places ws).length:Int)-1)=false then 6 else if b≤a then 9 else 0):=rfl
 clear hw hb0 hok
 go_enter Tryz.func59,Tryz.ntmps59
 go_upto_region 1 with fail
 generalize w.alloc (.cells #[.int .i64 a,.int .i64 b] 70)=W0 at *
 go_wp2_with fail
 refine (refPlaces_any ns ws _ W0 HW.out HOK.out hm).mono ?_
 rintro e W1 ⟨vp,rfl,hpl,hb1,-⟩
 obtain ⟨Ap,cp,rfl,-,-⟩:=hpl.shape
 have hk1:=HK0.out.below hb1 HK0.out.lt
 have HB1:=Lib.hid (HB0.out.trans (hb1.mono HB0.out.size))
 have k0:=hk1.cell 0
 have k1:=hk1.cell 1
 have kl:=hk1.lt
 clear hpl hb1 hk1 HK0 HB0 HW
 generalize (places ws).length=N at *
 go_wp2_with fail
 refine (within13_any a 0 ((N:Int)-1) _).mono ?_
 rintro e w3 ⟨rfl,hw3⟩
 subst hw3
 cases ha:win a 0 ((N:Int)-1) with
 | false=>
  have HF:Hid (6=atE ws a b):=by show _=_;rw [HE.out,if_pos (.inl ha)]
  go_wp2_with fail
  go_ret
  exact HP.out _ _ HF.out HB1.out
 | true=>
  go_wp2_with fail
  refine (within13_any b 0 ((N:Int)-1) _).mono ?_
  rintro e w3 ⟨rfl,hw3⟩
  subst hw3
  cases hb:win b 0 ((N:Int)-1) with
  | false=>
   have HF:Hid (6=atE ws a b):=by show _=_;rw [HE.out,if_pos (.inr hb)]
   go_wp2_with fail
   go_ret
   exact HP.out _ _ HF.out HB1.out
  | true=>
   have HE2:Hid (atE ws a b=if b≤a then 9 else 0):=by show _=_;rw [HE.out,if_neg (by rw [ha,hb];decide)]
   clear ha hb
   by_cases hab:b≤a
   · have HF:Hid (9=atE ws a b):=by show _=_;rw [HE2.out,if_pos hab]
     go_wp2_with fail
     go_ret
     exact HP.out _ _ HF.out HB1.out
   · have HF:Hid (0=atE ws a b):=by show _=_;rw [HE2.out,if_neg hab]
     go_wp2_with fail
     go_ret
     exact HP.out _ _ HF.out HB1.out
theorem refForm_any (ns:Nat) (ws:List PWord) (vw:Value) (bs:List Int) (vb:Value) (w:World) (hw:WoV w ws vw) (hok:WsOk ns ws) (hm:ws.length≤200) (hm3:(places ws).length≤300) (hb:IV w bs vb) (hbm:bs.length≤1000000) :
 Calls Tryz.prog 49 #[vw,vb] w (IntPost (cpErr (((places ws).length-1:Nat):Int) bs) w):=by
 obtain ⟨Aw,cw,rfl,-⟩:=hw.shape
 obtain ⟨Ab,bb,ob,cb,rfl,hA,hz,-,-⟩:=hb.open
 have HW:=Lib.hid hw
 have HOK:=Lib.hid hok
 have HA:=Lib.hid hA
 have HZ:=Lib.hid hz
 have hpos:=places_pos ws
 obtain ⟨last,hl⟩:∃ x,(((places ws).length-1:Nat):Int)=x:=⟨_,rfl⟩
 rw [hl]
 have hl2:((places ws).length:Int)-1=last:=by omega
 have hlm:0≤last∧last≤300:=by omega
 have HL:=Lib.hid hl2
 have HP:Hid (∀ W x,x=cpErr last bs→Below w.heap.size w W→IntPost (cpErr last bs) w (.returned (.int .i64 x)) W):=(show ∀ W x,_ from fun W x e h=>by subst e;exact ⟨rfl,h⟩)
 have HHIT:Hid (∀ j x,j < bs.length→(∀ i,i < j→ckE last bs i=0)→ckE last bs j=x→x≠0→cpErr last bs=x):=(show ∀ j x,_ from fun j x hj h0 hx hn=>cpErr_hit hj h0 hx hn)
 have HEND:Hid ((∀ i,i < bs.length→ckE last bs i=0)→cpErr last bs=if befB bs bs.length≠last then 10 else 0):=(show _→_ from cpErr_end)
 have HCK:Hid (∀ j,ckE last bs j=if win (gz bs j) 0 last=false then 6 else if gz bs j≤befB bs j then 9 else 0):=(show ∀ j,_ from fun _=>rfl)
 clear hw hok hA hz hb hl hl2
 generalize hN:bs.length=N at *
 have HN:=Lib.hid hN
 clear hN
 go_enter Tryz.func49,Tryz.ntmps49
 go_wp2_with fail
 refine (refPlaces_any ns ws _ w HW.out HOK.out hm).mono ?_
 rintro e W1 ⟨vp,rfl,hpl,hb1,-⟩
 obtain ⟨Ap,cp,rfl,-,-⟩:=hpl.shape
 have HB1:=Lib.hid hb1
 clear hpl hb1 HW HOK
 go_wp2_with fail
 go_loopg [6] N (fun gg s6 wr=>∃ k:Nat,k≤N∧N-k≤gg∧s6=.int .i64 (k:Int)∧Hid (Below w.heap.size w wr)∧Hid (∀ i,i < k→ckE last bs i=0))
 case atStart=>exact ⟨0,by omega,by omega,rfl,HB1.out,fun i hi=>by omega⟩
 case round=>
  obtain ⟨k,hk,hg,rfl,HB,H0⟩:=hrel
  by_cases hlt:k < N
  · have hltz:(k:Int) < (N:Int):=by omega
    obtain ⟨rfl,hbl0⟩:=HA.out (by omega)
    have hbl:bb < wr.heap.size:=Nat.lt_of_lt_of_le hbl0 HB.out.size
    have z0:=(HB.out.cell (p:=⟨bb,ob+k,none⟩) hbl0).trans (HZ.out k (by rw [HN.out];exact hlt))
    have HCK1:=Lib.hid (HCK.out k)
    have hlr:=HL.out
    go_wp2_with fail
    refine (within13_any (gz bs k) 0 last _).mono ?_
    rintro e w3 ⟨rfl,hw3⟩
    subst hw3
    cases hwi:win (gz bs k) 0 last with
    | false=>
     have HF:Hid (6=cpErr last bs):=(HHIT.out k 6 hlt H0.out (by rw [HCK1.out,if_pos hwi]) (by decide)).symm
     go_wp2_with fail
     go_ret
     exact HP.out _ _ HF.out HB.out
    | true=>
     have hge:=(win_t.1 hwi).1
     have HCK2:Hid (ckE last bs k=if gz bs k≤befB bs k then 9 else 0):=by show _=_;rw [HCK1.out,if_neg (by rw [hwi];decide)]
     clear hwi HCK1 hlr
     have HST:Hid (ckE last bs k=0→∀ i,i < k+1→ckE last bs i=0):=(show _→_ from fun h i hi=>by
      by_cases e:i=k
      · rw [e];exact h
      · exact H0.out i (by omega))
     have hbr:0 < k→wr.cell? ⟨bb,ob+(k-1),none⟩=some (.int .i64 (gz bs (k-1))):=fun h=>(HB.out.cell (p:=⟨bb,ob+(k-1),none⟩) hbl0).trans (HZ.out (k-1) (by rw [HN.out];omega))
     cases k with
     | zero=>
      have HBF:Hid (befB bs 0=0):=rfl
      rw [Nat.add_zero] at z0
      by_cases hz0:gz bs 0=0
      · have HF:Hid (9=cpErr last bs):=(HHIT.out 0 9 hlt H0.out (by rw [HCK2.out,HBF.out,if_pos (by omega)]) (by decide)).symm
        rw [hz0] at z0
        clear hbr hge
        go_wp2_with fail
        go_quiet (fail)
        have HB2:=Lib.hid (HB.out.trans ((below_drewN wr nq).mono HB.out.size))
        go_wp2_with fail
        go_ret
        exact HP.out _ _ HF.out HB2.out
      · have HZR:Hid (ckE last bs 0=0):=by show _=_;rw [HCK2.out,HBF.out,if_neg (by omega)]
        have hzb:(gz bs 0 == 0)=false:=by simp [hz0]
        clear hbr hz0
        go_wp2_with fail
        go_quiet (fail)
        have HB2:=Lib.hid (HB.out.trans ((below_drewN wr nq).mono HB.out.size))
        go_wp2_with fail
        go_roundg (N-(0+1))
        case measure=>omega
        case rel=>exact ⟨0+1,by omega,by omega,by go_num,HB2.out,HST.out HZR.out⟩
     | succ q=>
      have z1:=hbr (by omega)
      rw [Nat.add_sub_cancel] at z1
      have HBF:Hid (befB bs (q+1)=gz bs q):=rfl
      have hqz:((q:Int)+1 == 0)=false:=by simp;omega
      have hqp:(0:Int) < (q:Int)+1:=by omega
      have hqN:(q:Int) < (N:Int):=by omega
      by_cases hle:gz bs (q+1)≤gz bs q
      · have HF:Hid (9=cpErr last bs):=(HHIT.out (q+1) 9 hlt H0.out (by rw [HCK2.out,HBF.out,if_pos hle]) (by decide)).symm
        clear hbr
        go_wp2_with fail
        go_quiet (fail)
        have HB2:=Lib.hid (HB.out.trans ((below_drewN wr nq).mono HB.out.size))
        go_wp2_with fail
        go_ret
        exact HP.out _ _ HF.out HB2.out
      · have HZR:Hid (ckE last bs (q+1)=0):=by show _=_;rw [HCK2.out,HBF.out,if_neg hle]
        clear hbr
        go_wp2_with fail
        go_quiet (fail)
        have HB2:=Lib.hid (HB.out.trans ((below_drewN wr nq).mono HB.out.size))
        go_wp2_with fail
        go_roundg (N-(q+1+1))
        case measure=>omega
        case rel=>exact ⟨q+1+1,by omega,by omega,by go_num,HB2.out,HST.out HZR.out⟩
  · have hltz:¬(k:Int) < (N:Int):=by omega
    have hkn:k=N:=by omega
    have HE2:Hid (cpErr last bs=if befB bs N≠last then 10 else 0):=HEND.out (fun i hi=>H0.out i (by omega))
    have hlr:=HL.out
    clear hkn hlt hg hk H0
    cases N with
    | zero=>
     have HBF:Hid (befB bs 0=0):=rfl
     by_cases hl0:last=0
     · have HF:Hid (0=cpErr last bs):=by show _=_;rw [HE2.out,if_neg (by rw [HBF.out];omega)]
       have hbb:((0:Int) != last)=false:=bne_f hl0.symm
       clear hl0
       go_wp2_with fail
       go_ret
       exact HP.out _ _ HF.out HB.out
     · have HF:Hid (10=cpErr last bs):=by show _=_;rw [HE2.out,if_pos (by rw [HBF.out];omega)]
       have hbb:((0:Int) != last)=true:=bne_t (by omega)
       clear hl0
       go_wp2_with fail
       go_ret
       exact HP.out _ _ HF.out HB.out
    | succ q=>
     obtain ⟨rfl,hbl0⟩:=HA.out (by omega)
     have hbl:bb < wr.heap.size:=Nat.lt_of_lt_of_le hbl0 HB.out.size
     have z0:=(HB.out.cell (p:=⟨bb,ob+q,none⟩) hbl0).trans (HZ.out q (by rw [HN.out];omega))
     have HBF:Hid (befB bs (q+1)=gz bs q):=rfl
     have hqp:(0:Int) < (q:Int)+1:=by omega
     have hqN:(q:Int) < (q:Int)+1:=by omega
     by_cases hl0:gz bs q=last
     · have HF:Hid (0=cpErr last bs):=by show _=_;rw [HE2.out,if_neg (by rw [HBF.out];omega)]
       have hbb:(gz bs q != last)=false:=bne_f hl0
       clear hl0
       go_wp2_with fail
       go_ret
       exact HP.out _ _ HF.out HB.out
     · have HF:Hid (10=cpErr last bs):=by show _=_;rw [HE2.out,if_pos (by rw [HBF.out];omega)]
       have hbb:(gz bs q != last)=true:=bne_t hl0
       clear hl0
       go_wp2_with fail
       go_ret
       exact HP.out _ _ HF.out HB.out
end Go.Proofs.YtbnganlfelgogaaGreat
