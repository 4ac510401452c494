/- has, isSpace, width, fountErr, first, kindsErr, sortsErr of a face; WidthOf. -/
import Derived.Test.YtbnganlfelgogaaGreatVFcs
set_option linter.unusedSimpArgs false
set_option linter.unusedVariables false
set_option maxRecDepth 100000
set_option maxHeartbeats 40000000
namespace Go.Proofs.YtbnganlfelgogaaGreat
open Go.RowKit
theorem hasF_any (f:Fnt) (v vs:Value) (s:Int) (w:World) (hv:SoV w f.sorts v) :
 Calls Tryz.prog 161 #[.agg (xfs f v vs),.int .i64 s] w fun e w'=>e=.returned (.bool (win s 0 (f.sorts.length-1)))∧Below w.heap.size w w':=by
 obtain ⟨A,b,off,c,rfl,hA,hss,hc,hc2,hsz⟩:=hv
 have hF:=Blk.new w 189 (xfs f (.slice A f.sorts.length c) vs)
 have f2:=hF.cell 2
 have HB:=Lib.hid (below_new w (.cells (xfs f (.slice A f.sorts.length c) vs) 189))
 clear hss hsz hA hF
 generalize f.sorts.length=n at *
 go_enter Tryz.func161,Tryz.ntmps161
 go_wp2_with fail
 refine (within107_any _ _ _ _).mono ?_
 rintro e w' ⟨rfl,rfl⟩
 go_wp2_with fail
 go_ret
 exact ⟨rfl,HB.out⟩
theorem isSpaceF_any (f:Fnt) (v vs:Value) (s:Int) (w:World) (hv:SoV w f.sorts v) (hs:0≤s∧s < f.sorts.length) (hm:f.sorts.length≤1000) :
 Calls Tryz.prog 154 #[.agg (xfs f v vs),.int .i64 s] w fun e w'=>e=.returned (.bool (spB f s))∧Below w.heap.size w w':=by
 obtain ⟨A,b,off,c,rfl,hA,hss,hc,hc2,hsz⟩:=hv
 obtain ⟨k,rfl⟩:=Int.eq_ofNat_of_zero_le hs.1
 have hk:k < f.sorts.length:=by omega
 obtain ⟨rfl,hbw⟩:=hA (by omega)
 obtain ⟨-,-,s2,-⟩:=hss k hk
 have HSP:Hid (spB f (k:Int)=((gs f.sorts k).kind == 3)):=rfl
 have hF:=Blk.new w 189 (xfs f (.slice (some ⟨b,off,none⟩) f.sorts.length c) vs)
 have f2:=hF.cell 2
 have hkz:(k:Int) < (f.sorts.length:Int):=by omega
 clear hss hsz hA hs hF
 generalize f.sorts.length=n at *
 generalize (gs f.sorts k).kind=kd at *
 go_enter Tryz.func154,Tryz.ntmps154
 go_wp2_with fail
 go_ret
 exact ⟨ret_bool HSP.out.symm,below_new _ _⟩
def InF (f:Fnt) (zs:List Int):Prop:=∀ j,j < zs.length→0≤gz zs j∧gz zs j < f.sorts.length
theorem widT_bound {f:Fnt} (hok:(fnErr f).2=0) {zs:List Int} (hz:InF f zs):∀ k,k≤zs.length→0≤widL f (zs.take k)∧widL f (zs.take k)≤100000*(k:Int)
 | 0,_=>by simp [widL]
 | k+1,h=>by
  have ih:=widT_bound hok hz k (by omega)
  have hw:=wd_ok hok (hz k (by omega))
  rw [widL_take (by omega)]
  constructor
  · omega
  · push_cast;omega
theorem widthF_any (f:Fnt) (v vs:Value) (zs:List Int) (vz:Value) (w:World) (hv:SoV w f.sorts v) (hok:(fnErr f).2=0) (hz:IV w zs vz) (hin:InF f zs) (hm:zs.length≤1000000) :
 Calls Tryz.prog 128 #[.agg (xfs f v vs),vz] w (IntPost (widL f zs) w):=by
 have hb0:=below_new w (.cells (xfs f v vs) 189)
 have HV0:=Lib.hid (hv.below hb0)
 have HZ0:=Lib.hid (hz.below hb0)
 have HB0:=Lib.hid hb0
 have hF:=Blk.new w 189 (xfs f v vs)
 obtain ⟨A,c,rfl⟩:=hv.shape
 obtain ⟨A1,b1,o1,c1,rfl,hA1,hz1,-,-⟩:=(hz.below hb0).open
 have f2:=hF.cell 2
 have hlt0:=hF.lt
 have hfew:=fnErr_few hok
 have HP:Hid (∀ W x,x=widL f zs→Below w.heap.size w W→IntPost (widL f zs) w (.returned (.int .i64 x)) W):=(show ∀ W x,_ from fun W x e h=>by subst e;exact ⟨rfl,h⟩)
 have HBD:=Lib.hid (widT_bound hok hin)
 have HIN:=Lib.hid hin
 have HOK:=Lib.hid hok
 have HZ1:=Lib.hid hz1
 clear hv hz hb0 hF hin hok hz1
 generalize hN:zs.length=N at *
 have HN:=Lib.hid hN
 clear hN
 go_enter Tryz.func128,Tryz.ntmps128
 go_wp2_with fail
 generalize hWq:w.alloc (.cells (xfs f (.slice A f.sorts.length c) vs) 189)=Wq at *
 go_loopg [5,7,10] N (fun gg s5 _ s10 wr=>∃ k:Nat,k≤N∧N-k≤gg∧s10=.int .i64 (k:Int)∧s5=.int .i64 (widL f (zs.take k))∧wr=Wq)
 case atStart=>exact ⟨0,by omega,by omega,rfl,by simp [widL],rfl⟩
 case round=>
  obtain ⟨k,hk,hg,rfl,rfl,rfl⟩:=hrel
  by_cases hlt:k < N
  · have hltz:(k:Int) < (N:Int):=by omega
    obtain ⟨rfl,hbl⟩:=hA1 (by omega)
    have z0:=HZ1.out k (by rw [HN.out];exact hlt)
    have hik:=HIN.out k (by rw [HN.out];exact hlt)
    obtain ⟨b,off,c',he,hbw,s3⟩:=HV0.out.width hik
    injection he with e1 e2 e3
    clear e2 e3
    subst e1
    have HT:=Lib.hid (widL_take (f:=f) (zs:=zs) (k:=k) (by rw [HN.out];exact hlt))
    have h1:=HBD.out k (by omega)
    have h2:=wd_ok HOK.out hik
    clear HZ1 HIN HOK
    generalize gz zs k=z at *
    obtain ⟨q,rfl⟩:=Int.eq_ofNat_of_zero_le hik.1
    rw [Int.toNat_natCast] at s3
    generalize wd f (q:Int)=wq at *
    generalize widL f (zs.take k)=sm at *
    go_wp2_with fail
    go_roundg (N-(k+1))
    case measure=>omega
    case rel=>exact ⟨k+1,by omega,by omega,by go_num,by rw [HT.out],rfl⟩
  · have hltz:¬(k:Int) < (N:Int):=by omega
    have hkn:k=N:=by omega
    have HX:Hid (widL f (zs.take k)=widL f zs):=(by show _=_;rw [List.take_of_length_le (by rw [HN.out];omega)])
    clear f2
    generalize widL f (zs.take k)=sm at *
    go_wp2_with fail
    go_ret
    exact HP.out _ _ HX.out HB0.out
theorem fountErr_any (f:Fnt) (v:Value) (w:World) (hv:SoV w f.sorts v) (hn:f.name.size≤9223372036854775807):Calls Tryz.prog 152 #[.agg (fcs f v)] w (IntPost (fnErr f).2 w):=by
 have hb0:=below_new w (.cells (fcs f v) 24)
 have HC:=Lib.hid (checkFount_any f v _ (hv.below hb0) hn)
 have hF:=Blk.new w 24 (fcs f v)
 have f0:=hF.cell 0
 have f1:=hF.cell 1
 have f2:=hF.cell 2
 have HB:=Lib.hid hb0
 clear hF hb0 hv hn
 go_enter Tryz.func152,Tryz.ntmps152
 go_wp2_with fail
 refine HC.out.mono ?_
 rintro e w1 ⟨rfl,hb⟩
 have HB1:=Lib.hid (HB.out.trans (hb.mono (by simp)))
 clear hb f0 f1 f2
 go_wp2_with fail
 go_ret
 exact ⟨rfl,HB1.out⟩
theorem field116 (s:ByteArray) (n:Int) (A1 A2:Option Addr) (l1 c1 l2 c2:Nat) (w:World):(Instr.field 189 (.agg #[.string s,.int .i64 n,.slice A1 l1 c1,.slice A2 l2 c2]) 1).run Tryz.prog w=.ok (.slice A2 l2 c2) w:=by kernel_rfl
def kiErr (f:Fnt):Int:=if 8 < (spl f.sorts f.sorts.length).length then 8 else 0
theorem kindsErr_any (f:Fnt) (v:Value) (w:World) (hv:SoV w f.sorts v) (hm:f.sorts.length≤100000):Calls Tryz.prog 157 #[.agg (fcs f v)] w (IntPost (kiErr f) w):=by
 have hb0:=below_new w (.cells (fcs f v) 24)
 have HC:=Lib.hid (faceOf_any f v _ (hv.below hb0) hm)
 have hF:=Blk.new w 24 (fcs f v)
 have f0:=hF.cell 0
 have f1:=hF.cell 1
 have f2:=hF.cell 2
 have HB:=Lib.hid hb0
 obtain ⟨Av,cv,rfl⟩:=hv.shape
 have hle:=spl_len f.sorts f.sorts.length
 have HP:Hid (∀ W x,x=kiErr f→Below w.heap.size w W→IntPost (kiErr f) w (.returned (.int .i64 x)) W):=(show ∀ W x,_ from fun W x e h=>by subst e;exact ⟨rfl,h⟩)
 have HE:Hid (kiErr f=if 8 < (spl f.sorts f.sorts.length).length then 8 else 0):=rfl
 clear hF hb0 hv
 generalize hzs:spl f.sorts f.sorts.length=zs at *
 have HZS:=Lib.hid hzs
 clear hzs
 go_enter Tryz.func157,Tryz.ntmps157
 go_wp2_with fail
 refine HC.out.mono ?_
 rintro e w1 ⟨vs,rfl,hio,hb⟩
 obtain ⟨A,c,rfl⟩:=hio.shape
 rw [show (spl f.sorts f.sorts.length)=zs from HZS.out]
 have HB1:=Lib.hid (HB.out.trans (hb.mono (by simp)))
 have hfd:=field116 f.name f.body Av A f.sorts.length cv zs.length c
 clear hb f0 f1 f2 hio
 by_cases hq:8 < zs.length
 · have hqz:(8:Int) < (zs.length:Int):=by omega
   have HX:=Lib.hid (HE.out.trans (if_pos hq))
   go_wp2_with fail
   go_ret
   exact HP.out _ _ HX.out.symm HB1.out
 · have hqz:¬(8:Int) < (zs.length:Int):=by omega
   have HX:=Lib.hid (HE.out.trans (if_neg hq))
   go_wp2_with fail
   go_ret
   exact HP.out _ _ HX.out.symm HB1.out
end Go.Proofs.YtbnganlfelgogaaGreat
namespace Go.Proofs.YtbnganlfelgogaaGreat
open Go.RowKit
def srtErr (f:Fnt) (s:Int) (sp:Bool):Int:=if win s 0 (f.sorts.length-1)=false then 6 else if spB f s=sp then 0 else 15
def lstErr (f:Fnt) (zs:List Int) (sp:Bool):Int:=(fstE (fun j=>srtErr f (gz zs j) sp) zs.length).2
theorem sortsErr_any (f:Fnt) (v vs:Value) (zs:List Int) (vz:Value) (sp:Bool) (w:World) (hv:SoV w f.sorts v) (hz:IV w zs vz) (hm:zs.length≤1000000) (hf:f.sorts.length≤1000) :
 Calls Tryz.prog 158 #[.agg (xfs f v vs),vz,.bool sp] w (IntPost (lstErr f zs sp) w):=by
 have hb0:=below_new w (.cells (xfs f v vs) 189)
 have HV0:=Lib.hid (hv.below hb0)
 have HB0:=Lib.hid hb0
 have hF:=Blk.new w 189 (xfs f v vs)
 have HF:=Lib.hid hF
 obtain ⟨A1,b1,o1,c1,rfl,hA1,hz1,-,-⟩:=(hz.below hb0).open
 have HP:Hid (∀ W x,x=lstErr f zs sp→Below w.heap.size w W→IntPost (lstErr f zs sp) w (.returned (.int .i64 x)) W):=(show ∀ W x,_ from fun W x e h=>by subst e;exact ⟨rfl,h⟩)
 have HX:Hid (lstErr f zs sp=(fstE (fun j=>srtErr f (gz zs j) sp) zs.length).2):=rfl
 have HA:=Lib.hid hA1
 have HZ:=Lib.hid hz1
 clear hv hz hb0 hF hA1 hz1
 generalize hN:zs.length=N at *
 have HN:=Lib.hid hN
 clear hN
 go_enter Tryz.func158,Tryz.ntmps158
 go_wp2_with fail
 generalize hWq:w.alloc (.cells (xfs f v vs) 189)=Wq at *
 clear hWq
 go_loopg [8,11] N (fun gg _ s11 wr=>∃ k:Nat,k≤N∧N-k≤gg∧s11=.int .i64 (k:Int)∧Hid (Below Wq.heap.size Wq wr)∧Hid (∀ j,j < k→srtErr f (gz zs j) sp=0))
 case atStart=>exact ⟨0,by omega,by omega,rfl,Below.refl _ _,fun j hj=>absurd hj (Nat.not_lt_zero _)⟩
 case round=>
  obtain ⟨k,hk,hg,rfl,HR,HO⟩:=hrel
  have g0:=(HF.out.below HR.out HF.out.lt).cell 0
  have g1:=(HF.out.below HR.out HF.out.lt).cell 1
  have g2:=(HF.out.below HR.out HF.out.lt).cell 2
  have g3:=(HF.out.below HR.out HF.out.lt).cell 3
  have hgl:=(HF.out.below HR.out HF.out.lt).lt
  by_cases hlt:k < N
  · have hltz:(k:Int) < (N:Int):=by omega
    obtain ⟨rfl,hbl⟩:=HA.out (by omega)
    have hz:=(HR.out.cell (p:=⟨b1,o1+k,none⟩) hbl).trans (HZ.out k (by rw [HN.out];exact hlt))
    have hbl':b1 < wr.heap.size:=Nat.lt_of_lt_of_le hbl HR.out.size
    have HVR:=Lib.hid (HV0.out.below HR.out)
    have HE:Hid (srtErr f (gz zs k) sp=if win (gz zs k) 0 (f.sorts.length-1)=false then 6 else if spB f (gz zs k)=sp then 0 else 15):=rfl
    have HFX:Hid (srtErr f (gz zs k) sp≠0→lstErr f zs sp=srtErr f (gz zs k) sp):=(show _→_ from fun h=>HX.out.trans (by rw [fstE_hit (g:=fun j=>srtErr f (gz zs j) sp) h HO.out hlt]))
    have HOX:Hid (srtErr f (gz zs k) sp=0→∀ j,j < k+1→srtErr f (gz zs j) sp=0):=(show _→_ from fun h j hj=>by
     by_cases e:j=k
     · subst e;exact h
     · exact HO.out j (by omega))
    generalize gz zs k=z at *
    have HH:=Lib.hid (hasF_any f v vs z wr HVR.out)
    cases hw:win z 0 (f.sorts.length-1) with
    | false=>
     have HE2:=Lib.hid (HE.out.trans (if_pos hw))
     rw [hw] at HH
     clear hw
     go_wp2_with fail
     refine HH.out.mono ?_
     rintro e w2 ⟨rfl,hb2⟩
     have HB2:=Lib.hid (HB0.out.trans ((HR.out.trans (hb2.mono HR.out.size)).mono HB0.out.size))
     clear hb2 g0 g1 g2 g3 hz
     go_wp2_with fail
     go_ret
     exact HP.out _ _ (by rw [HFX.out (by rw [HE2.out];decide),HE2.out]) HB2.out
    | true=>
     have hzr:0≤z∧z < f.sorts.length:=by
      have:=of_decide_eq_true (show decide _=true from hw)
      omega
     have HZR:=Lib.hid hzr
     have HE2:=Lib.hid (HE.out.trans (if_neg (by rw [hw];simp)))
     rw [hw] at HH
     clear hw hzr HE
     go_wp2_with fail
     refine HH.out.mono ?_
     rintro e w2 ⟨rfl,hb2⟩
     have HIS:=Lib.hid (isSpaceF_any f v vs z w2 (HVR.out.below hb2) HZR.out hf)
     have g0':=(hb2.cell (p:=⟨w.heap.size,0,none⟩) hgl).trans g0
     have g1':=(hb2.cell (p:=⟨w.heap.size,1,none⟩) hgl).trans g1
     have g2':=(hb2.cell (p:=⟨w.heap.size,2,none⟩) hgl).trans g2
     have g3':=(hb2.cell (p:=⟨w.heap.size,3,none⟩) hgl).trans g3
     have hgl2:=Nat.lt_of_lt_of_le hgl hb2.size
     have HR2:=Lib.hid (HR.out.trans (hb2.mono HR.out.size))
     clear hb2 g0 g1 g2 g3 hz
     cases hq:decide (spB f z=sp) with
     | true=>
      have hs:=of_decide_eq_true hq
      have HE3:=Lib.hid (HE2.out.trans (if_pos hs))
      have hne:(spB f z == sp)=true:=beq_iff_eq.2 hs
      clear hq hs HE2
      generalize spB f z=bb at *
      go_wp2_with fail
      refine HIS.out.mono ?_
      rintro e w3 ⟨rfl,hb3⟩
      have HR3:=Lib.hid (HR2.out.trans (hb3.mono HR2.out.size))
      clear hb3 g0' g1' g2' g3'
      go_wp2_with fail
      go_roundg (N-(k+1))
      case measure=>omega
      case rel=>exact ⟨k+1,by omega,by omega,by go_num,HR3.out,HOX.out HE3.out⟩
     | false=>
      have hs:=of_decide_eq_false hq
      have HE3:=Lib.hid (HE2.out.trans (if_neg hs))
      have hne:(spB f z == sp)=false:=beq_eq_false_iff_ne.2 hs
      clear hq hs HE2
      generalize spB f z=bb at *
      go_wp2_with fail
      refine HIS.out.mono ?_
      rintro e w3 ⟨rfl,hb3⟩
      have HB3:=Lib.hid (HB0.out.trans ((HR2.out.trans (hb3.mono HR2.out.size)).mono HB0.out.size))
      clear hb3 g0' g1' g2' g3'
      go_wp2_with fail
      go_ret
      exact HP.out _ _ (by rw [HFX.out (by rw [HE3.out];decide),HE3.out]) HB3.out
  · have hltz:¬(k:Int) < (N:Int):=by omega
    have hkn:k=N:=by omega
    have HXX:Hid (lstErr f zs sp=0):=HX.out.trans (by rw [fstE_none (n:=N) (by rw [←hkn];exact HO.out)])
    go_wp2_with fail
    go_ret
    exact HP.out _ _ HXX.out.symm (HB0.out.trans (HR.out.mono HB0.out.size))
end Go.Proofs.YtbnganlfelgogaaGreat
