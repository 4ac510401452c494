/- gaps, wanted, wide of a set line. -/
import Derived.Test.YtbnganlfelgogaaGreatVLne
set_option linter.unusedSimpArgs false
set_option linter.unusedVariables false
set_option maxRecDepth 100000
set_option maxHeartbeats 40000000
namespace Go.Proofs.YtbnganlfelgogaaGreat
open Go.RowKit
theorem gaps_any (i j room:Int) (ends:Bool) (A:Option Addr) (n c:Nat) (w:World) (hn:n≤100000) :
 Calls Tryz.prog 140 #[.agg (lcs i j (.slice A n c) room ends)] w fun e w'=>e=.returned (.int .i64 ((n:Int)-1))∧Below w.heap.size w w':=by
 have hb:=below_new w (.cells (lcs i j (.slice A n c) room ends) 155)
 have HB:=Lib.hid hb
 clear hb
 go_enter Tryz.func140,Tryz.ntmps140
 go_wp2_with fail
 go_ret
 exact ⟨rfl,HB.out⟩
theorem wanted_any (i j room:Int) (ends:Bool) (A:Option Addr) (n c pb sb so sn sc g:Nat) (wx:Int) (w:World) (hn:n≤100000) (hl1:pb < w.heap.size) (hl2:sb < w.heap.size)
 (z2:w.cell? ⟨pb,2,none⟩=some (.slice (some ⟨sb,so,none⟩) sn sc)) (z7:w.cell? ⟨pb,7,none⟩=some (.int .i64 (g:Int))) (hg:g < sn) (zw:w.cell? ⟨sb,so+g*4+3,none⟩=some (.int .i64 wx)) (hw:1≤wx∧wx≤100000) (hns:sn≤1000) :
 Calls Tryz.prog 141 #[.pointer (some ⟨pb,0,none⟩),.agg (lcs i j (.slice A n c) room ends)] w fun e w'=>e=.returned (.int .i64 (((n:Int)-1)*wx))∧Below w.heap.size w w':=by
 have hb:=below_new w (.cells (lcs i j (.slice A n c) room ends) 155)
 have HB:=Lib.hid hb
 have hB:=Blk.new w 155 (lcs i j (.slice A n c) room ends)
 have HG:=Lib.hid (fun W=>gaps_any i j room ends A n c W hn)
 have hgz:(g:Int) < (sn:Int):=by omega
 have hsz:(w.alloc (.cells (lcs i j (.slice A n c) room ends) 155)).heap.size=w.heap.size+1:=by simp
 have c2:=(hb.cell (p:=⟨pb,2,none⟩) hl1).trans z2
 have c7:=(hb.cell (p:=⟨pb,7,none⟩) hl1).trans z7
 have cw:=(hb.cell (p:=⟨sb,so+g*4+3,none⟩) hl2).trans zw
 have b0:=hB.cell 0
 have b1:=hB.cell 1
 have b2:=hB.cell 2
 have b3:=hB.cell 3
 have b4:=hB.cell 4
 have hm1:-1*wx≤((n:Int)-1)*wx:=Int.mul_le_mul_of_nonneg_right (by omega) (by omega)
 have hm2:((n:Int)-1)*wx≤100000*100000:=Int.mul_le_mul (by omega) (by omega) (by omega) (by omega)
 have HWR:Hid (IntKind.i64.wrap (((n:Int)-1)*wx)=((n:Int)-1)*wx):=IntWalk.i64_in _ (by omega)
 clear z2 z7 zw hB hb
 go_enter Tryz.func141,Tryz.ntmps141
 go_upto_region 1 with fail
 generalize w.alloc (.cells (lcs i j (.slice A n c) room ends) 155)=W at *
 have H1:=Lib.hid (fun W' (h:Below W.heap.size W W')=>(show (W'.cell? ⟨pb,2,none⟩=some (.slice (some ⟨sb,so,none⟩) sn sc)∧W'.cell? ⟨pb,7,none⟩=some (.int .i64 (g:Int))∧W'.cell? ⟨sb,so+g*4+3,none⟩=some (.int .i64 wx)∧Below W.heap.size W W')∧(W'.cell? ⟨w.heap.size,0,none⟩=some (.int .i64 i)∧W'.cell? ⟨w.heap.size,1,none⟩=some (.int .i64 j)∧W'.cell? ⟨w.heap.size,2,none⟩=some (.slice A n c)∧W'.cell? ⟨w.heap.size,3,none⟩=some (.int .i64 room)∧W'.cell? ⟨w.heap.size,4,none⟩=some (.bool ends)) from
  ⟨⟨(h.cell (p:=⟨pb,2,none⟩) (by show pb < _;omega)).trans c2,(h.cell (p:=⟨pb,7,none⟩) (by show pb < _;omega)).trans c7,(h.cell (p:=⟨sb,so+g*4+3,none⟩) (by show sb < _;omega)).trans cw,h⟩,
    ⟨(h.cell (p:=⟨w.heap.size,0,none⟩) (by show w.heap.size < _;omega)).trans b0,(h.cell (p:=⟨w.heap.size,1,none⟩) (by show w.heap.size < _;omega)).trans b1,(h.cell (p:=⟨w.heap.size,2,none⟩) (by show w.heap.size < _;omega)).trans b2,(h.cell (p:=⟨w.heap.size,3,none⟩) (by show w.heap.size < _;omega)).trans b3,(h.cell (p:=⟨w.heap.size,4,none⟩) (by show w.heap.size < _;omega)).trans b4⟩⟩))
 have h0:=H1.out W.drew (Below.refl _ _).drew
 go_wp2_with fail
 go_region_held3 (fun W'=>(W'.cell? ⟨pb,2,none⟩=some (.slice (some ⟨sb,so,none⟩) sn sc)∧W'.cell? ⟨pb,7,none⟩=some (.int .i64 (g:Int))∧W'.cell? ⟨sb,so+g*4+3,none⟩=some (.int .i64 wx)∧Below W.heap.size W W')∧(W'.cell? ⟨w.heap.size,0,none⟩=some (.int .i64 i)∧W'.cell? ⟨w.heap.size,1,none⟩=some (.int .i64 j)∧W'.cell? ⟨w.heap.size,2,none⟩=some (.slice A n c)∧W'.cell? ⟨w.heap.size,3,none⟩=some (.int .i64 room)∧W'.cell? ⟨w.heap.size,4,none⟩=some (.bool ends)))
  (first
   | exact h0
   | exact H1.out _ hb4)
  ((go_at_call 140;(with_reducible refine (HG.out _).mono ?_);rintro e w4 ⟨rfl,hb4'⟩;have hb4:Below W.heap.size W w4:=(Below.refl W.heap.size W).drew.trans hb4'))
 go_wp2_with fail
 go_ret
 exact ⟨(show Ending.returned (.int .i64 (IntKind.i64.wrap (((n:Int)-1)*wx)))=_ from by rw [HWR.out]),HB.out.trans (hb4.mono (by omega))⟩
theorem beq_dec (a b:Int):decide (a=b)=(a == b):=by rw [Bool.eq_iff_iff];simp
theorem longB_snoc {ps:List (List Int)} {k:Nat} (h:k < ps.length):longB (ps.take (k+1))=(longB (ps.take k) || decide (60 < (gl ps k).length)):=by
 unfold longB
 rw [List.take_succ_eq_append_getElem h,List.any_append]
 simp [gl,List.getD_eq_getElem?_getD,h]
theorem longB_of {ps:List (List Int)} {k:Nat} (h:k < ps.length) (hk:60 < (gl ps k).length):longB ps=true:=by
 have h1:=longB_snoc h
 have:longB (ps.take (k+1))=true:=by rw [h1];simp [hk]
 unfold longB at this ⊢
 rw [List.any_eq_true] at this ⊢
 obtain ⟨x,hx,hp⟩:=this
 exact ⟨x,List.mem_of_mem_take hx,hp⟩
theorem lenS_sum (ps:List (List Int)):sumL ps ps.length=lenS ps:=by unfold sumL lenS;rw [List.take_length]
theorem wide_any (i j:Int) (l:Ln) (vps:Value) (w:World) (hl:LV w l.ps vps) (h1:l.ps.length≤1000) (h2:lenS l.ps≤100000) :
 Calls Tryz.prog 150 #[.agg (lcs i j vps l.room l.ends)] w fun e w'=>e=.returned (.bool (wideB l))∧Below w.heap.size w w':=by
 have HV:=Lib.hid hl
 obtain ⟨A,c,rfl,-,-⟩:=hl.shape
 have HSM:Hid (∀ k,k≤l.ps.length→sumL l.ps k≤lenS l.ps):=(show ∀ k,_ from fun k=>sumL_mono)
 have HSS:Hid (∀ k,k < l.ps.length→sumL l.ps (k+1)=sumL l.ps k+(gl l.ps k).length):=(show ∀ k,_ from fun k=>sumL_succ)
 have HSE:Hid (sumL l.ps l.ps.length=lenS l.ps):=lenS_sum _
 have HW:Hid (wideB l=decide (30 < l.ps.length∨189 < lenS l.ps)):=rfl
 have HS0:Hid (sumL l.ps 0=0):=rfl
 have hb:=below_new w (.cells (lcs i j (.slice A l.ps.length c) l.room l.ends) 155)
 have hB:=Blk.new w 155 (lcs i j (.slice A l.ps.length c) l.room l.ends)
 have hB2:=hB.cell 2
 have hBl:=hB.lt
 have HB:=Lib.hid hb
 clear hl hb hB
 generalize hn:l.ps.length=n at *
 have HN:=Lib.hid hn
 generalize lenS l.ps=T at *
 clear hn
 go_enter Tryz.func150,Tryz.ntmps150
 go_wp2_with fail
 generalize w.alloc (.cells (lcs i j (.slice A n c) l.room l.ends) 155)=W at *
 go_loopg [9,3,5] n (fun gg s9 s3 _ wr=>∃ k:Nat,k≤n∧n-k≤gg∧s9=.int .i64 k∧s3=.int .i64 (sumL l.ps k)∧W=wr)
 case atStart=>exact ⟨0,by omega,by omega,rfl,by rw [HS0.out];rfl,rfl⟩
 case round=>
  obtain ⟨k,hk,hg,rfl,rfl,rfl⟩:=hrel
  have hsk:=HSM.out k hk
  by_cases hlt:k < n
  · have hltz:(k:Int) < (n:Int):=by omega
    have hV:=HV.out.below HB.out
    rw [←HN.out] at hV
    obtain ⟨b,off,A',b',o',c',rfl,hbw,hc,-,-⟩:=hV.at (k:=k) (by rw [HN.out];exact hlt)
    have HS1:=Lib.hid (HSS.out k hlt)
    have hs1:=HSM.out (k+1) (by omega)
    rw [HS1.out] at hs1
    clear hV
    generalize (gl l.ps k).length=m at *
    generalize sumL l.ps k=s at *
    go_wp2_with fail
    go_roundg (n-(k+1))
    case measure=>omega
    case rel=>exact ⟨k+1,by omega,by omega,by go_num,by rw [HS1.out];go_num,rfl⟩
  · have hltz:¬(k:Int) < (n:Int):=by omega
    have hke:k=n:=by omega
    subst hke
    rw [HSE.out]
    clear hsk hlt hltz
    by_cases ha:30 < k
    · have haz:(30:Int) < (k:Int):=by omega
      have HF:Hid (true=wideB l):=by show _=_;rw [HW.out];simp [ha]
      clear ha
      go_wp2_with fail
      go_ret
      exact ⟨ret_bool HF.out,HB.out⟩
    · have haz:¬(30:Int) < (k:Int):=by omega
      by_cases hc:189 < T
      · have hcz:(189:Int) < (T:Int):=by omega
        have HF:Hid (true=wideB l):=by show _=_;rw [HW.out];simp [hc]
        clear ha hc
        go_wp2_with fail
        go_ret
        exact ⟨ret_bool HF.out,HB.out⟩
      · have hcz:¬(189:Int) < (T:Int):=by omega
        have HF:Hid (false=wideB l):=by show _=_;rw [HW.out];simp [ha,hc]
        clear ha hc
        go_wp2_with fail
        go_ret
        exact ⟨ret_bool HF.out,HB.out⟩
theorem allowed_any (f:Fnt) (v:Value) (r:Rls) (ws:List PWord) (vw vp:Value) (pb:Nat) (i j:Int) (l:Ln) (vps:Value) (w:World) (h:PA w pb f v r ws vw vp) (hr:RuOk f r) (hl:LV w l.ps vps) (h1:l.ps.length≤1000) (h2:lenS l.ps≤100000) (h3:-2000000000≤l.room∧l.room≤2000000000) :
 Calls Tryz.prog 115 #[.pointer (some ⟨pb,0,none⟩),.agg (lcs i j vps l.room l.ends)] w fun e w'=>e=.returned (.bool (allowB r l))∧Below w.heap.size w w':=by
 have HV:=Lib.hid hl
 obtain ⟨A,c,rfl,-,-⟩:=hl.shape
 have HSM:Hid (∀ k,k≤l.ps.length→sumL l.ps k≤lenS l.ps):=(show ∀ k,_ from fun k=>sumL_mono)
 have HSS:Hid (∀ k,k < l.ps.length→sumL l.ps (k+1)=sumL l.ps k+(gl l.ps k).length):=(show ∀ k,_ from fun k=>sumL_succ)
 have HSE:Hid (sumL l.ps l.ps.length=lenS l.ps):=lenS_sum _
 have HLS:Hid (∀ k,k < l.ps.length→longB (l.ps.take k)=false→¬60 < (gl l.ps k).length→longB (l.ps.take (k+1))=false):=(show ∀ k,_ from fun k hk h1 h2=>by rw [longB_snoc hk,h1];simp [h2])
 have HLY:Hid (∀ k,k < l.ps.length→60 < (gl l.ps k).length→false=allowB r l):=(show ∀ k,_ from fun k hk h1=>by unfold allowB;rw [if_pos (longB_of hk h1)])
 have HLE:Hid (longB (l.ps.take l.ps.length)=false→allowB r l=if 30 < l.ps.length∨188 < lenS l.ps∨20000 < l.room then false
  else if l.ends=true then decide (l.g*r.least≤l.room)
  else if 0 < l.g then win l.room (l.g*r.least) (l.g*r.most)
  else decide (l.room=0)):=(show _→_ from fun h1=>by rw [List.take_length] at h1;unfold allowB;rw [if_neg (by rw [h1];decide)])
 have HLG:Hid (l.g=(l.ps.length:Int)-1):=rfl
 have HS0:Hid (sumL l.ps 0=0):=rfl
 have HL0:Hid (longB (l.ps.take 0)=false):=rfl
 have hb:=below_new w (.cells (lcs i j (.slice A l.ps.length c) l.room l.ends) 155)
 have hB:=Blk.new w 155 (lcs i j (.slice A l.ps.length c) l.room l.ends)
 have hB2:=hB.cell 2
 have hBl:=hB.lt
 have HBK:=Lib.hid hB
 have HB:=Lib.hid hb
 have HA:=Lib.hid h
 have hrl:1≤r.least∧r.least≤10000:=by have:=hr.le;have:=hr.mo;omega
 have hrm:1≤r.most∧r.most≤10000:=by have:=hr.le;have:=hr.mo;omega
 have hg:-1≤l.g∧l.g≤1000:=by rw [HLG.out];omega
 have ma1:-1*r.least≤l.g*r.least:=Int.mul_le_mul_of_nonneg_right hg.1 (by omega)
 have ma2:l.g*r.least≤1000*10000:=Int.le_trans (Int.mul_le_mul_of_nonneg_right hg.2 (by omega)) (by omega)
 have mb1:-1*r.most≤l.g*r.most:=Int.mul_le_mul_of_nonneg_right hg.1 (by omega)
 have mb2:l.g*r.most≤1000*10000:=Int.le_trans (Int.mul_le_mul_of_nonneg_right hg.2 (by omega)) (by omega)
 have HG:=Lib.hid (fun W=>gaps_any i j l.room l.ends A l.ps.length c W (by omega))
 rw [←HLG.out] at HG
 clear hl hb hB h hr
 generalize hn:l.ps.length=n at *
 have HN:=Lib.hid hn
 generalize lenS l.ps=T at *
 generalize hgg:l.g=g at *
 generalize hre:l.room=room at *
 generalize hee:l.ends=ends at *
 clear hn hgg hre hee HLG
 go_enter Tryz.func115,Tryz.ntmps115
 go_wp2_with fail
 generalize w.alloc (.cells (lcs i j (.slice A n c) room ends) 155)=W at *
 go_loopg [12,5,7] n (fun gg s12 s5 _ wr=>∃ k:Nat,k≤n∧n-k≤gg∧s12=.int .i64 k∧s5=.int .i64 (sumL l.ps k)∧Hid (longB (l.ps.take k)=false)∧W=wr)
 case atStart=>exact ⟨0,by omega,by omega,rfl,by rw [HS0.out];rfl,HL0.out,rfl⟩
 case round=>
  obtain ⟨k,hk,hgk,rfl,rfl,HLK,rfl⟩:=hrel
  have hsk:=HSM.out k hk
  by_cases hlt:k < n
  · have hltz:(k:Int) < (n:Int):=by omega
    have hV:=HV.out.below HB.out
    rw [←HN.out] at hV
    obtain ⟨b,off,A',b',o',c',rfl,hbw,hc,-,-⟩:=hV.at (k:=k) (by rw [HN.out];exact hlt)
    have HS1:=Lib.hid (HSS.out k hlt)
    have HLS1:=Lib.hid (HLS.out k hlt HLK.out)
    have HLY1:=Lib.hid (HLY.out k hlt)
    have hs1:=HSM.out (k+1) (by omega)
    rw [HS1.out] at hs1
    clear hV
    generalize (gl l.ps k).length=m at *
    generalize sumL l.ps k=s at *
    by_cases hm:60 < m
    · have hmz:(60:Int) < (m:Int):=by omega
      have HF:=Lib.hid (HLY1.out hm)
      clear hm
      go_wp2_with fail
      go_ret
      exact ⟨ret_bool HF.out,HB.out⟩
    · have hmz:¬(60:Int) < (m:Int):=by omega
      have HL1:=Lib.hid (HLS1.out hm)
      clear hm
      go_wp2_with fail
      go_roundg (n-(k+1))
      case measure=>omega
      case rel=>exact ⟨k+1,by omega,by omega,by go_num,by rw [HS1.out];go_num,HL1.out,rfl⟩
  · have hltz:¬(k:Int) < (n:Int):=by omega
    have hke:k=n:=by omega
    subst hke
    rw [HSE.out]
    have HD:=Lib.hid (HLE.out HLK.out)
    have b0:=HBK.out.cell 0
    have b1:=HBK.out.cell 1
    have b3:=HBK.out.cell 3
    have b4:=HBK.out.cell 4
    clear hsk hlt hltz HLE HLK
    have HBB:=Lib.hid (fun W' (h:Below W.heap.size W W')=>HB.out.trans (h.mono HB.out.size))
    have hW:w.heap.size < W.heap.size:=hBl
    go_upto_region 10 with ((go_at_call 140;(with_reducible refine (HG.out _).mono ?_);rintro e w4 ⟨rfl,hb4⟩))
    have HB4:=Lib.hid (HBB.out w4 hb4)
    have hK4:=HBK.out.below hb4 hBl
    have hA4:=HA.out.P.below HB4.out HA.out.P.lt
    have y2:=hK4.cell 2
    have y3:=hK4.cell 3
    have y4:=hK4.cell 4
    have yl:=hK4.lt
    have p5:=hA4.cell 5
    have p6:=hA4.cell 6
    have pl:=hA4.lt
    clear hK4 hA4 b0 b1 b3 b4 hb4
    by_cases ha:30 < k
    · have haz:(30:Int) < (k:Int):=by omega
      have HF:Hid (false=allowB r l):=by show _=_;rw [HD.out,if_pos (.inl ha)]
      clear ha
      go_wp2_with fail
      go_ret
      exact ⟨ret_bool HF.out,HB4.out⟩
    have haz:¬(30:Int) < (k:Int):=by omega
    by_cases hc:188 < T
    · have hcz:(188:Int) < (T:Int):=by omega
      have HF:Hid (false=allowB r l):=by show _=_;rw [HD.out,if_pos (.inr (.inl hc))]
      clear ha hc
      go_wp2_with fail
      go_ret
      exact ⟨ret_bool HF.out,HB4.out⟩
    have hcz:¬(188:Int) < (T:Int):=by omega
    by_cases hd:20000 < room
    · have HF:Hid (false=allowB r l):=by show _=_;rw [HD.out,if_pos (.inr (.inr hd))]
      clear ha hc
      go_wp2_with fail
      go_ret
      exact ⟨ret_bool HF.out,HB4.out⟩
    have HD2:Hid (allowB r l=if ends=true then decide (g*r.least≤room) else if 0 < g then win room (g*r.least) (g*r.most) else decide (room=0)):=by show _=_;rw [HD.out,if_neg (by omega)]
    clear ha hc HD HLY HLS
    have HWR1:Hid (IntKind.i64.wrap (g*r.least)=g*r.least):=IntWalk.i64_in _ (by omega)
    have HWR2:Hid (IntKind.i64.wrap (g*r.most)=g*r.most):=IntWalk.i64_in _ (by omega)
    have w1:=HWR1.out
    have w2:=HWR2.out
    have HQ:Hid (∀ W,Calls Tryz.prog 94 #[.int .i64 room,.int .i64 (g*r.least),.int .i64 (g*r.most)] W fun e w'=>e=.returned (.bool (win room (g*r.least) (g*r.most)))∧w'=W):=(show ∀ W,_ from fun W=>(within44_any room (g*r.least) (g*r.most) W).mono fun e w' h=>⟨h.1,h.2.symm⟩)
    generalize hx1:g*r.least=x1 at *
    generalize hx2:g*r.most=x2 at *
    cases ends with
    | true=>
     go_wp2_with fail
     go_quiet (fail)
     go_wp2_with fail
     go_ret
     exact ⟨ret_bool (by rw [HD2.out];first | rw [if_pos rfl] | rw [if_pos trivial]),HB4.out.trans ((below_drewN _ nq).mono HB4.out.size)⟩
    | false=>
     by_cases hg0:0 < g
     · go_wp2_with fail
       go_quiet ((go_at_call 94;exact Calls.quiet_of_same (HQ.out _)))
       go_wp2_with fail
       go_ret
       exact ⟨ret_bool (by rw [HD2.out,if_neg (by decide),if_pos hg0]),HB4.out.trans ((below_drewN _ nq).mono HB4.out.size)⟩
     · go_wp2_with fail
       go_ret
       exact ⟨ret_bool (by rw [HD2.out,if_neg (by decide),if_neg (by omega),beq_dec]),HB4.out⟩
end Go.Proofs.YtbnganlfelgogaaGreat
namespace Go.Proofs.YtbnganlfelgogaaGreat
open Go.RowKit
theorem abs_max (x:Int):max x (-x)=absI x:=by unfold absI;split <;> omega
theorem sq_le {x a:Int} (h0:0≤x) (h1:x≤a):0≤x*x∧x*x≤a*a:=⟨Int.mul_nonneg h0 h0,Int.mul_le_mul h1 h1 h0 (by omega)⟩
theorem demerits_any (f:Fnt) (v:Value) (r:Rls) (ws:List PWord) (vw vp:Value) (pb i j:Nat) (l:Ln) (vps:Value) (w:World) (h:PA w pb f v r ws vw vp) (hok:POk f r ws) (hi:i < (places ws).length) (hj:j < (places ws).length) (hl:LV w l.ps vps) (h1:l.ps.length≤1000) (h3:-2000000000≤l.room∧l.room≤2000000000) :
 Calls Tryz.prog 102 #[.pointer (some ⟨pb,0,none⟩),.agg (lcs i j vps l.room l.ends)] w fun e w'=>e=.returned (.int .i64 (demF f r l (divB ws i) (divB ws j)))∧Below w.heap.size w w':=by
 obtain ⟨A,c,rfl,-,-⟩:=hl.shape
 have hm:=hok.m
 have hru:=hok.ru
 have hsi:=hru.si
 have hdb:=hru.db
 have HDI:=Lib.hid (fun W (hW:Below w.heap.size w W)=>divides_any f v r ws vw vp pb i W (h.step hW) hm hi)
 have HDJ:=Lib.hid (fun W (hW:Below w.heap.size w W)=>divides_any f v r ws vw vp pb j W (h.step hW) hm hj)
 have HP67:Hid (∀ W,Below w.heap.size w W→W.cell? ⟨pb,9,none⟩=some (.int .i64 r.single)∧W.cell? ⟨pb,10,none⟩=some (.int .i64 r.double)∧pb < W.heap.size):=(show ∀ W,_ from fun W hW=>by
  have:=h.P.below hW h.P.lt
  exact ⟨this.cell 9,this.cell 10,this.lt⟩)
 have HDF:Hid (demF f r l (divB ws i) (divB ws j)=(if 0 < l.g∧¬(l.ends=true∧l.g*wd f r.gap≤l.room) then (absI (l.room-l.g*wd f r.gap) / l.g)*(absI (l.room-l.g*wd f r.gap) / l.g) else 0)
  + (if divB ws j=true then r.single+(if divB ws i=true then r.double else 0) else 0)):=rfl
 obtain ⟨dv,hdv⟩:∃ x,demF f r l (divB ws i) (divB ws j)=x:=⟨_,rfl⟩
 rw [hdv] at HDF ⊢
 clear hdv
 have hgg:l.g=(l.ps.length:Int)-1:=rfl
 obtain ⟨sb,so,sc,hvs,hsb,zw⟩:=h.S.width hru.gap
 have hwg:=wd_ok hok.fn hru.gap
 have hns:=few_sorts hok.fn
 obtain ⟨gp,hgp⟩:∃ gp:Nat,r.gap=(gp:Int):=⟨r.gap.toNat,by have:=hru.gap;omega⟩
 have hgn:gp < f.sorts.length:=by have:=hru.gap;omega
 have z2:=h.P.cell 2
 have z7:=h.P.cell 7
 have hpl:=h.P.lt
 rw [show (gcs f v r vw vp)[2]?=some v from rfl,hvs] at z2
 rw [show (gcs f v r vw vp)[7]?=some (.int .i64 r.gap) from rfl,hgp] at z7
 rw [hgp,Int.toNat_natCast] at zw
 generalize hsn:f.sorts.length=sn at *
 rw [hgp] at hwg HDF
 generalize hwx:wd f (gp:Int)=wx at *
 clear hvs hsn hgp hwx hok hru
 generalize hdj:divB ws j=dj at *
 generalize hdi:divB ws i=di at *
 clear hdj hdi
 have hb:=below_new w (.cells (lcs i j (.slice A l.ps.length c) l.room l.ends) 155)
 have hB:=Blk.new w 155 (lcs i j (.slice A l.ps.length c) l.room l.ends)
 have hBl:=hB.lt
 have HBK:=Lib.hid hB
 have HB:=Lib.hid hb
 have HG:=Lib.hid (fun W=>gaps_any i j l.room l.ends A l.ps.length c W (by omega))
 have HWT:=Lib.hid (fun W q1 q2 z2 z7 zw=>wanted_any i j l.room l.ends A l.ps.length c pb sb so sn sc gp wx W (by omega) q1 q2 z2 z7 hgn zw hwg (by omega))
 rw [←hgg] at HG HWT
 have hg0:-1≤l.g∧l.g≤1000:=by omega
 generalize l.ps.length=n at *
 generalize l.g=g at *
 generalize l.room=room at *
 generalize l.ends=ends at *
 clear hgg hl h hB hb
 have gw1:-1*wx≤g*wx:=Int.mul_le_mul_of_nonneg_right hg0.1 (by omega)
 have gw2:g*wx≤1000*100000:=Int.mul_le_mul hg0.2 hwg.2 (by omega) (by omega)
 generalize hgw:g*wx=gw at *
 clear hgw
 go_enter Tryz.func102,Tryz.ntmps102
 go_upto_region 2 with fail
 generalize w.alloc (.cells (lcs i j (.slice A n c) room ends) 155)=W0 at *
 have HS:Hid (∀ W,Below W0.heap.size W0 W→(W.cell? ⟨w.heap.size,0,none⟩=some (.int .i64 i)∧W.cell? ⟨w.heap.size,1,none⟩=some (.int .i64 j)∧W.cell? ⟨w.heap.size,2,none⟩=some (.slice A n c)∧W.cell? ⟨w.heap.size,3,none⟩=some (.int .i64 room)∧W.cell? ⟨w.heap.size,4,none⟩=some (.bool ends))∧(W.cell? ⟨pb,2,none⟩=some (.slice (some ⟨sb,so,none⟩) sn sc)∧W.cell? ⟨pb,7,none⟩=some (.int .i64 (gp:Int))∧W.cell? ⟨sb,so+gp*4+3,none⟩=some (.int .i64 wx)∧Below W0.heap.size W0 W)):=(show ∀ W,_ from fun W hW=>by
  have hk:=HBK.out.below hW hBl
  have h2:=HB.out.trans (hW.mono HB.out.size)
  exact ⟨⟨hk.cell 0,hk.cell 1,hk.cell 2,hk.cell 3,hk.cell 4⟩,(h2.cell (p:=⟨pb,2,none⟩) hpl).trans z2,(h2.cell (p:=⟨pb,7,none⟩) hpl).trans z7,(h2.cell (p:=⟨sb,so+gp*4+3,none⟩) hsb).trans zw,hW⟩)
 have HLT:Hid (∀ W,Below W0.heap.size W0 W→pb < W.heap.size∧sb < W.heap.size∧w.heap.size < W.heap.size∧Below w.heap.size w W):=(show ∀ W,_ from fun W hW=>by
  have h2:=HB.out.trans (hW.mono HB.out.size)
  have:=h2.size
  have:=hW.size
  exact ⟨by omega,by omega,by omega,h2⟩)
 have HZ:=Lib.hid hpl
 clear z2 z7 zw hpl hsb hBl
 obtain ⟨⟨a0,a1,a2,a3,a4⟩,-⟩:=HS.out W0 (Below.refl _ _)
 have al:=(HLT.out W0 (Below.refl _ _)).2.2.1
 go_upto_region 3 with ((go_at_call 140;(with_reducible refine (HG.out _).mono ?_);rintro e w4 ⟨rfl,hb4⟩))
 clear a0 a1 a2 a3 a4 al
 have HWT2:Hid (∀ W,(W.cell? ⟨w.heap.size,0,none⟩=some (.int .i64 i)∧W.cell? ⟨w.heap.size,1,none⟩=some (.int .i64 j)∧W.cell? ⟨w.heap.size,2,none⟩=some (.slice A n c)∧W.cell? ⟨w.heap.size,3,none⟩=some (.int .i64 room)∧W.cell? ⟨w.heap.size,4,none⟩=some (.bool ends))∧(W.cell? ⟨pb,2,none⟩=some (.slice (some ⟨sb,so,none⟩) sn sc)∧W.cell? ⟨pb,7,none⟩=some (.int .i64 (gp:Int))∧W.cell? ⟨sb,so+gp*4+3,none⟩=some (.int .i64 wx)∧Below W0.heap.size W0 W)→Calls Tryz.prog 141 #[.pointer (some ⟨pb,0,none⟩),.agg (lcs i j (.slice A n c) room ends)] W fun e w'=>e=.returned (.int .i64 gw)∧Below W0.heap.size W0 w'):=(show ∀ W,_ from fun W hW=>by
  have hl:=HLT.out W hW.2.2.2.2
  exact (HWT.out W hl.1 hl.2.1 hW.2.1 hW.2.2.1 hW.2.2.2.1).mono fun e w' h=>⟨h.1,hW.2.2.2.2.trans (h.2.mono hW.2.2.2.2.size)⟩)
 go_cut [24] (fun s24 wx'=>s24=.bool (decide (0 < g∧¬(ends=true∧gw≤room)))∧Below W0.heap.size W0 wx')
 case first=>
  have hS0:=HS.out w4.drew hb4.drew
  have hS4:=HS.out w4 hb4
  have HB4:Hid (∀ n,Below W0.heap.size W0 (w4.drewN n)):=(show ∀ n,_ from fun n=>hb4.trans ((below_drewN _ n).mono hb4.size))
  have hl4:=(HLT.out w4 hb4).2.2.1
  by_cases hg:0 < g
  · cases ends with
    | true=>
     go_region_held3 (fun W=>(W.cell? ⟨w.heap.size,0,none⟩=some (.int .i64 i)∧W.cell? ⟨w.heap.size,1,none⟩=some (.int .i64 j)∧W.cell? ⟨w.heap.size,2,none⟩=some (.slice A n c)∧W.cell? ⟨w.heap.size,3,none⟩=some (.int .i64 room)∧W.cell? ⟨w.heap.size,4,none⟩=some (.bool true))∧(W.cell? ⟨pb,2,none⟩=some (.slice (some ⟨sb,so,none⟩) sn sc)∧W.cell? ⟨pb,7,none⟩=some (.int .i64 (gp:Int))∧W.cell? ⟨sb,so+gp*4+3,none⟩=some (.int .i64 wx)∧Below W0.heap.size W0 W))
      (first
       | exact hS0
       | exact HS.out _ hb5)
      ((go_at_call 141;(with_reducible refine (HWT2.out _ (by assumption)).mono ?_);rintro e w5 ⟨rfl,hb5⟩))
     all_goals (go_wp2_with fail;go_meet;exact ⟨congrArg Value.bool (by rw [Bool.eq_iff_iff];simp [hg]),hb5⟩)
    | false=>
     obtain ⟨⟨a0,a1,a2,a3,a4⟩,-⟩:=hS4
     go_quiet (fail)
     go_wp2_with fail;go_meet;exact ⟨congrArg Value.bool (by rw [Bool.eq_iff_iff];simp [hg]),HB4.out nq⟩
  · obtain ⟨⟨a0,a1,a2,a3,a4⟩,-⟩:=hS4
    go_quiet (fail)
    go_wp2_with fail;go_meet;exact ⟨congrArg Value.bool (by rw [Bool.eq_iff_iff];simp;omega),HB4.out nq⟩
 case rest=>
  obtain ⟨rfl,hbc⟩:=hcut
  go_upto_if 24 with fail
  go_cut [5] (fun s5 wx'=>∃ x:Int,s5=.int .i64 x∧Below W0.heap.size W0 wx'∧(x=if 0 < g∧¬(ends=true∧gw≤room) then (absI (room-gw) / g)*(absI (room-gw) / g) else 0)∧0≤x∧x≤2200000000*2200000000)
  case first=>
   by_cases hc:0 < g∧¬(ends=true∧gw≤room)
   · rw [decide_eq_true hc]
     have hg:=hc.1
     have HC:Hid (0 < g∧¬(ends=true∧gw≤room)):=hc
     clear hc
     have hS0:=HS.out wc.drew hbc.drew
     have HMX:=Lib.hid (abs_max (room-gw))
     have hab:=absI_le (x:=room-gw) (a:=2200000000) (by omega) (by omega)
     have hq0:0≤absI (room-gw) / g:=Int.ediv_nonneg hab.1 (by omega)
     have hq1:absI (room-gw) / g≤2200000000:=Int.le_trans (Int.ediv_le_self _ hab.1) hab.2
     have hsq:=sq_le hq0 hq1
     go_wp2_with fail
     go_region_held3 (fun W=>(W.cell? ⟨w.heap.size,0,none⟩=some (.int .i64 i)∧W.cell? ⟨w.heap.size,1,none⟩=some (.int .i64 j)∧W.cell? ⟨w.heap.size,2,none⟩=some (.slice A n c)∧W.cell? ⟨w.heap.size,3,none⟩=some (.int .i64 room)∧W.cell? ⟨w.heap.size,4,none⟩=some (.bool ends))∧(W.cell? ⟨pb,2,none⟩=some (.slice (some ⟨sb,so,none⟩) sn sc)∧W.cell? ⟨pb,7,none⟩=some (.int .i64 (gp:Int))∧W.cell? ⟨sb,so+gp*4+3,none⟩=some (.int .i64 wx)∧Below W0.heap.size W0 W))
      (first
       | exact hS0
       | exact HS.out _ hb5)
      ((go_at_call 141;(with_reducible refine (HWT2.out _ (by assumption)).mono ?_);rintro e w5 ⟨rfl,hb5⟩))
     by_cases hs:-(room-gw)≤room-gw
     · have HE:Hid (absI (room-gw)=room-gw):=by show _=_;unfold absI;split <;> omega
       have HEY:Hid (∀ y,y=absI (room-gw)→wrap64 (y / g*(y / g))=absI (room-gw) / g*(absI (room-gw) / g)):=(show ∀ y,_ from by
        intro y hy
        rw [hy]
        generalize absI (room-gw) / g*(absI (room-gw) / g)=P at *
        exact IntWalk.wrap64_in P (by omega))
       go_wp2_with fail
       go_meet
       refine ⟨_,rfl,hb5,?_⟩
       rw [HEY.out _ HE.out.symm]
       exact ⟨by rw [if_pos HC.out],hsq.1,hsq.2⟩
     · have HE:Hid (absI (room-gw)=-(room-gw)):=by show _=_;unfold absI;split <;> omega
       have HEY:Hid (∀ y,y=absI (room-gw)→wrap64 (y / g*(y / g))=absI (room-gw) / g*(absI (room-gw) / g)):=(show ∀ y,_ from by
        intro y hy
        rw [hy]
        generalize absI (room-gw) / g*(absI (room-gw) / g)=P at *
        exact IntWalk.wrap64_in P (by omega))
       go_wp2_with fail
       go_meet
       refine ⟨_,rfl,hb5,?_⟩
       rw [HEY.out _ HE.out.symm]
       exact ⟨by rw [if_pos HC.out],hsq.1,hsq.2⟩
   · rw [decide_eq_false hc]
     have HC:Hid (¬(0 < g∧¬(ends=true∧gw≤room))):=hc
     clear hc
     go_wp2_with fail
     go_meet
     exact ⟨_,rfl,hbc,by rw [if_neg HC.out],by omega,by omega⟩
  case rest=>
   obtain ⟨x,rfl,hbc,hx,hx0,hx1⟩:=hcut
   have HX:=Lib.hid hx
   clear hx
   obtain ⟨⟨a0,a1,a2,a3,a4⟩,-⟩:=HS.out wc hbc
   obtain ⟨hl1,hl2,hl3,hb2⟩:=HLT.out wc hbc
   obtain ⟨p9,p10,-⟩:=HP67.out wc hb2
   have HBW:=Lib.hid hb2
   have HJ:=Lib.hid (HDJ.out wc hb2)
   have HI:=Lib.hid (HDI.out wc hb2)
   cases dj with
   | false=>
    have HF:Hid (x=dv):=by show _=_;rw [HDF.out,HX.out,if_neg (show ¬(false=true) by decide)];omega
    go_wp2_with ((go_at_call 142;(with_reducible refine HJ.out.mono ?_);rintro e w' ⟨rfl,rfl⟩))
    go_ret
    exact ⟨ret_int HF.out,HBW.out⟩
   | true=>
    cases di with
    | false=>
     have HF:Hid (x+r.single=dv):=by show _=_;rw [HDF.out,HX.out,if_pos rfl,if_neg (show ¬(false=true) by decide)];omega
     go_wp2_with (first
      | (go_at_call 142;(with_reducible refine HJ.out.mono ?_);rintro e w' ⟨rfl,hw'⟩;have hw'':=hw'.symm;subst hw'')
      | (go_at_call 142;(with_reducible refine HI.out.mono ?_);rintro e w' ⟨rfl,hw'⟩;have hw'':=hw'.symm;subst hw''))
     go_ret
     exact ⟨ret_int HF.out,HBW.out⟩
    | true=>
     have HF:Hid (x+r.single+r.double=dv):=by show _=_;rw [HDF.out,HX.out,if_pos rfl,if_pos rfl];omega
     go_wp2_with (first
      | (go_at_call 142;(with_reducible refine HJ.out.mono ?_);rintro e w' ⟨rfl,hw'⟩;have hw'':=hw'.symm;subst hw'')
      | (go_at_call 142;(with_reducible refine HI.out.mono ?_);rintro e w' ⟨rfl,hw'⟩;have hw'':=hw'.symm;subst hw''))
     go_ret
     exact ⟨ret_int HF.out,HBW.out⟩
end Go.Proofs.YtbnganlfelgogaaGreat
