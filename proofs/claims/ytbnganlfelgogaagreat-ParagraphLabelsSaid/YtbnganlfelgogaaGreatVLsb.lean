/- base.Lists and base.Lines: equal lists of lists, equal lists of lines. -/
import Derived.Lib.QuietBelow
import Derived.Test.YtbnganlfelgogaaGreatVSpc
import Derived.Test.YtbnganlfelgogaaGreatVSal
set_option linter.unusedSimpArgs false
set_option linter.unusedVariables false
set_option maxRecDepth 100000
set_option maxHeartbeats 40000000
namespace Go.Proofs.YtbnganlfelgogaaGreat
open Go.RowKit Go.Shelf Go.Sort
theorem gl_ext {a b:List (List Int)} (h1:a.length=b.length) (h2:∀ j,j < a.length→gl a j=gl b j):a=b:=by
 apply List.ext_getElem h1
 intro i hi hj
 have:=h2 i hi
 unfold gl at this
 rwa [List.getD_eq_getElem?_getD,List.getD_eq_getElem?_getD,List.getElem?_eq_getElem hi,List.getElem?_eq_getElem hj] at this
theorem LV.elt {W:World} {ls:List (List Int)} {A:Option Addr} {c k:Nat} (h:LV W ls (.slice A ls.length c)) (hk:k < ls.length) :
 ∃ b off x,A=some ⟨b,off,none⟩∧b < W.heap.size∧W.cell? ⟨b,off+k,none⟩=some x∧IV W (gl ls k) x:=by
 obtain ⟨hs,⟨A0,b,off,c0,he,h1,h2,-⟩,h3⟩:=h
 injection he with hA hn hc
 subst hA
 obtain ⟨rfl,hb⟩:=h1 (by omega)
 exact ⟨b,off,hs k,rfl,hb,h2 k (by omega),h3 k hk⟩
theorem ints_regrown (a b:List Int) (va vb:Value) (w:World) (ha:IV w a va) (hb:IV w b vb) (hm:a.length≤1000000) (hm2:b.length≤1000000) :
 ∀ d os,Calls Tryz.prog 66 #[va,vb] (grow (redrawn w d) os) fun e w''=>e=.returned (.bool (decide (a=b)))∧∃ p:Regrown,w''=grow (redrawn w p.d) p.os:=fun d os=>
 Calls.regrown_of (ints27_any a b va vb _ (ha.below (below_regrown w d os)) (hb.below (below_regrown w d os)) hm hm2)
theorem lists_any (a b:List (List Int)) (va vb:Value) (w:World) (ha:LV w a va) (hb:LV w b vb) (hm:a.length≤1000000) (hm1:∀ j,(gl a j).length≤1000000) (hm2:∀ j,(gl b j).length≤1000000) :
 Calls Tryz.prog 52 #[va,vb] w fun e w'=>e=.returned (.bool (decide (a=b)))∧Below w.heap.size w w':=by
 have HP:Hid (∀ W c,c=decide (a=b)→Below w.heap.size w W→Ending.returned (.bool c)=.returned (.bool (decide (a=b)))∧Below w.heap.size w W):=(show ∀ W c,_ from fun W c e h=>⟨by rw [e],h⟩)
 have HA:=Lib.hid ha
 have HB:=Lib.hid hb
 obtain ⟨A1,c1,rfl,hl1,hc1⟩:=ha.shape
 obtain ⟨A2,c2,rfl,hl2,hc2⟩:=hb.shape
 have HEX:Hid (a.length=b.length→(∀ j,j < a.length→gl a j=gl b j)→true=decide (a=b)):=(show _→_→_ from fun h1 h2=>(decide_eq_true (gl_ext h1 h2)).symm)
 have HNE:Hid (∀ j,gl a j≠gl b j→false=decide (a=b)):=(show ∀ j,_ from fun j h=>(decide_eq_false (fun e=>h (by rw [e]))).symm)
 have HNL:Hid (a.length≠b.length→false=decide (a=b)):=(show _→_ from fun h=>(decide_eq_false (fun e=>h (by rw [e]))).symm)
 have HM1:=Lib.hid hm1
 have HM2:=Lib.hid hm2
 clear ha hb hm1 hm2
 by_cases hl:a.length=b.length
 · have HLL:=Lib.hid hl
   have HB':Hid (LV w b (.slice A2 a.length c2)):=(show LV _ _ _ from by rw [hl];exact HB.out)
   have HEX':=Lib.hid (HEX.out hl)
   rw [←hl] at hl2 ⊢
   clear hl HEX HNL HB
   generalize hN:a.length=N at *
   have HN:=Lib.hid hN
   clear hN
   have hbn0:=bne_f (rfl:(N:Int)=(N:Int))
   go_enter Tryz.func52,Tryz.ntmps52
   go_wp2_with fail
   go_loopg [5] N (fun gg s5 wr=>∃ k:Nat,k≤N∧N-k≤gg∧s5=.int .i64 (k:Int)∧Hid (Below w.heap.size w wr)∧Hid (∀ j,j < k→gl a j=gl b j))
   case atStart=>exact ⟨0,by omega,by omega,rfl,Below.refl _ _,fun j hj=>absurd hj (Nat.not_lt_zero _)⟩
   case round=>
    obtain ⟨k,hk,hg,rfl,HBW,HE⟩:=hrel
    by_cases hlt:k < N
    · have hltz:(k:Int) < (N:Int):=by omega
      have ha1:LV wr a (.slice A1 a.length c1):=by rw [HN.out];exact (HA.out).below HBW.out
      have hb1:LV wr b (.slice A2 b.length c2):=by rw [←HLL.out];exact (HB'.out).below HBW.out
      obtain ⟨b1,o1,x1,rfl,hbl1,z1,hx1⟩:=ha1.elt (k:=k) (by have:=HN.out;omega)
      obtain ⟨b2,o2,x2,rfl,hbl2,z2,hx2⟩:=hb1.elt (k:=k) (by have:=HLL.out;omega)
      have HC:=Lib.hid (ints_regrown _ _ _ _ wr hx1 hx2 (HM1.out k) (HM2.out k))
      have xz1:=cell_regrown z1
      have xz2:=cell_regrown z2
      have HQ:Hid (gl a k=gl b k→∀ j,j < k+1→gl a j=gl b j):=(show _→_ from fun h j hj=>by
       by_cases e:j=k
       · subst e;exact h
       · exact HE.out j (by omega))
      have HQ2:=Lib.hid (HNE.out k)
      obtain ⟨_,_,_,_,rfl,-⟩:=hx1.open
      obtain ⟨_,_,_,_,rfl,-⟩:=hx2.open
      have hbd:=below_regrown wr
      clear ha1 hb1 hx1 hx2
      generalize gl a k=xs at *
      generalize gl b k=ys at *
      by_cases hxy:xs=ys
      · have HXY:=Lib.hid hxy
        have HC2:=HC.out
        rw [decide_eq_true hxy] at HC2
        have HC2:=Lib.hid HC2
        clear hxy HC
        go_upto_region 6 with fail
        refine wp_region_quiet_below (by kernel_rfl) (by kernel_rfl) ?_
        repeat (first | go_big_quiet_step (exact HC2.out _ _) | quiet_step (exact HC2.out _ _))
        refine wpQuiet_nil ?_
        intro _ hw'
        obtain ⟨⟨dq,osq⟩,hw''⟩:=hw'
        subst hw''
        have HB2:=Lib.hid (HBW.out.trans ((hbd dq osq).mono HBW.out.size))
        clear hbd xz1 xz2 z1 z2
        generalize grow (redrawn wr dq) osq=W2 at *
        go_wp2_with fail
        go_roundg (N-(k+1))
        case measure=>omega
        case rel=>exact ⟨k+1,by omega,by omega,by go_num,HB2.out,HQ.out HXY.out⟩
      · have HX:=Lib.hid (HQ2.out hxy)
        have HC2:=HC.out
        rw [decide_eq_false hxy] at HC2
        have HC2:=Lib.hid HC2
        clear HC
        go_upto_region 6 with fail
        refine wp_region_quiet_below (by kernel_rfl) (by kernel_rfl) ?_
        repeat (first | go_big_quiet_step (exact HC2.out _ _) | quiet_step (exact HC2.out _ _))
        refine wpQuiet_nil ?_
        intro _ hw'
        obtain ⟨⟨dq,osq⟩,hw''⟩:=hw'
        subst hw''
        have HB2:=Lib.hid (HBW.out.trans ((hbd dq osq).mono HBW.out.size))
        clear hbd xz1 xz2 z1 z2
        generalize grow (redrawn wr dq) osq=W2 at *
        go_wp2_with fail
        go_ret
        exact HP.out _ _ HX.out HB2.out
    · have hltz:¬(k:Int) < (N:Int):=by omega
      have HX:=Lib.hid (HEX'.out (fun j hj=>HE.out j (by omega)))
      go_wp2_with fail
      go_ret
      exact HP.out _ _ HX.out HBW.out
 · have hbn0:=bne_t (show (a.length:Int)≠(b.length:Int) by omega)
   have HX:=Lib.hid (HNL.out hl)
   generalize a.length=N at *
   generalize b.length=M at *
   go_enter Tryz.func52,Tryz.ntmps52
   go_wp2_with fail
   go_ret
   exact HP.out _ _ HX.out (Below.refl _ _)
end Go.Proofs.YtbnganlfelgogaaGreat
namespace Go.Proofs.YtbnganlfelgogaaGreat
open Go.RowKit Go.Shelf Go.Sort
def g2 (l:List (Int × List Int)) (i:Nat):Int × List Int:=l.getD i (0,[])
theorem g2_ext {a b:List (Int × List Int)} (h1:a.length=b.length) (h2:∀ j,j < a.length→g2 a j=g2 b j):a=b:=by
 apply List.ext_getElem h1
 intro i hi hj
 have:=h2 i hi
 unfold g2 at this
 rwa [List.getD_eq_getElem?_getD,List.getD_eq_getElem?_getD,List.getElem?_eq_getElem hi,List.getElem?_eq_getElem hj] at this
theorem LnV.shape {W:World} {ls:List (Int × List Int)} {v:Value} (h:LnV W ls v):∃ A c,v=.slice A ls.length c:=by
 obtain ⟨hs,⟨A,b,off,c,rfl,-⟩,-⟩:=h
 exact ⟨A,c,rfl⟩
theorem LnV.below {W W':World} {ls:List (Int × List Int)} {v:Value} (h:LnV W ls v) (hb:Below W.heap.size W W'):LnV W' ls v:=by
 obtain ⟨hs,h1,h2⟩:=h
 exact ⟨hs,h1.below hb,fun i hi=>(h2 i hi).below hb⟩
theorem LnV.elt {W:World} {ls:List (Int × List Int)} {A:Option Addr} {n c k:Nat} (h:LnV W ls (.slice A n c)) (hk:k < ls.length) :
 ∃ b off x,A=some ⟨b,off,none⟩∧b < W.heap.size∧W.cell? ⟨b,off+k*2,none⟩=some (.int .i64 (g2 ls k).1)∧W.cell? ⟨b,off+k*2+1,none⟩=some x∧IV W (g2 ls k).2 x:=by
 obtain ⟨hs,⟨A0,b,off,c0,he,h1,h2,-⟩,h3⟩:=h
 injection he with hA hn hc
 subst hA
 obtain ⟨rfl,hb⟩:=h1 (by omega)
 have e0:=h2 (k*2) (by omega)
 have e1:=h2 (k*2+1) (by omega)
 dsimp only at e0 e1
 rw [if_pos (by omega),show k*2 / 2=k by omega] at e0
 rw [if_neg (by omega),show (k*2+1) / 2=k by omega] at e1
 exact ⟨b,off,hs k,rfl,hb,e0,e1,h3 k hk⟩
theorem lines37_any (a b:List (Int × List Int)) (va vb:Value) (w:World) (ha:LnV w a va) (hb:LnV w b vb) (hm:a.length≤1000000) (hm1:∀ j,(g2 a j).2.length≤1000000) (hm2:∀ j,(g2 b j).2.length≤1000000) :
 Calls Tryz.prog 37 #[va,vb] w fun e w'=>e=.returned (.bool (decide (a=b)))∧Below w.heap.size w w':=by
 have HP:Hid (∀ W c,c=decide (a=b)→Below w.heap.size w W→Ending.returned (.bool c)=.returned (.bool (decide (a=b)))∧Below w.heap.size w W):=(show ∀ W c,_ from fun W c e h=>⟨by rw [e],h⟩)
 have HA:=Lib.hid ha
 have HB:=Lib.hid hb
 obtain ⟨A1,c1,rfl⟩:=ha.shape
 obtain ⟨A2,c2,rfl⟩:=hb.shape
 have HEX:Hid (a.length=b.length→(∀ j,j < a.length→g2 a j=g2 b j)→true=decide (a=b)):=(show _→_→_ from fun h1 h2=>(decide_eq_true (g2_ext h1 h2)).symm)
 have HNE:Hid (∀ j,g2 a j≠g2 b j→false=decide (a=b)):=(show ∀ j,_ from fun j h=>(decide_eq_false (fun e=>h (by rw [e]))).symm)
 have HNL:Hid (a.length≠b.length→false=decide (a=b)):=(show _→_ from fun h=>(decide_eq_false (fun e=>h (by rw [e]))).symm)
 have HM1:=Lib.hid hm1
 have HM2:=Lib.hid hm2
 clear ha hb hm1 hm2
 by_cases hl:a.length=b.length
 · have HLL:=Lib.hid hl
   have HEX':=Lib.hid (HEX.out hl)
   rw [←hl] at HB ⊢
   clear hl HEX HNL
   generalize hN:a.length=N at *
   have HN:=Lib.hid hN
   clear hN
   have hbn0:=bne_f (rfl:(N:Int)=(N:Int))
   go_enter Tryz.func37,Tryz.ntmps37
   go_wp2_with fail
   go_loopg [5] N (fun gg s5 wr=>∃ k:Nat,k≤N∧N-k≤gg∧s5=.int .i64 (k:Int)∧Hid (Below w.heap.size w wr)∧Hid (∀ j,j < k→g2 a j=g2 b j))
   case atStart=>exact ⟨0,by omega,by omega,rfl,Below.refl _ _,fun j hj=>absurd hj (Nat.not_lt_zero _)⟩
   case round=>
    obtain ⟨k,hk,hg,rfl,HBW,HE⟩:=hrel
    by_cases hlt:k < N
    · have hltz:(k:Int) < (N:Int):=by omega
      obtain ⟨b1,o1,x1,rfl,hbl1,z1,y1,hx1⟩:=(HA.out.below HBW.out).elt (k:=k) (by have:=HN.out;omega)
      obtain ⟨b2,o2,x2,rfl,hbl2,z2,y2,hx2⟩:=(HB.out.below HBW.out).elt (k:=k) (by have:=HLL.out;have:=HN.out;omega)
      have HC:=Lib.hid (ints_regrown _ _ _ _ wr hx1 hx2 (HM1.out k) (HM2.out k))
      have xz1:=cell_regrown z1
      have xz2:=cell_regrown z2
      have yz1:=cell_regrown y1
      have yz2:=cell_regrown y2
      have HQ:Hid (g2 a k=g2 b k→∀ j,j < k+1→g2 a j=g2 b j):=(show _→_ from fun h j hj=>by
       by_cases e:j=k
       · subst e;exact h
       · exact HE.out j (by omega))
      have HQ2:=Lib.hid (HNE.out k)
      obtain ⟨_,_,_,_,rfl,-⟩:=hx1.open
      obtain ⟨_,_,_,_,rfl,-⟩:=hx2.open
      have hbd:=below_regrown wr
      clear hx1 hx2
      generalize g2 a k=p at *
      generalize g2 b k=q at *
      obtain ⟨m1,xs⟩:=p
      obtain ⟨m2,ys⟩:=q
      dsimp only at *
      by_cases hmm:m1=m2
      · have hbm:=bne_f hmm
        have HMM:=Lib.hid hmm
        clear hmm
        by_cases hxy:xs=ys
        · have HXY:Hid ((m1,xs)=(m2,ys)):=(show _=_ from by rw [HMM.out,hxy])
          have HC2:=HC.out
          rw [decide_eq_true hxy] at HC2
          have HC2:=Lib.hid HC2
          clear hxy HC
          go_upto_region 6 with fail
          refine wp_region_quiet_below (by kernel_rfl) (by kernel_rfl) ?_
          repeat (first | go_big_quiet_step (exact HC2.out _ _) | quiet_step (exact HC2.out _ _))
          refine wpQuiet_nil ?_
          intro _ hw'
          obtain ⟨⟨dq,osq⟩,hw''⟩:=hw'
          subst hw''
          have HB2:=Lib.hid (HBW.out.trans ((hbd dq osq).mono HBW.out.size))
          clear hbd xz1 xz2 z1 z2 yz1 yz2 y1 y2
          generalize grow (redrawn wr dq) osq=W2 at *
          go_wp2_with fail
          go_roundg (N-(k+1))
          case measure=>omega
          case rel=>exact ⟨k+1,by omega,by omega,by go_num,HB2.out,HQ.out HXY.out⟩
        · have HX:=Lib.hid (HQ2.out (fun e=>hxy (by injection e)))
          have HC2:=HC.out
          rw [decide_eq_false hxy] at HC2
          have HC2:=Lib.hid HC2
          clear HC
          go_upto_region 6 with fail
          refine wp_region_quiet_below (by kernel_rfl) (by kernel_rfl) ?_
          repeat (first | go_big_quiet_step (exact HC2.out _ _) | quiet_step (exact HC2.out _ _))
          refine wpQuiet_nil ?_
          intro _ hw'
          obtain ⟨⟨dq,osq⟩,hw''⟩:=hw'
          subst hw''
          have HB2:=Lib.hid (HBW.out.trans ((hbd dq osq).mono HBW.out.size))
          clear hbd xz1 xz2 z1 z2 yz1 yz2 y1 y2
          generalize grow (redrawn wr dq) osq=W2 at *
          go_wp2_with fail
          go_ret
          exact HP.out _ _ HX.out HB2.out
      · have hbm:=bne_t hmm
        have HX:=Lib.hid (HQ2.out (fun e=>hmm (by injection e)))
        clear HC
        go_upto_region 6 with fail
        refine wp_region_quiet_below (by kernel_rfl) (by kernel_rfl) ?_
        repeat (first | go_big_quiet_step (fail) | quiet_step (fail))
        refine wpQuiet_nil ?_
        intro _ hw'
        obtain ⟨⟨dq,osq⟩,hw''⟩:=hw'
        subst hw''
        have HB2:=Lib.hid (HBW.out.trans ((hbd dq osq).mono HBW.out.size))
        clear hbd xz1 xz2 z1 z2 yz1 yz2 y1 y2
        generalize grow (redrawn wr dq) osq=W2 at *
        go_wp2_with fail
        go_ret
        exact HP.out _ _ HX.out HB2.out
    · have hltz:¬(k:Int) < (N:Int):=by omega
      have HX:=Lib.hid (HEX'.out (fun j hj=>HE.out j (by omega)))
      go_wp2_with fail
      go_ret
      exact HP.out _ _ HX.out HBW.out
 · have hbn0:=bne_t (show (a.length:Int)≠(b.length:Int) by omega)
   have HX:=Lib.hid (HNL.out hl)
   generalize a.length=N at *
   generalize b.length=M at *
   go_enter Tryz.func37,Tryz.ntmps37
   go_wp2_with fail
   go_ret
   exact HP.out _ _ HX.out (Below.refl _ _)
end Go.Proofs.YtbnganlfelgogaaGreat
