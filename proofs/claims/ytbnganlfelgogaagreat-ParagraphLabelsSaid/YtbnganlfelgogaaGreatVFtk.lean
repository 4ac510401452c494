/- first; CheckTask. -/
import Derived.Test.YtbnganlfelgogaaGreatVFcf
import Derived.Deep.RegionHeld3
set_option linter.unusedSimpArgs false
set_option linter.unusedVariables false
set_option maxRecDepth 100000
set_option maxHeartbeats 40000000
namespace Go.Proofs.YtbnganlfelgogaaGreat
open Go.RowKit
def frsE (zs:List Int):Int:=(fstE (gz zs) zs.length).2
theorem frsE_two (a b:Int):frsE [a,b]=if a≠0 then a else b:=by
 unfold frsE
 by_cases ha:a=0
 · rw [if_neg (fun h=>h ha)]
   by_cases hb:b=0
   · rw [hb,fstE_none (n:=[a,0].length)]
     intro j hj
     have hj2:j < 2:=hj
     rcases (show j=0∨j=1 by omega) with rfl | rfl
     · exact ha
     · rfl
   · rw [fstE_hit (g:=gz [a,b]) (k:=1) hb (fun j hj=>by
      have:j=0:=by omega
      subst this
      exact ha) (by simp)]
     rfl
 · rw [if_pos ha,fstE_hit (g:=gz [a,b]) (k:=0) ha (fun j hj=>absurd hj (Nat.not_lt_zero _)) (by simp)]
   rfl
theorem first_any (zs:List Int) (vz:Value) (w:World) (hz:IV w zs vz) (hm:zs.length≤1000000):Calls Tryz.prog 156 #[vz] w (IntPost (frsE zs) w):=by
 obtain ⟨A1,b1,o1,c1,rfl,hA1,hz1,-,-⟩:=hz.open
 have HP:Hid (∀ x,x=frsE zs→IntPost (frsE zs) w (.returned (.int .i64 x)) w):=(show ∀ x,_ from fun x e=>by subst e;exact ⟨rfl,Below.refl _ _⟩)
 have HX:Hid (frsE zs=(fstE (gz zs) zs.length).2):=rfl
 have HA:=Lib.hid hA1
 have HZ:=Lib.hid hz1
 clear hz hA1 hz1
 generalize hN:zs.length=N at *
 have HN:=Lib.hid hN
 clear hN
 go_enter Tryz.func156,Tryz.ntmps156
 go_wp2_with fail
 go_loopg [4,7] N (fun gg _ s7 wr=>∃ k:Nat,k≤N∧N-k≤gg∧s7=.int .i64 (k:Int)∧wr=w∧Hid (∀ j,j < k→gz zs j=0))
 case atStart=>exact ⟨0,by omega,by omega,rfl,rfl,fun j hj=>absurd hj (Nat.not_lt_zero _)⟩
 case round=>
  obtain ⟨k,hk,hg,rfl,rfl,HO⟩:=hrel
  by_cases hlt:k < N
  · have hltz:(k:Int) < (N:Int):=by omega
    obtain ⟨rfl,hbl⟩:=HA.out (by omega)
    have hz:=HZ.out k (by rw [HN.out];exact hlt)
    have HFX:Hid (gz zs k≠0→frsE zs=gz zs k):=(show _→_ from fun h=>HX.out.trans (by rw [fstE_hit h HO.out hlt]))
    have HOX:Hid (gz zs k=0→∀ j,j < k+1→gz zs j=0):=(show _→_ from fun h j hj=>by
     by_cases e:j=k
     · subst e;exact h
     · exact HO.out j (by omega))
    generalize gz zs k=z at *
    by_cases hq:z=0
    · have hbn:=bne_f hq
      have HQ:=Lib.hid hq
      clear hq
      go_wp2_with fail
      go_roundg (N-(k+1))
      case measure=>omega
      case rel=>exact ⟨k+1,by omega,by omega,by go_num,rfl,HOX.out HQ.out⟩
    · have hbn:=bne_t hq
      have HQ:=Lib.hid hq
      clear hq
      go_wp2_with fail
      go_ret
      exact HP.out _ (HFX.out HQ.out).symm
  · have hltz:¬(k:Int) < (N:Int):=by omega
    have hkn:k=N:=by omega
    have HXX:Hid (frsE zs=0):=HX.out.trans (by rw [fstE_none (n:=N) (by rw [←hkn];exact HO.out)])
    go_wp2_with fail
    go_ret
    exact HP.out _ HXX.out.symm
structure Tsk where
 f:Fnt
 cs:List Int
 ind:List Int
 words:List (List Int)
 me:Int
@[reducible,go_sem] def xts (t:Tsk) (v vc vi vw:Value):Array Value:=#[.string t.f.name,.int .i64 t.f.body,v,vc,vi,vw,.int .i64 t.me]
structure TkV (W:World) (t:Tsk) (v vc vi vw:Value):Prop where
 s:SoV W t.f.sorts v
 c:IV W t.cs vc
 i:IV W t.ind vi
 w:LV W t.words vw
theorem TkV.below {W W':World} {t:Tsk} {v vc vi vw:Value} (h:TkV W t v vc vi vw) (hb:Below W.heap.size W W'):TkV W' t v vc vi vw:=⟨h.s.below hb,h.c.below hb,h.i.below hb,h.w.below hb⟩
def wdErr (f:Fnt) (l:List Int):Int:=if l.length=0 then 10 else if 60 < l.length then 8 else lstErr f l false
def wdsErr (f:Fnt) (ls:List (List Int)):Int:=(fstE (fun j=>wdErr f (gl ls j)) ls.length).2
def tk3 (t:Tsk):Int:=if 200 < t.ind.length+sumL t.words t.words.length then 8 else if win t.me 1 1000000=false then 2 else 0
def tk2 (t:Tsk):Int:=if 30 < t.words.length then 8 else if wdsErr t.f t.words≠0 then wdsErr t.f t.words else tk3 t
def tk1 (t:Tsk):Int:=if 12 < t.ind.length then 8 else if lstErr t.f t.ind true≠0 then lstErr t.f t.ind true else tk2 t
def tkErr (t:Tsk):Int:=if (fnErr t.f).2≠0 then (fnErr t.f).2 else if kiErr t.f≠0 then kiErr t.f else if cntErr t.f.sorts.length t.cs≠0 then cntErr t.f.sorts.length t.cs else tk1 t
theorem checkTask_any (t:Tsk) (v vc vi vw:Value) (w:World) (h:TkV w t v vc vi vw) (hn:t.f.name.size≤9223372036854775807) (hm:t.f.sorts.length≤100000) :
 Calls Tryz.prog 123 #[.agg (xts t v vc vi vw)] w (IntPost (tkErr t) w):=by
 have hb0:=below_new w (.cells (xts t v vc vi vw) 124)
 have HT0:=Lib.hid (h.below hb0)
 have HB0:=Lib.hid hb0
 have HK0:=Lib.hid (Blk.new w 124 (xts t v vc vi vw))
 obtain ⟨Av,cv,rfl⟩:=h.s.shape
 obtain ⟨Ac,_,_,cc,rfl,-⟩:=h.c.open
 obtain ⟨Ai,_,_,ci,rfl,-⟩:=h.i.open
 obtain ⟨Aw,cw,rfl,-,-⟩:=h.w.shape
 have HP:Hid (∀ W x,x=tkErr t→Below w.heap.size w W→IntPost (tkErr t) w (.returned (.int .i64 x)) W):=(show ∀ W x,_ from fun W x e h=>by subst e;exact ⟨rfl,h⟩)
 have HX0:Hid (tkErr t=if (fnErr t.f).2≠0 then (fnErr t.f).2 else if kiErr t.f≠0 then kiErr t.f else if cntErr t.f.sorts.length t.cs≠0 then cntErr t.f.sorts.length t.cs else tk1 t):=rfl
 clear h hb0
 generalize hWq:w.alloc (.cells (xts t (.slice Av t.f.sorts.length cv) (.slice Ac t.cs.length cc) (.slice Ai t.ind.length ci) (.slice Aw t.words.length cw)) 124)=Wq at *
 have HS:Hid (∀ W,Below Wq.heap.size Wq W→(W.cell? ⟨w.heap.size,0,none⟩=some (.string t.f.name)∧W.cell? ⟨w.heap.size,1,none⟩=some (.int .i64 t.f.body)∧W.cell? ⟨w.heap.size,2,none⟩=some (.slice Av t.f.sorts.length cv))):=(show ∀ W,_ from fun W hb=>by
  have hk:=HK0.out.below hb HK0.out.lt
  exact ⟨hk.cell 0,hk.cell 1,hk.cell 2⟩)
 have HC1:Hid (∀ W,Below Wq.heap.size Wq W→Calls Tryz.prog 152 #[.agg (fcs t.f (.slice Av t.f.sorts.length cv))] W (IntPost (fnErr t.f).2 W)):=(show ∀ W,_ from fun W hb=>fountErr_any _ _ W (HT0.out.s.below hb) hn)
 have HC2:Hid (∀ W,Below Wq.heap.size Wq W→Calls Tryz.prog 157 #[.agg (fcs t.f (.slice Av t.f.sorts.length cv))] W (IntPost (kiErr t.f) W)):=(show ∀ W,_ from fun W hb=>kindsErr_any _ _ W (HT0.out.s.below hb) hm)
 have HC3:Hid (∀ (W:World) (a b:Int),Calls Tryz.prog 156 #[.slice (some ⟨W.heap.size,0,none⟩) 2 2] (W.alloc (.cells #[.int .i64 a,.int .i64 b] 35)) (IntPost (if a≠0 then a else b) (W.alloc (.cells #[.int .i64 a,.int .i64 b] 35)))):=(show ∀ W a b,_ from fun W a b=>by
  have hr:=Blk.new W 35 #[.int .i64 a,.int .i64 b]
  have:=first_any [a,b] _ (W.alloc (.cells #[.int .i64 a,.int .i64 b] 35)) (IV.mk (A:=some ⟨W.heap.size,0,none⟩) (b:=W.heap.size) (off:=0) (c:=2) (fun _=>⟨rfl,hr.lt⟩) (fun j hj=>by
   have hj2:j < 2:=hj
   rcases (show j=0∨j=1 by omega) with rfl | rfl
   · exact hr.cell 0
   · exact hr.cell 1) (Nat.le_refl _) (by simp)) (by simp)
  rw [frsE_two] at this
  exact this)
 have hlt0:=HK0.out.lt
 go_enter Tryz.func123,Tryz.ntmps123
 go_wp2_with fail
 have hbd:Below Wq.heap.size Wq Wq.drew:=(Below.refl _ _).drew
 have hS0:=HS.out _ hbd
 generalize hE0:(fnErr t.f).2=e0 at *
 generalize hE1:kiErr t.f=e1 at *
 have HE0:=Lib.hid hE0
 clear hE0 hE1
 obtain ⟨e2,he2⟩:∃ x:Int,x=if e0≠0 then e0 else e1:=⟨_,rfl⟩
 have HC4:Hid (∀ W:World,Calls Tryz.prog 156 #[.slice (some ⟨W.heap.size,0,none⟩) 2 2] (W.alloc (.cells #[.int .i64 e0,.int .i64 e1] 35)) (IntPost e2 (W.alloc (.cells #[.int .i64 e0,.int .i64 e1] 35)))):=(show ∀ W,_ from fun W=>by rw [he2];exact HC3.out W e0 e1)
 have HE2:=Lib.hid he2
 clear he2 HC3
 go_region_held3 (fun W=>(W.cell? ⟨w.heap.size,0,none⟩=some (.string t.f.name)∧W.cell? ⟨w.heap.size,1,none⟩=some (.int .i64 t.f.body)∧W.cell? ⟨w.heap.size,2,none⟩=some (.slice Av t.f.sorts.length cv)))
  (first | exact hS0 | exact HS.out _ hb3 | exact HS.out _ hb2 | exact HS.out _ hb1 | go_keep)
  (first
   | (go_at_call 152;(with_reducible refine (HC1.out _ hbd).mono ?_);rintro e W1 ⟨rfl,hb1'⟩
      have hb1:Below Wq.heap.size Wq W1:=hbd.trans (hb1'.mono hbd.size))
   | (go_at_call 157;(with_reducible refine (HC2.out _ hb1).mono ?_);rintro e W2 ⟨rfl,hb2'⟩
      have hb2:Below Wq.heap.size Wq W2:=hb1.trans (hb2'.mono hb1.size))
   | (go_at_call 156;(with_reducible refine (HC4.out W2).mono ?_);rintro e W3 ⟨rfl,hb3'⟩
      have hb3:Below Wq.heap.size Wq W3:=(hb2.trans ((below_new W2 (.cells #[.int .i64 e0,.int .i64 e1] 35)).mono hb2.size)).trans (hb3'.mono (by have:=hb2.size;simp;omega))))
 clear hb3' hb2' hb1' hb2 hb1 hbd hS0 HC1 HC2 HC4 HS hWq
 have HB3:=Lib.hid hb3
 have HK3:=Lib.hid (HK0.out.below hb3 HK0.out.lt)
 have HT3:=Lib.hid (HT0.out.below hb3)
 have HBW3:=Lib.hid (HB0.out.trans (hb3.mono HB0.out.size))
 clear hb3
 by_cases hq:e2=0
 · have hbn:=bne_f hq
   have he0:e0=0:=by
    have:=HE2.out
    by_cases h:e0=0
    · exact h
    · rw [if_pos h] at this;omega
   have he1:e1=0:=by
    have:=HE2.out
    rw [if_neg (by omega)] at this
    omega
   have HX1:=Lib.hid ((HX0.out.trans (if_neg (by omega))).trans (if_neg (by omega)))
   have HF0:=Lib.hid (HE0.out.trans he0)
   have HC:=Lib.hid (checkCase_any t.f (.slice Av t.f.sorts.length cv) t.cs (.slice Ac t.cs.length cc) W3 HT3.out.s hn HT3.out.c)
   have hca:caErr t.f t.cs=cntErr t.f.sorts.length t.cs:=by unfold caErr;rw [if_neg (fun h=>h HF0.out)]
   rw [hca] at HC
   have k0:=HK3.out.cell 0
   have k1:=HK3.out.cell 1
   have k2:=HK3.out.cell 2
   have k3:=HK3.out.cell 3
   have kl:=HK3.out.lt
   subst hq
   clear he0 he1 HX0 HE2 HE0 hca
   go_wp2_with fail
   refine HC.out.mono ?_
   rintro e W4 ⟨rfl,hb4⟩
   have HK4:=Lib.hid (HK3.out.below hb4 HK3.out.lt)
   have HT4:=Lib.hid (HT3.out.below hb4)
   have HBW4:=Lib.hid (HBW3.out.trans (hb4.mono HBW3.out.size))
   clear hb4 k0 k1 k2 k3 kl HC
   by_cases hq:cntErr t.f.sorts.length t.cs=0
   · have hbn:=bne_f hq
     have HX2:=Lib.hid (HX1.out.trans (if_neg (fun h=>h hq)))
     have HC:=Lib.hid (faceOf_any t.f (.slice Av t.f.sorts.length cv) W4 HT4.out.s hm)
     have k0:=HK4.out.cell 0
     have k1:=HK4.out.cell 1
     have k2:=HK4.out.cell 2
     have kl:=HK4.out.lt
     clear HX1
     rw [hq] at hbn ⊢
     clear hq
     go_wp2_with fail
     refine HC.out.mono ?_
     rintro e W5 ⟨vs,rfl,hio,hb5⟩
     have HIO:=Lib.hid hio
     obtain ⟨As,cs',rfl⟩:=hio.shape
     have hbx:=below_new W5 (.cells (xfs t.f (.slice Av t.f.sorts.length cv) (.slice As (spl t.f.sorts t.f.sorts.length).length cs')) 189)
     have hb6:=hb5.trans (hbx.mono hb5.size)
     have HFX:=Lib.hid (Blk.new W5 189 (xfs t.f (.slice Av t.f.sorts.length cv) (.slice As (spl t.f.sorts t.f.sorts.length).length cs')))
     have HK6:=Lib.hid (HK4.out.below hb6 HK4.out.lt)
     have HT6:=Lib.hid (HT4.out.below hb6)
     have HBW6:=Lib.hid (HBW4.out.trans (hb6.mono HBW4.out.size))
     clear hb5 hbx hb6 hio k0 k1 k2 kl HC
     have k4:=HK6.out.cell 4
     have k5:=HK6.out.cell 5
     have kl:=HK6.out.lt
     have x0:=HFX.out.cell 0
     have x1:=HFX.out.cell 1
     have x2:=HFX.out.cell 2
     have x3:=HFX.out.cell 3
     have xl:=HFX.out.lt
     generalize hWx:W5.alloc (.cells (xfs t.f (.slice Av t.f.sorts.length cv) (.slice As (spl t.f.sorts t.f.sorts.length).length cs')) 189)=W6 at *
     by_cases hl:12 < t.ind.length
     · have hlz:(12:Int) < (t.ind.length:Int):=by omega
       have HX3:=Lib.hid (HX2.out.trans (if_pos hl))
       go_wp2_with fail
       go_ret
       exact HP.out _ _ HX3.out.symm HBW6.out
     · have hlz:¬(12:Int) < (t.ind.length:Int):=by omega
       have HX3:=Lib.hid (HX2.out.trans (if_neg hl))
       have hfew:=(fnErr_few HF0.out).2
       have HC:=Lib.hid (sortsErr_any t.f (.slice Av t.f.sorts.length cv) (.slice As (spl t.f.sorts t.f.sorts.length).length cs') t.ind (.slice Ai t.ind.length ci) true W6 HT6.out.s HT6.out.i (by omega) (by omega))
       clear HX2
       go_wp2_with fail
       refine HC.out.mono ?_
       rintro e W7 ⟨rfl,hb7⟩
       have HK7:=Lib.hid (HK6.out.below hb7 HK6.out.lt)
       have HFX7:=Lib.hid (HFX.out.below hb7 HFX.out.lt)
       have HT7:=Lib.hid (HT6.out.below hb7)
       have HBW7:=Lib.hid (HBW6.out.trans (hb7.mono HBW6.out.size))
       clear hb7 HC x0 x1 x2 x3 xl k4 k5 kl
       by_cases hq:lstErr t.f t.ind true=0
       · have hbn:=bne_f hq
         have HX4:=Lib.hid (HX3.out.trans (if_neg (fun h=>h hq)))
         clear HX3
         rw [hq] at hbn ⊢
         clear hq
         have k4:=HK7.out.cell 4
         have k5:=HK7.out.cell 5
         have kl:=HK7.out.lt
         by_cases hl2:30 < t.words.length
         · have hlz2:(30:Int) < (t.words.length:Int):=by omega
           have HX5:=Lib.hid (HX4.out.trans (if_pos hl2))
           go_wp2_with fail
           go_ret
           exact HP.out _ _ HX5.out.symm HBW7.out
         · have hlz2:¬(30:Int) < (t.words.length:Int):=by omega
           have HX5:=Lib.hid (HX4.out.trans (if_neg hl2))
           clear HX4
           go_wp2_with fail
           have HWE:Hid (wdsErr t.f t.words=(fstE (fun j=>wdErr t.f (gl t.words j)) t.words.length).2):=rfl
           have HSS:Hid (∀ k,k < t.words.length→sumL t.words (k+1)=sumL t.words k+(gl t.words k).length):=(show ∀ k,_ from fun k=>sumL_succ)
           generalize hN:t.words.length=N at *
           have HN:=Lib.hid hN
           clear hN
           generalize hgx:W5.heap.size=gx at *
           clear hgx
           go_loopg [7,9,10,54] N (fun gg s7 _ _ s54 wr=>∃ k:Nat,k≤N∧N-k≤gg∧s54=.int .i64 (k:Int)∧s7=.int .i64 ((t.ind.length:Int)+(sumL t.words k:Int))∧sumL t.words k≤60*k∧Hid (Below W7.heap.size W7 wr)∧Hid (∀ j,j < k→wdErr t.f (gl t.words j)=0))
           case atStart=>exact ⟨0,by omega,by omega,rfl,by simp [sumL],by simp [sumL],Below.refl _ _,fun j hj=>absurd hj (Nat.not_lt_zero _)⟩
           case round=>
            obtain ⟨k,hk,hg,rfl,rfl,hsl,HR,HO⟩:=hrel
            have HKR:=Lib.hid (HK7.out.below HR.out HK7.out.lt)
            have HFR:=Lib.hid (HFX7.out.below HR.out HFX7.out.lt)
            have HTR:=Lib.hid (HT7.out.below HR.out)
            have HBR:=Lib.hid (HBW7.out.trans (HR.out.mono HBW7.out.size))
            clear k4 k5 kl
            by_cases hlt:k < N
            · have hltz:(k:Int) < (N:Int):=by omega
              have x0:=HFR.out.cell 0
              have x1:=HFR.out.cell 1
              have x2:=HFR.out.cell 2
              have x3:=HFR.out.cell 3
              have xl:=HFR.out.lt
              obtain ⟨hs,⟨A0,b0,o0,c0,he,h1,h2,-⟩,h3⟩:=HTR.out.w
              rw [HN.out] at he h1
              injection he with ea1 ea2 ea3
              clear ea2 ea3
              subst ea1
              obtain ⟨rfl,hbl⟩:=h1 (by omega)
              have hz:=h2 k (by rw [HN.out];omega)
              have hiv:=h3 k (by rw [HN.out];exact hlt)
              have HSK:=Lib.hid (HSS.out k hlt)
              have HFX8:Hid (wdErr t.f (gl t.words k)≠0→tkErr t=wdErr t.f (gl t.words k)):=(show _→_ from fun h=>by
               have h9:wdsErr t.f t.words=wdErr t.f (gl t.words k):=HWE.out.trans (by rw [fstE_hit (g:=fun j=>wdErr t.f (gl t.words j)) h HO.out hlt])
               rw [HX5.out,h9,if_pos h])
              have HOX:Hid (wdErr t.f (gl t.words k)=0→∀ j,j < k+1→wdErr t.f (gl t.words j)=0):=(show _→_ from fun h j hj=>by
               by_cases e:j=k
               · subst e;exact h
               · exact HO.out j (by omega))
              have HWK:Hid (wdErr t.f (gl t.words k)=if (gl t.words k).length=0 then 10 else if 60 < (gl t.words k).length then 8 else lstErr t.f (gl t.words k) false):=rfl
              generalize hs k=vk at *
              clear h2 h3 h1 hs
              obtain ⟨A',b',o',c',rfl,-⟩:=hiv.open
              have HIV:=Lib.hid hiv
              clear hiv
              generalize gl t.words k=l at *
              by_cases hl3:l.length=0
              · have HX6:=Lib.hid (HWK.out.trans (if_pos hl3))
                have hlz3:(l.length:Int)=0:=by omega
                go_wp2_with fail
                go_ret
                exact HP.out _ _ (by rw [HFX8.out (by rw [HX6.out];decide),HX6.out]) HBR.out
              · have hlz3:¬(l.length:Int)=0:=by omega
                by_cases hl4:60 < l.length
                · have hlz4:(60:Int) < (l.length:Int):=by omega
                  have HX6:=Lib.hid ((HWK.out.trans (if_neg hl3)).trans (if_pos hl4))
                  go_wp2_with fail
                  go_ret
                  exact HP.out _ _ (by rw [HFX8.out (by rw [HX6.out];decide),HX6.out]) HBR.out
                · have hlz4:¬(60:Int) < (l.length:Int):=by omega
                  have HX6:=Lib.hid ((HWK.out.trans (if_neg hl3)).trans (if_neg hl4))
                  have HC:=Lib.hid (sortsErr_any t.f (.slice Av t.f.sorts.length cv) (.slice As (spl t.f.sorts t.f.sorts.length).length cs') l (.slice A' l.length c') false wr HTR.out.s HIV.out (by omega) (by omega))
                  go_wp2_with fail
                  refine HC.out.mono ?_
                  rintro e W8 ⟨rfl,hb8⟩
                  have HR8:=Lib.hid (HR.out.trans (hb8.mono HR.out.size))
                  have HBW8:=Lib.hid (HBR.out.trans (hb8.mono HBR.out.size))
                  clear hb8 HC x0 x1 x2 x3 xl hz
                  by_cases hq:lstErr t.f l false=0
                  · have hbn:=bne_f hq
                    have HX7:=Lib.hid (HX6.out.trans hq)
                    rw [hq] at hbn ⊢
                    clear hq
                    go_wp2_with fail
                    go_roundg (N-(k+1))
                    case measure=>omega
                    case rel=>exact ⟨k+1,by omega,by omega,by go_num,by rw [HSK.out];go_num,by rw [HSK.out];omega,HR8.out,HOX.out HX7.out⟩
                  · have hbn:=bne_t hq
                    have HX7:=Lib.hid (HFX8.out (by rw [HX6.out];exact hq))
                    have HX8:=Lib.hid (HX7.out.trans HX6.out)
                    generalize lstErr t.f l false=e5 at *
                    go_wp2_with fail
                    go_ret
                    exact HP.out _ _ HX8.out.symm HBW8.out
            · have hltz:¬(k:Int) < (N:Int):=by omega
              have hkn:k=N:=by omega
              have k6:=HKR.out.cell 6
              have kl:=HKR.out.lt
              have hwz:wdsErr t.f t.words=0:=HWE.out.trans (by rw [fstE_none (n:=N) (by rw [←hkn];exact HO.out)])
              have HX6:=Lib.hid (HX5.out.trans (if_neg (fun h=>h hwz)))
              have HT3:Hid (tk3 t=if 200 < t.ind.length+sumL t.words N then 8 else if win t.me 1 1000000=false then 2 else 0):=(by show _=_;unfold tk3;rw [HN.out])
              rw [hkn] at hsl ⊢
              clear hwz HX5
              generalize sumL t.words N=sm at *
              by_cases hl3:200 < t.ind.length+sm
              · have hlz3:(200:Int) < (t.ind.length:Int)+(sm:Int):=by omega
                have HX7:=Lib.hid (HX6.out.trans (HT3.out.trans (if_pos hl3)))
                go_wp2_with fail
                go_ret
                exact HP.out _ _ HX7.out.symm HBR.out
              · have hlz3:¬(200:Int) < (t.ind.length:Int)+(sm:Int):=by omega
                have HX7:=Lib.hid (HX6.out.trans (HT3.out.trans (if_neg hl3)))
                cases hw:win t.me 1 1000000 with
                | false=>
                 have HX8:=Lib.hid (HX7.out.trans (if_pos hw))
                 go_wp2_with ((go_at_call 159;(with_reducible refine (within107_any _ _ _ _).mono ?_);rintro e w' ⟨rfl,hw'⟩;subst hw';rw [hw]))
                 go_ret
                 exact HP.out _ _ HX8.out.symm HBR.out
                | true=>
                 have HX8:=Lib.hid (HX7.out.trans (if_neg (by rw [hw];simp)))
                 go_wp2_with ((go_at_call 159;(with_reducible refine (within107_any _ _ _ _).mono ?_);rintro e w' ⟨rfl,hw'⟩;subst hw';rw [hw]))
                 go_ret
                 exact HP.out _ _ HX8.out.symm HBR.out
       · have hbn:=bne_t hq
         have HX4:=Lib.hid (HX3.out.trans (if_pos hq))
         generalize lstErr t.f t.ind true=e4 at *
         go_wp2_with fail
         go_ret
         exact HP.out _ _ HX4.out.symm HBW7.out
   · have hbn:=bne_t hq
     have HX2:=Lib.hid (HX1.out.trans (if_pos hq))
     generalize cntErr t.f.sorts.length t.cs=e3 at *
     go_wp2_with fail
     go_ret
     exact HP.out _ _ HX2.out.symm HBW4.out
 · have hbn:=bne_t hq
   have HXX:Hid (tkErr t=e2):=HX0.out.trans (by
    have:=HE2.out
    by_cases h:e0=0
    · rw [if_neg (fun h2=>h2 h)] at this ⊢
      rw [if_pos (by omega)]
      omega
    · rw [if_pos h] at this ⊢
      omega)
   go_wp2_with fail
   go_ret
   exact HP.out _ _ HXX.out.symm HBW3.out
end Go.Proofs.YtbnganlfelgogaaGreat
namespace Go.Proofs.YtbnganlfelgogaaGreat
open Go.RowKit
theorem zv_set (zs:List Int) (i:Nat) (x:Int):zv (zs.set i x)=(zv zs).set i (.int .i64 x):=by
 unfold zv;rw [List.map_set]
theorem IO.at {W:World} {B:Nat} {zs:List Int} {A:Option Addr} {n c:Nat} (h:IO W B zs (.slice A n c)) {i:Nat} (hi:i < zs.length) :
 ∃ g,A=some ⟨g,0,none⟩∧B≤g∧g < W.heap.size∧W.cell? ⟨g,i,none⟩=some (.int .i64 (gz zs i))∧W.frozen? ⟨g,i,none⟩=false∧∀ x,IO (W.setCell ⟨g,i,none⟩ (.int .i64 x)) B (zs.set i x) (.slice A n c):=by
 rcases h.2 with ⟨_,h0⟩ | ⟨g,cap,cur,e,hB,hh,h1,h2,h3,h4⟩
 · omega
 · injection e with e1 e2 e3
   subst e1 e2 e3
   have hb:Blk W g 3 cur:=hh
   have hc:=hb.cell i
   have hil:i < cur.size:=by omega
   refine ⟨g,rfl,hB,hb.lt,?_,hb.frozen i,fun x=>?_⟩
   · rw [hc,Array.getElem?_eq_getElem hil]
     have h5:=zv_get hi
     rw [←h4,List.getElem?_take,if_pos (by omega),Array.getElem?_toList] at h5
     rw [←h5,Array.getElem?_eq_getElem hil]
   · refine ⟨by rw [zv_len],.inr ⟨g,c,cur.setIfInBounds i (.int .i64 x),by rw [List.length_set],hB,hb.set_ i _,by rw [List.length_set];exact h1,h2,by rw [Array.size_setIfInBounds];exact h3,?_⟩⟩
     rw [zv_set,←h4,Array.toList_setIfInBounds,List.length_set,List.take_set]
theorem gz_set {zs:List Int} {i j:Nat} {x:Int} (hi:i < zs.length):gz (zs.set i x) j=if j=i then x else gz zs j:=by
 unfold gz
 rw [List.getD_eq_getElem?_getD,List.getD_eq_getElem?_getD,List.getElem?_set]
 by_cases e:i=j
 · subst e;simp [hi]
 · rw [if_neg e,if_neg (fun h=>e h.symm)]
def takK (cs zs:List Int):Nat→Option (List Int)
 | 0=>some cs
 | k+1=>match takK cs zs k with
  | none=>none
  | some out=>if gz out (gz zs k).toNat=0 then none else some (out.set (gz zs k).toNat (gz out (gz zs k).toNat-1))
def takR (cs zs:List Int):Option (List Int):=takK cs zs zs.length
theorem takK_none {cs zs:List Int} {k:Nat} (h:takK cs zs k=none):∀ j,takK cs zs (k+j)=none
 | 0=>h
 | j+1=>by
  show takK cs zs (k+j+1)=none
  unfold takK
  rw [takK_none h j]
def CsOk (n:Nat) (cs:List Int):Prop:=cs.length=n∧∀ i,i < n→0≤gz cs i∧gz cs i≤1000000
theorem CsOk.dec {n:Nat} {cs:List Int} (h:CsOk n cs) {q:Nat} (hq:q < n) (h0:gz cs q≠0):CsOk n (cs.set q (gz cs q-1)):=by
 refine ⟨by rw [List.length_set];exact h.1,fun i hi=>?_⟩
 rw [gz_set (by rw [h.1];exact hq)]
 have h1:=h.2 i hi
 have h2:=h.2 q hq
 split <;> omega
theorem cnt_ok {n:Nat} {cs:List Int} (h:cntErr n cs=0):CsOk n cs:=by
 unfold cntErr at h
 split at h
 · omega
 · rename_i hl
   split at h
   · omega
   · rename_i hx
     have:=idx_neg hx
     refine ⟨by omega,fun i hi=>?_⟩
     have h3:=this i (by omega)
     simp [win] at h3
     omega
def TakePost (w:World) (cs zs:List Int) (e:Ending) (w':World):Prop:=Below w.heap.size w w'∧((takR cs zs=none∧e=.returned (.tuple #[.slice none 0 0,.bool false]))∨∃ out v,takR cs zs=some out∧e=.returned (.tuple #[v,.bool true])∧CsOk cs.length out∧IO w' w.heap.size out v)
theorem take_any (cs zs:List Int) (vc vz:Value) (w:World) (hc:IV w cs vc) (hz:IV w zs vz) (hin:∀ j,j < zs.length→0≤gz zs j∧gz zs j < cs.length) (hcs:CsOk cs.length cs) (hm:cs.length≤1000000) (hmz:zs.length≤1000000) :
 Calls Tryz.prog 126 #[vc,vz] w (TakePost w cs zs):=by
 obtain ⟨Ac,bc,oc,cc,rfl,hAc,hzc,-,-⟩:=hc.open
 obtain ⟨Az,bz,oz,cz,rfl,hAz,hzz,-,-⟩:=hz.open
 have HC:=Lib.hid (cloneI_any cs Ac bc oc cc w hAc hzc hm)
 have HA:=Lib.hid hAz
 have HZ:=Lib.hid hzz
 have HIN:=Lib.hid hin
 have HCS:=Lib.hid hcs
 have HN:Hid (∀ W,takR cs zs=none→Below w.heap.size w W→TakePost w cs zs (.returned (.tuple #[.slice none 0 0,.bool false])) W):=(show ∀ W,_ from fun W h1 h2=>⟨h2,.inl ⟨h1,rfl⟩⟩)
 have HS:Hid (∀ W out v,takR cs zs=some out→CsOk cs.length out→IO W w.heap.size out v→Below w.heap.size w W→TakePost w cs zs (.returned (.tuple #[v,.bool true])) W):=(show ∀ W out v,_ from fun W out v h1 h2 h3 h4=>⟨h4,.inr ⟨out,v,h1,rfl,h2,h3⟩⟩)
 have HT:Hid (takR cs zs=takK cs zs zs.length):=rfl
 clear hc hz hin hcs hAc hzc hAz hzz
 generalize hN:zs.length=N at *
 have HL:=Lib.hid hN
 clear hN
 go_enter Tryz.func126,Tryz.ntmps126
 go_wp2_with fail
 refine HC.out.mono ?_
 rintro e w1 ⟨v1,rfl,hio,hb1⟩
 obtain ⟨A1,c1,rfl⟩:=hio.shape
 have HIO1:=Lib.hid hio
 have HB1:=Lib.hid hb1
 clear hio hb1 HC
 go_wp2_with fail
 go_loopg [8,13] N (fun gg _ s13 wr=>∃ (k:Nat) (out:List Int),k≤N∧N-k≤gg∧s13=.int .i64 (k:Int)∧Hid (takK cs zs k=some out)∧Hid (CsOk cs.length out)∧Hid (IO wr w.heap.size out (.slice A1 cs.length c1))∧Hid (Below w.heap.size w wr))
 case atStart=>exact ⟨0,cs,by omega,by omega,rfl,rfl,HCS.out,HIO1.out,HB1.out⟩
 case round=>
  obtain ⟨k,out,hk,hg,rfl,HTK,HOK,HIO,HB⟩:=hrel
  by_cases hlt:k < N
  · have hltz:(k:Int) < (N:Int):=by omega
    obtain ⟨rfl,hbl⟩:=HA.out (by omega)
    have hz:=(HB.out.cell (p:=⟨bz,oz+k,none⟩) hbl).trans (HZ.out k (by rw [HL.out];exact hlt))
    have hbl':=Nat.lt_of_lt_of_le hbl HB.out.size
    have hik:=HIN.out k hlt
    have HTS:Hid (takK cs zs (k+1)=if gz out (gz zs k).toNat=0 then none else some (out.set (gz zs k).toNat (gz out (gz zs k).toNat-1))):=(by
     show takK cs zs (k+1)=_
     rw [takK,HTK.out])
    generalize gz zs k=z at *
    obtain ⟨q,rfl⟩:=Int.eq_ofNat_of_zero_le hik.1
    rw [Int.toNat_natCast] at HTS
    have hql:q < cs.length:=by omega
    have hqz:(q:Int) < (cs.length:Int):=by omega
    obtain ⟨g,rfl,hBg,hgl,hgc,hgf,hput⟩:=HIO.out.at (i:=q) (by rw [HOK.out.1];exact hql)
    have hr:=HOK.out.2 q hql
    have HPT:=Lib.hid hput
    clear hput
    by_cases h0:gz out q=0
    · have HX:=Lib.hid (HTS.out.trans (if_pos h0))
      have HR:Hid (takR cs zs=none):=(by
       show takR cs zs=none
       rw [HT.out]
       have:=takK_none HX.out (N-(k+1))
       rwa [show k+1+(N-(k+1))=N by omega] at this)
      rw [h0] at hgc
      go_wp2_with fail
      go_ret2
      exact HN.out _ HR.out HB.out
    · have HX:=Lib.hid (HTS.out.trans (if_neg h0))
      have HD:=Lib.hid (HOK.out.dec hql h0)
      have HPX:=Lib.hid (HPT.out (gz out q-1))
      generalize gz out q=y at *
      go_wp2_with fail
      go_roundg (N-(k+1))
      case measure=>omega
      case rel=>exact ⟨k+1,_,by omega,by omega,by go_num,HX.out,HD.out,HPX.out,HB.out.setCell (p:=⟨g,q,none⟩) hBg _⟩
  · have hltz:¬(k:Int) < (N:Int):=by omega
    have hkn:k=N:=by omega
    have HR:Hid (takR cs zs=some out):=(by show takR cs zs=some out;rw [HT.out,←hkn];exact HTK.out)
    go_wp2_with fail
    go_ret2
    exact HS.out _ _ _ HR.out HOK.out HIO.out HB.out
end Go.Proofs.YtbnganlfelgogaaGreat
