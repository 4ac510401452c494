/- Justify: the line of a task. -/
import Derived.Test.YtbnganlfelgogaaGreatVJoi
import Derived.Test.YtbnganlfelgogaaGreatVWid
import Derived.Test.YtbnganlfelgogaaGreatVSpr
set_option linter.unusedSimpArgs false
set_option linter.unusedVariables false
set_option maxRecDepth 100000
set_option maxHeartbeats 40000000
namespace Go.Proofs.YtbnganlfelgogaaGreat
open Go.RowKit
theorem joinK_perm (ind:List Int) (ws gs:List (List Int)):∀ k,k≤ws.length→k≤gs.length+1→(joinK ind ws gs k).Perm (ind++(ws.take k).flatten++(gs.take (k-1)).flatten)
 | 0,_,_=>by simp [joinK]
 | k+1,h1,h2=>by
  have ih:=joinK_perm ind ws gs k (by omega) (by omega)
  unfold joinK
  rw [take_flat (by omega)]
  rcases Nat.eq_zero_or_pos k with e | e
  · subst e
    rw [if_neg (by omega)]
    simp [joinK]
  · obtain ⟨kp,rfl⟩:∃ q,k=q+1:=⟨k-1,by omega⟩
    rw [if_pos (by omega),show kp+1+1-1=kp+1 from rfl,show kp+1-1=kp from rfl,take_flat (ls:=gs) (k:=kp) (by omega)]
    rw [show kp+1-1=kp from rfl] at ih
    refine ((ih.append_right _).append_right _).trans ?_
    simp only [List.append_assoc]
    refine List.Perm.append_left _ (List.Perm.append_left _ ?_)
    rw [←List.append_assoc,←List.append_assoc]
    exact List.perm_append_comm.trans (by simp)
def chzT (t:Tsk) (lf:List Int):Option (List Nat):=fewS (qsF t.f lf) (fillT t).toNat (t.words.length-1) (2*(t.words.length-1)+1)
def cntT (t:Tsk) (r:List Nat):List Int:=putR (List.replicate t.f.sorts.length 0) (spl t.f.sorts t.f.sorts.length) r
def justL (t:Tsk) (r:List Nat):List Int:=joinK t.ind t.words (sprR t.f (cntT t r) (t.words.length-1)) t.words.length
theorem takK_ok {n:Nat} {cs zs:List Int} (h:CsOk n cs) (hin:∀ j,j < zs.length→0≤gz zs j∧gz zs j < (n:Int)):∀ k,k≤zs.length→∀ out,takK cs zs k=some out→CsOk n out
 | 0,_,out,e=>by unfold takK at e;injection e with e;subst e;exact h
 | k+1,hk,out,e=>by
  unfold takK at e
  cases hq:takK cs zs k with
  | none=>rw [hq] at e;cases e
  | some o=>
   rw [hq] at e
   have ih:=takK_ok h hin k (by omega) o hq
   simp only at e
   split at e
   · cases e
   · rename_i hne
     injection e with e
     subst e
     have:=hin k (by omega)
     exact ih.dec (by omega) hne
theorem takR_ok {n:Nat} {cs zs out:List Int} (h:CsOk n cs) (hin:∀ j,j < zs.length→0≤gz zs j∧gz zs j < (n:Int)) (e:takR cs zs=some out):CsOk n out:=takK_ok h hin _ (Nat.le_refl _) out e
theorem qsF_at {f:Fnt} {lf:List Int} {j:Nat} (hj:j < (spl f.sorts f.sorts.length).length):(qsF f lf)[j]?=some ((gz lf (gz (spl f.sorts f.sorts.length) j).toNat).toNat,(wd f (gz (spl f.sorts f.sorts.length) j)).toNat):=by
 unfold qsF
 rw [List.getElem?_map,List.getElem?_eq_getElem hj,gz_get hj]
 rfl
theorem opnE_ok {t:Tsk} (h:opnE t=0):TkOk t∧(∃ lf,takR t.cs (ownL t)=some lf∧CsOk t.f.sorts.length lf)∧0≤fillT t∧fillT t≤20000:=by
 unfold opnE at h
 split at h
 · omega
 rename_i h0
 have hok:=tk_ok (Classical.not_not.1 h0)
 split at h
 · omega
 rename_i h1
 split at h
 · omega
 split at h
 · omega
 refine ⟨hok,?_,by omega,by omega⟩
 obtain ⟨lf,hlf⟩:=Option.ne_none_iff_exists'.1 h1
 exact ⟨lf,hlf,takR_ok hok.c (own_in hok).1 hlf⟩
def JuPost (t:Tsk) (w:World) (e:Ending) (w':World):Prop:=Below w.heap.size w w'∧
 ((opnE t≠0∧e=.returned (.tuple #[.agg #[.int .i64 0,.slice none 0 0],.int .i64 (opnE t)]))∨(opnE t=0∧∃ lf,takR t.cs (ownL t)=some lf∧
   ((chzT t lf=none∧e=.returned (.tuple #[.agg #[.int .i64 0,.slice none 0 0],.int .i64 12]))∨
     ∃ r v,chzT t lf=some r∧e=.returned (.tuple #[.agg #[.int .i64 t.me,v],.int .i64 0])∧IO w' w.heap.size (justL t r) v)))
theorem ju_res {W:World} {bR:Nat} {cs:Array Value} (hg:Blk W bR 83 cs) (hs:cs.size=2) (tmps:Array Value) (hp:tmps.getD 2 undef=.pointer (some ⟨bR,0,none⟩)) :
 (results Tryz.f168 tmps).run Tryz.prog W=.ok (.tuple #[.agg cs,tmps.getD 3 undef]) W:=by
 have h:Tryz.f168.results=#[.cell 2 83,.tmp 3]:=rfl
 have hi:(Tryz.prog.info? 83).map (·.size)=some cs.size:=by rw [hs];kernel_rfl
 have hp':tmps[2]?.getD undef=.pointer (some ⟨bR,0,none⟩):=by simpa using hp
 simp only [results,h]
 simp [Sem.run_bind,Result.andThen,hp',asAddr,run_loadVar_row W bR 83 83 cs (0,0) _ hg Tryz.underlying83 rfl hi]
theorem Blk.two {W:World} {g:Nat} {t:TypeId} {c0 c1:Value} (h:Blk W g t #[c0,c1]) (d0 d1:Value):Blk ((W.setCell ⟨g,0,none⟩ d0).setCell ⟨g,1,none⟩ d1) g t #[d0,d1]:=by
 have:=(h.set_ 0 d0).set_ 1 d1
 simpa using this
theorem below_two {B:Nat} {W0 W:World} {g:Nat} (h:Below B W0 W) (hg:B≤g) (d0 d1:Value):Below B W0 ((W.setCell ⟨g,0,none⟩ d0).setCell ⟨g,1,none⟩ d1):=
 (h.setCell (p:=⟨g,0,none⟩) hg d0).setCell (p:=⟨g,1,none⟩) hg d1
theorem justify_any (t:Tsk) (v vc vi vw:Value) (w:World) (h:TkV w t v vc vi vw) (hn:t.f.name.size≤9223372036854775807) (hm:t.f.sorts.length≤100000) :
 Calls Tryz.prog 168 #[.agg (xts t v vc vi vw)] w (JuPost t w):=by
 have hb0:=below_new w (.cells (xts t v vc vi vw) 124)
 have hb1:=below_new (w.alloc (.cells (xts t v vc vi vw) 124)) (.cells #[.int .i64 0,.slice none 0 0] 83)
 have hK:=Blk.new w 124 (xts t v vc vi vw)
 have hR:=Blk.new (w.alloc (.cells (xts t v vc vi vw) 124)) 83 #[.int .i64 0,.slice none 0 0]
 rw [World.size_alloc] at hR
 have hT:=(h.below hb0).below hb1
 have hK2:=hK.below hb1 hK.lt
 have hB:=hb0.trans (hb1.mono hb0.size)
 have HC:=Lib.hid (open55_any t v vc vi vw _ hT hn hm)
 obtain ⟨Av,cv,rfl⟩:=h.s.shape
 obtain ⟨Ac,_,_,cc,rfl,-⟩:=h.c.open
 obtain ⟨Ai,_,_,ci,rfl,-⟩:=h.i.open
 obtain ⟨Aw,cw,rfl,-,-⟩:=h.w.shape
 have c0:=hK2.cell 0
 have c1:=hK2.cell 1
 have c2:=hK2.cell 2
 have c3:=hK2.cell 3
 have c4:=hK2.cell 4
 have c5:=hK2.cell 5
 have c6:=hK2.cell 6
 have HB:=Lib.hid hB
 have HT:=Lib.hid hT
 have HK:=Lib.hid hK2
 have HR:=Lib.hid hR
 have HERR:Hid (∀ W x,x=opnE t→opnE t≠0→Below w.heap.size w W→JuPost t w (.returned (.tuple #[.agg #[.int .i64 0,.slice none 0 0],.int .i64 x])) W):=(show ∀ W x,_ from fun W x e h0 h=>by subst e;exact ⟨h,.inl ⟨h0,rfl⟩⟩)
 clear hb0 hb1 hK h hT hK2 hR hB
 go_enter Tryz.func168,Tryz.ntmps168
 go_upto_region 1 with fail
 generalize (w.alloc (.cells (xts t (.slice Av t.f.sorts.length cv) (.slice Ac t.cs.length cc) (.slice Ai t.ind.length ci) (.slice Aw t.words.length cw)) 124)).alloc (.cells #[.int .i64 0,.slice none 0 0] 83)=W0 at *
 go_wp2_with fail
 refine HC.out.mono ?_
 rintro e W1 ⟨hb1,hans⟩
 have HB1:=Lib.hid (HB.out.trans (hb1.mono HB.out.size))
 have HT1:=Lib.hid (HT.out.below hb1)
 have HK1:=Lib.hid (HK.out.below hb1 HK.out.lt)
 have HR1:=Lib.hid (HR.out.below hb1 HR.out.lt)
 clear hb1 c0 c1 c2 c3 c4 c5 c6 HB HT HK HR HC
 rcases hans with ⟨hne,rfl⟩ | ⟨hoe,vs,vl,lf,hlf,rfl,hvs,hvl⟩
 · have hbn:=bne_t hne
   have HQ:=Lib.hid hne
   generalize hoe:opnE t=te at *
   have r0:=HR1.out.cell 0
   have r1:=HR1.out.cell 1
   have z0:=Blk.frozen HR1.out 0
   have z1:=Blk.frozen HR1.out 1
   have rl:=HR1.out.lt
   clear hne
   go_wp2_with fail
   have hR2:=(HR1.out.two (.int .i64 0) (.slice none 0 0))
   refine bodyPost_ret (ju_res (hR2.below (below_new _ _) hR2.lt) rfl _ rfl) rfl ?_
   exact HERR.out _ _ rfl HQ.out ((below_two HB1.out (by omega) _ _).alloc (by have:=HB1.out.size;simp only [World.size_setCell];exact this) _)
 · obtain ⟨hok,⟨lf',hlf',hlok⟩,hf0,hf1⟩:=opnE_ok hoe
   rw [hlf] at hlf'
   injection hlf' with e
   subst e
   have HOK:=Lib.hid hok
   have HLF:=Lib.hid hlf
   have HOE:=Lib.hid hoe
   have HLO:=Lib.hid hlok
   have hwl:t.words.length≤30:=hok.w30
   obtain ⟨F,hF⟩:=Int.eq_ofNat_of_zero_le hf0
   have HF:=Lib.hid hF
   have hFb:F≤20000:=by omega
   obtain ⟨As,_,_,cs',rfl,-⟩:=hvs.open
   obtain ⟨Al,_,_,cz,rfl,-⟩:=hvl.open
   rw [hF]
   have hXP:XP W1 t.f (.slice Av t.f.sorts.length cv) (.slice As (spl t.f.sorts t.f.sorts.length).length cs') (.slice Al lf.length cz) (qsF t.f lf) (spl t.f.sorts t.f.sorts.length) lf:=by
    have hin:=spl_in t.f.sorts t.f.sorts.length
    refine ⟨HT1.out.s,hvs,hvl,(fnErr_few hok.f).2,hok.k,inF_iff.2 hin,hlok,by simp [qsF],fun j hj=>qsF_at hj,fun j hj=>?_,fun i j hij hj=>pair_gz (spl_pair _ _) hij hj⟩
    have hj2:=hin _ (gz_mem hj)
    exact wd_ok hok.f hj2
   have HXP:=Lib.hid hXP
   have HG:Hid (t.words.length-1≤29):=(show _≤29 by omega)
   generalize hGe:t.words.length-1=G at *
   have HGE:=Lib.hid hGe
   have hz:=Blk.new W1 263 (tks t (.slice Av t.f.sorts.length cv) (.slice As (spl t.f.sorts t.f.sorts.length).length cs') (.slice Ac t.cs.length cc) (.slice Ai t.ind.length ci) (.slice Aw t.words.length cw) (F:Int) (G:Int) (.slice Al lf.length cz))
   have hbz:=below_new W1 (.cells (tks t (.slice Av t.f.sorts.length cv) (.slice As (spl t.f.sorts t.f.sorts.length).length cs') (.slice Ac t.cs.length cc) (.slice Ai t.ind.length ci) (.slice Aw t.words.length cw) (F:Int) (G:Int) (.slice Al lf.length cz)) 263)
   have hXP2:XP (W1.alloc (.cells (tks t (.slice Av t.f.sorts.length cv) (.slice As (spl t.f.sorts t.f.sorts.length).length cs') (.slice Ac t.cs.length cc) (.slice Ai t.ind.length ci) (.slice Aw t.words.length cw) (F:Int) (G:Int) (.slice Al lf.length cz)) 263)) t.f (.slice Av t.f.sorts.length cv) (.slice As (spl t.f.sorts t.f.sorts.length).length cs') (.slice Al lf.length cz) (qsF t.f lf) (spl t.f.sorts t.f.sorts.length) lf:=
    ⟨hXP.s.below hbz,hXP.p.below hbz,hXP.l.below hbz,hXP.few,hXP.sp8,hXP.inF,hXP.lok,hXP.qlen,hXP.qat,hXP.wdp,hXP.asc⟩
   have hT2:=HT1.out.below hbz
   have HCH:=Lib.hid (choose_any t hXP2 hT2.c hT2.i hT2.w F G HG.out hFb)
   have HZ:=Lib.hid hz
   have HBZ:=Lib.hid hbz
   have HT2:=Lib.hid hT2
   have HK2:=Lib.hid (HK1.out.below hbz HK1.out.lt)
   have HR2:=Lib.hid (HR1.out.below hbz HR1.out.lt)
   have HB2:=Lib.hid (HB1.out.trans (hbz.mono HB1.out.size))
   clear hok hlf hoe hlok hf0 hf1 hF hvs hvl hXP hGe hXP2 hT2 hz hbz
   go_upto_region 4 with fail
   have HGL:Hid (w.heap.size+1 < W1.heap.size):=HR1.out.lt
   have HSZ2:Hid ((W1.alloc (.cells (tks t (.slice Av t.f.sorts.length cv) (.slice As (spl t.f.sorts t.f.sorts.length).length cs') (.slice Ac t.cs.length cc) (.slice Ai t.ind.length ci) (.slice Aw t.words.length cw) (F:Int) (G:Int) (.slice Al lf.length cz)) 263)).heap.size=W1.heap.size+1):=(show _=_ by simp)
   have HVS2:=Lib.hid (HXP.out.p.below HBZ.out)
   generalize W1.alloc (.cells (tks t (.slice Av t.f.sorts.length cv) (.slice As (spl t.f.sorts t.f.sorts.length).length cs') (.slice Ac t.cs.length cc) (.slice Ai t.ind.length ci) (.slice Aw t.words.length cw) (F:Int) (G:Int) (.slice Al lf.length cz)) 263)=W2 at *
   generalize W1.heap.size=g4 at *
   have y0:=HZ.out.cell 0
   have y1:=HZ.out.cell 1
   have y2:=HZ.out.cell 2
   have y3:=HZ.out.cell 3
   have y4:=HZ.out.cell 4
   have y5:=HZ.out.cell 5
   have y6:=HZ.out.cell 6
   have y7:=HZ.out.cell 7
   have y8:=HZ.out.cell 8
   have y9:=HZ.out.cell 9
   have y10:=HZ.out.cell 10
   have y11:=HZ.out.cell 11
   have y12:=HZ.out.cell 12
   have y13:=HZ.out.cell 13
   have yl:=HZ.out.lt
   clear HK1 HR1 HB1 HT1
   go_wp2_with fail
   refine HCH.out.mono ?_
   rintro e W3 ⟨hb3,hans⟩
   have HB3:=Lib.hid (HB2.out.trans (hb3.mono HB2.out.size))
   have HT3:=Lib.hid (HT2.out.below hb3)
   have HK3:=Lib.hid (HK2.out.below hb3 HK2.out.lt)
   have HR3:=Lib.hid (HR2.out.below hb3 HR2.out.lt)
   have HZ3:=Lib.hid (HZ.out.below hb3 HZ.out.lt)
   have HVS3:=Lib.hid (HVS2.out.below hb3)
   have HSZ3:Hid (g4 < W3.heap.size):=(show _ < _ from HZ3.out.lt)
   have HCE:Hid (chzT t lf=fewS (qsF t.f lf) F G (2*G+1)):=(show _=_ from by unfold chzT;rw [HF.out,HGE.out];rfl)
   clear hb3 HCH HZ HK2 HR2 HT2 HVS2 HBZ y0 y1 y2 y3 y4 y5 y6 y7 y8 y9 y10 y11 y12 y13 yl
   have r0:=HR3.out.cell 0
   have r1:=HR3.out.cell 1
   have z0:=Blk.frozen HR3.out 0
   have z1:=Blk.frozen HR3.out 1
   have rl:=HR3.out.lt
   rcases hans with ⟨hno,rfl⟩ | ⟨r,vC,hyes,rfl,hioC⟩
   · have HN:=Lib.hid hno
     clear hno
     go_wp2_with fail
     refine bodyPost_ret (ju_res (HR3.out.two (.int .i64 0) (.slice none 0 0)) rfl _ rfl) rfl ?_
     exact ⟨below_two HB3.out (by omega) _ _,.inr ⟨HOE.out,lf,HLF.out,.inl ⟨HCE.out.trans HN.out,rfl⟩⟩⟩
   · have hcz:=chz_ok HOK.out.f HLO.out (m:=2*G) hyes
     have HCZ:=Lib.hid hcz
     have HYES:=Lib.hid hyes
     have HIC:=Lib.hid hioC
     obtain ⟨AC,cC,rfl⟩:=hioC.shape
     have hcn:(putR (List.replicate t.f.sorts.length 0) (spl t.f.sorts t.f.sorts.length) r).length=t.f.sorts.length:=hcz.len
     have HCK:Hid (CsOk t.f.sorts.length (putR (List.replicate t.f.sorts.length 0) (spl t.f.sorts t.f.sorts.length) r)):=(show CsOk _ _ from ⟨hcn,fun i hi=>by
      have h1:=hcz.lim i hi
      have h2:=HLO.out.2 i hi
      rcases h1.2 with h | h <;> omega⟩)
     have HCT:Hid (cntT t r=putR (List.replicate t.f.sorts.length 0) (spl t.f.sorts t.f.sorts.length) r):=rfl
     clear hyes hioC hcz
     generalize putR (List.replicate t.f.sorts.length 0) (spl t.f.sorts t.f.sorts.length) r=cnt at *
     have HKS:Hid (∀ W,Below W3.heap.size W3 W→(W.cell? ⟨w.heap.size,6,none⟩=some (.int .i64 t.me)∧W.cell? ⟨w.heap.size,4,none⟩=some (.slice Ai t.ind.length ci)∧W.cell? ⟨w.heap.size,5,none⟩=some (.slice Aw t.words.length cw)∧W.cell? ⟨g4,0,none⟩=some (.string t.f.name)∧W.cell? ⟨g4,1,none⟩=some (.int .i64 t.f.body)∧W.cell? ⟨g4,2,none⟩=some (.slice Av t.f.sorts.length cv)∧W.cell? ⟨g4,3,none⟩=some (.slice As (spl t.f.sorts t.f.sorts.length).length cs')∧W.cell? ⟨g4,12,none⟩=some (.int .i64 (G:Int)))):=(show ∀ W,_ from fun W hW=>by
      have h:=HK3.out.below hW HK3.out.lt
      have h2:=HZ3.out.below hW HZ3.out.lt
      exact ⟨h.cell 6,h.cell 4,h.cell 5,h2.cell 0,h2.cell 1,h2.cell 2,h2.cell 3,h2.cell 12⟩)
     have HC58:Hid (∀ W,Below W3.heap.size W3 W→Calls Tryz.prog 197 #[.agg (xfs t.f (.slice Av t.f.sorts.length cv) (.slice As (spl t.f.sorts t.f.sorts.length).length cs')),.slice AC cnt.length cC,.int .i64 (G:Int)] W (LvPost W (sprR t.f cnt G))):=(show ∀ W,_ from fun W hW=>spread_any t.f _ _ cnt _ G W (HT3.out.s.below hW) (HVS3.out.below hW) ((HIC.out.iv).below hW) HOK.out.f (by have:=HOK.out.k;omega) HCK.out (by have:=HCZ.out.num.2;omega) (by have:=HG.out;omega))
     have hsl:(sprR t.f cnt G).length=G:=(spr_ok t.f (widR t.f cnt) G (by have:=HCZ.out.num.2;omega) _ (Nat.le_refl _)).len
     have hperm:=(spr_ok t.f (widR t.f cnt) G (by have:=HCZ.out.num.2;omega) _ (Nat.le_refl _)).perm
     have hjl:(joinK t.ind t.words (sprR t.f cnt G) t.words.length).length≤1000:=by
      have h1:=(joinK_perm t.ind t.words (sprR t.f cnt G) t.words.length (Nat.le_refl _) (by rw [hsl];have:=HGE.out;omega)).length_eq
      rw [h1,List.length_append,List.length_append,List.take_length]
      have h2:(sprR t.f cnt G).take (t.words.length-1)=sprR t.f cnt G:=List.take_of_length_le (by rw [hsl,HGE.out];exact Nat.le_refl _)
      rw [h2]
      have h3:(sprR t.f cnt G).flatten.length=(widR t.f cnt).length:=by
       have:=hperm.length_eq
       rw [List.take_length] at this
       exact this
      rw [h3]
      have h4:=HOK.out.all
      unfold sumL at h4
      rw [List.take_length] at h4
      have h5:=HCZ.out.num.2
      have h6:=HG.out
      omega
     have HC57:Hid (∀ W u,Below W3.heap.size W3 W→LV W (sprR t.f cnt G) u→Calls Tryz.prog 195 #[.slice Ai t.ind.length ci,.slice Aw t.words.length cw,u] W (CloPost W (joinK t.ind t.words (sprR t.f cnt G) t.words.length))):=(show ∀ W u,_ from fun W u hW hu=>join_any t.ind t.words (sprR t.f cnt G) _ _ u W (HT3.out.i.below hW) (HT3.out.w.below hW) hu (by rw [hsl];have:=HGE.out;omega) (by have:=HOK.out.w30;omega) (by omega))
     have HJL:Hid (justL t r=joinK t.ind t.words (sprR t.f cnt G) t.words.length):=(show _=_ from by unfold justL;rw [HCT.out,HGE.out])
     clear hsl hperm hjl hcn
     go_upto_region 7 with fail
     have hbd:Below W3.heap.size W3 W3.drew:=(Below.refl _ _).drew
     have hS0:=HKS.out _ hbd
     refine wp_region_split (fun W=>(W.cell? ⟨w.heap.size,6,none⟩=some (.int .i64 t.me)∧W.cell? ⟨w.heap.size,4,none⟩=some (.slice Ai t.ind.length ci)∧W.cell? ⟨w.heap.size,5,none⟩=some (.slice Aw t.words.length cw)∧W.cell? ⟨g4,0,none⟩=some (.string t.f.name)∧W.cell? ⟨g4,1,none⟩=some (.int .i64 t.f.body)∧W.cell? ⟨g4,2,none⟩=some (.slice Av t.f.sorts.length cv)∧W.cell? ⟨g4,3,none⟩=some (.slice As (spl t.f.sorts t.f.sorts.length).length cs')∧W.cell? ⟨g4,12,none⟩=some (.int .i64 (G:Int)))) 14 (by kernel_rfl) (by decide) ?_
     refine wpG_take 14 0 (v:=?_) rfl (by kernel_rfl) (fun _ _ _ h=>h) (Or.inl ⟨by rfl,?_⟩) (by assumption) ?_
     rotate_left
     · intro w hSw;(try dsimp only at hSw);go_simp;(try with_reducible rfl)
     (try simp only [pz])
     refine wpG_take 14 1 (v:=?_) rfl (by kernel_rfl) (fun _ _ _ h=>h) (Or.inl ⟨by rfl,?_⟩) (by assumption) ?_
     rotate_left
     · intro w hSw;(try dsimp only at hSw);go_simp;(try with_reducible rfl)
     (try simp only [pz])
     refine wpG_take 14 2 (v:=?_) rfl (by kernel_rfl) (fun _ _ _ h=>h) (Or.inl ⟨by rfl,?_⟩) (by assumption) ?_
     rotate_left
     · intro w hSw;(try dsimp only at hSw);go_simp;(try with_reducible rfl)
     (try simp only [pz])
     refine wpG_take 14 3 (v:=?_) rfl (by kernel_rfl) (fun _ _ _ h=>h) (Or.inl ⟨by rfl,?_⟩) (by assumption) ?_
     rotate_left
     · intro w hSw;(try dsimp only at hSw);go_simp;(try with_reducible rfl)
     (try simp only [pz])
     refine wpG_take 14 4 (v:=?_) rfl (by kernel_rfl) (fun _ _ _ h=>h) (Or.inl ⟨by rfl,?_⟩) (by assumption) ?_
     rotate_left
     · intro w hSw;(try dsimp only at hSw);go_simp;(try with_reducible rfl)
     (try simp only [pz])
     refine wpG_take 14 5 (v:=?_) rfl (by kernel_rfl) (fun _ _ _ h=>h) (Or.inl ⟨by rfl,?_⟩) (by assumption) ?_
     rotate_left
     · intro w hSw;(try dsimp only at hSw);go_simp;(try with_reducible rfl)
     (try simp only [pz])
     refine wpG_take 14 6 (v:=?_) rfl (by kernel_rfl) (fun _ _ _ h=>h) (Or.inl ⟨by rfl,?_⟩) (by assumption) ?_
     rotate_left
     · intro w hSw;(try dsimp only at hSw);go_simp;(try with_reducible rfl)
     (try simp only [pz])
     refine wpG_take 14 7 (v:=?_) rfl (by kernel_rfl) (fun _ _ _ h=>h) (Or.inl ⟨by rfl,?_⟩) (by assumption) ?_
     rotate_left
     · intro w hSw;(try dsimp only at hSw);go_simp;(try with_reducible rfl)
     (try simp only [pz])
     refine wpG_take 14 8 (v:=?_) rfl (by kernel_rfl) (fun _ _ _ h=>h) (Or.inl ⟨by rfl,?_⟩) (by assumption) ?_
     rotate_left
     · intro w hSw;(try dsimp only at hSw);go_simp;(try with_reducible rfl)
     (try simp only [pz])
     refine wpG_take 14 9 (v:=?_) rfl (by kernel_rfl) (fun _ _ _ h=>h) (Or.inl ⟨by rfl,?_⟩) (by assumption) ?_
     rotate_left
     · intro w hSw;(try dsimp only at hSw);go_simp;(try with_reducible rfl)
     (try simp only [pz])
     refine wpG_take 14 10 (v:=?_) rfl (by kernel_rfl) (fun _ _ _ h=>h) (Or.inl ⟨by rfl,?_⟩) (by assumption) ?_
     rotate_left
     · intro w hSw;(try dsimp only at hSw);go_simp;(try with_reducible rfl)
     (try simp only [pz])
     refine wpG_one (i:=11) (by kernel_rfl) ?_
     refine wpOp_step rfl (fun K hK=>?_)
     go_simp
     go_at_call 197
     (with_reducible refine (HC58.out _ hbd).mono ?_)
     rintro e w5 ⟨u5,rfl,hlv5,hb5'⟩
     have hb5:Below W3.heap.size W3 w5:=hbd.trans (hb5'.mono hbd.size)
     have n5:=HKS.out w5 hb5
     obtain ⟨A5,c5,rfl,-,-⟩:=hlv5.shape
     (try dsimp only)
     refine hK _ _ ⟨n5,?_⟩
     clear hK K
     (try simp only [pz])
     refine wpG_one (i:=12) (by kernel_rfl) ?_
     refine wpOp_step rfl (fun K hK=>?_)
     go_simp
     go_at_call 195
     (with_reducible refine (HC57.out _ _ hb5 hlv5).mono ?_)
     rintro e w6 ⟨u6,rfl,hio6,hb6'⟩
     have hb6:Below W3.heap.size W3 w6:=hb5.trans (hb6'.mono hb5.size)
     have n6:=HKS.out w6 hb6
     obtain ⟨A6,c6,rfl⟩:=hio6.shape
     (try dsimp only)
     refine hK _ _ ⟨n6,?_⟩
     clear hK K
     (try simp only [pz])
     refine wpG_take 14 13 (v:=?_) rfl (by kernel_rfl) (fun _ _ _ h=>h) (Or.inl ⟨by rfl,?_⟩) (by assumption) ?_
     rotate_left
     · intro w hSw;(try dsimp only at hSw);go_simp;(try with_reducible rfl)
     (try simp only [pz])
     refine ⟨by kernel_rfl,?_⟩
     simp only [List.drop_succ_cons,List.drop_zero]
     have HR6:=Lib.hid (HR3.out.below hb6 HR3.out.lt)
     have HB6:=Lib.hid (HB3.out.trans (hb6.mono HB3.out.size))
     have q0:=HR6.out.cell 0
     have q1:=HR6.out.cell 1
     have p0:=Blk.frozen HR6.out 0
     have p1:=Blk.frozen HR6.out 1
     have ql:=HR6.out.lt
     have HIO6:Hid (IO w6 (w.heap.size+2) (justL t r) (.slice A6 (joinK t.ind t.words (sprR t.f cnt G) t.words.length).length c6)):=(show IO _ _ _ _ from by
      rw [HJL.out]
      exact hio6.base (by have:=hb5.size;have:=HSZ3.out;have:=HGL.out;omega))
     clear r0 r1 z0 z1 rl hb5 hb5' hb6 hb6' n5 n6 hS0 hlv5 hio6
     go_wp2_with fail
     refine bodyPost_ret (ju_res (HR6.out.two _ _) rfl _ rfl) rfl ?_
     refine ⟨below_two HB6.out (by omega) _ _,.inr ⟨HOE.out,lf,HLF.out,.inr ⟨r,_,HCE.out.trans HYES.out,rfl,?_⟩⟩⟩
     refine World.ownsRow.mono (base:=w.heap.size+2) ?_ (by omega)
     exact ownsRow_setCell_below (ownsRow_setCell_below HIO6.out (by show w.heap.size+1 < _;omega) _) (by show w.heap.size+1 < _;omega) _
end Go.Proofs.YtbnganlfelgogaaGreat
namespace Go.Proofs.YtbnganlfelgogaaGreat
open Go.RowKit
def cntR (f:Fnt) (r:List Nat):List Int:=putR (List.replicate f.sorts.length 0) (spl f.sorts f.sorts.length) r
def EndPost (W:World) (f:Fnt) (lf:List Int) (w:Nat) (e:Ending) (W':World):Prop:=
 Below W.heap.size W W'∧((fewS (qsF f lf) w 0 13=none∧e=.returned (.tuple #[.slice none 0 0,.bool false]))∨
  ∃ r v',fewS (qsF f lf) w 0 13=some r∧e=.returned (.tuple #[v',.bool true])∧IO W' W.heap.size (widR f (cntR f r)) v')
theorem xp_of {W:World} {f:Fnt} {v vs vl:Value} {lf:List Int} (hv:SoV W f.sorts v) (hs:IV W (spl f.sorts f.sorts.length) vs) (hl:IV W lf vl) (hok:(fnErr f).2=0) (hk:(spl f.sorts f.sorts.length).length≤8) (hlok:CsOk f.sorts.length lf) :
 XP W f v vs vl (qsF f lf) (spl f.sorts f.sorts.length) lf:=by
 have hin:=spl_in f.sorts f.sorts.length
 refine ⟨hv,hs,hl,(fnErr_few hok).2,hk,inF_iff.2 hin,hlok,by simp [qsF],fun j hj=>qsF_at hj,fun j hj=>?_,fun i j hij hj=>pair_gz (spl_pair _ _) hij hj⟩
 exact wd_ok hok (hin _ (gz_mem hj))
theorem xp_below {W W':World} {f:Fnt} {v vs vl:Value} {qs:List (Nat × Nat)} {sp lim:List Int} (h:XP W f v vs vl qs sp lim) (hb:Below W.heap.size W W'):XP W' f v vs vl qs sp lim:=
 ⟨h.s.below hb,h.p.below hb,h.l.below hb,h.few,h.sp8,h.inF,h.lok,h.qlen,h.qat,h.wdp,h.asc⟩
theorem cntR_ok {f:Fnt} (hok:(fnErr f).2=0) {lf:List Int} (hlf:CsOk f.sorts.length lf) {w m:Nat} {r:List Nat} (h:fewS (qsF f lf) w 0 (m+1)=some r):ChzOk f lf w 0 m (cntR f r)∧CsOk f.sorts.length (cntR f r):=by
 have h1:=chz_ok hok hlf h
 rw [Nat.zero_add] at h1
 refine ⟨h1,h1.len,fun i hi=>?_⟩
 have h2:0≤gz (cntR f r) i∧_:=h1.lim i hi
 have h3:=hlf.2 i hi
 rcases h2.2 with h | h
 · rw [show gz (cntR f r) i=0 from h];omega
 · have h:gz (cntR f r) i≤gz lf i:=h
   omega
theorem ending_any (f:Fnt) (v vs vl:Value) (lf:List Int) (w:Nat) (W:World) (hv:SoV W f.sorts v) (hs:IV W (spl f.sorts f.sorts.length) vs) (hl:IV W lf vl) (hok:(fnErr f).2=0) (hk:(spl f.sorts f.sorts.length).length≤8) (hlok:CsOk f.sorts.length lf) (hw:w≤20000) :
 Calls Tryz.prog 193 #[.agg (xfs f v vs),vl,.int .i64 (w:Int)] W (EndPost W f lf w):=by
 have hb0:=below_new W (.cells (xfs f v vs) 189)
 have hX:=Blk.new W 189 (xfs f v vs)
 have hP:=xp_of hv hs hl hok hk hlok
 have hP1:=xp_below hP hb0
 have hcall:Calls Tryz.prog 188 #[.agg (ncs f v vs vl 0 12 (.map none)),.int .i64 (w:Int)] (W.alloc (.cells (xfs f v vs) 189)) (FwsPost _ f.sorts.length (qsF f lf) (spl f.sorts f.sorts.length) w 0 13):=fewest94_any hP1 0 13 w (by omega) hw
 have HQ0:Hid (∀ W',fewS (qsF f lf) w 0 13=none→Below W.heap.size W W'→EndPost W f lf w (.returned (.tuple #[.slice none 0 0,.bool false])) W'):=(show ∀ W',_ from fun W' h1 h2=>⟨h2,.inl ⟨h1,rfl⟩⟩)
 have HQ1:Hid (∀ W' r v',fewS (qsF f lf) w 0 13=some r→Below W.heap.size W W'→IO W' W.heap.size (widR f (cntR f r)) v'→EndPost W f lf w (.returned (.tuple #[v',.bool true])) W'):=(show ∀ W' r v',_ from fun W' r v' h1 h2 h3=>⟨h2,.inr ⟨r,v',h1,rfl,h3⟩⟩)
 have HCO:Hid (∀ r,fewS (qsF f lf) w 0 13=some r→ChzOk f lf w 0 12 (cntR f r)∧CsOk f.sorts.length (cntR f r)):=(show ∀ r,_ from fun r h=>cntR_ok hok hlok h)
 have HFE:=Lib.hid (fnErr_few hok)
 have HV:=Lib.hid (hv.below hb0)
 have HS:=Lib.hid (hs.below hb0)
 obtain ⟨Av,cv,rfl⟩:=hv.shape
 obtain ⟨As,_,_,cs,rfl,-,-,-,-⟩:=hs.open
 obtain ⟨Al,_,_,cl,rfl,-,-,-,-⟩:=hl.open
 have c0:=hX.cell 0
 have c1:=hX.cell 1
 have c2:=hX.cell 2
 have c3:=hX.cell 3
 have HC:=Lib.hid hcall
 have HX:=Lib.hid hX
 have HB0:=Lib.hid hb0
 have HK:Hid ((spl f.sorts f.sorts.length).length≤8):=hk
 clear hb0 hX hP hP1 hcall hv hs hl hok hlok hk
 go_enter Tryz.func193,Tryz.ntmps193
 go_upto_region 1 with fail
 generalize W.alloc (.cells (xfs f (.slice Av f.sorts.length cv) (.slice As (spl f.sorts f.sorts.length).length cs)) 189)=W1 at *
 go_wp2_with fail
 refine HC.out.mono ?_
 rintro e W2 ⟨hb2,hans⟩
 have HB2:=Lib.hid (HB0.out.trans (hb2.mono HB0.out.size))
 have HX2:=Lib.hid (HX.out.below hb2 HX.out.lt)
 have HV2:=Lib.hid (HV.out.below hb2)
 have HS2:=Lib.hid (HS.out.below hb2)
 have HSZ:Hid (W.heap.size≤W1.heap.size):=HB0.out.size
 clear hb2 HC HX HB0 HV HS c0 c1 c2 c3
 rcases hans with ⟨hno,rfl⟩ | ⟨r,v',hyes,rfl,hio⟩
 · have HN:=Lib.hid (HQ0.out W2 hno HB2.out)
   clear hno
   go_wp2_with fail
   refine bodyPost_ret (results_tmp2 rfl _ _ _) rfl ?_
   exact HN.out
 · have hco:=HCO.out r hyes
   have HYES:=Lib.hid hyes
   have HW:=Lib.hid (widest_any f _ _ (cntR f r) v' W2 HV2.out HS2.out hio.iv (HFE.out).1 (by have:=(HFE.out).2;omega) (by have:=HK.out;omega) hco.2 (by have:=hco.1.num.2;omega))
   obtain ⟨AC,cC,rfl⟩:=hio.shape
   have x0:=HX2.out.cell 0
   have x1:=HX2.out.cell 1
   have x2:=HX2.out.cell 2
   have x3:=HX2.out.cell 3
   clear hyes hio hco
   generalize hce:cntR f r=cnt at *
   have HCE:=Lib.hid hce
   clear hce
   go_wp2_with fail
   refine HW.out.mono ?_
   rintro e W3 ⟨u,rfl,hio3,hb3⟩
   have HF:=Lib.hid (HQ1.out W3 r u HYES.out (HB2.out.trans (hb3.mono HB2.out.size)) (by rw [HCE.out];exact hio3.base HB2.out.size))
   clear hio3 hb3 HW x0 x1 x2 x3
   go_wp2_with fail
   refine bodyPost_ret (results_tmp2 rfl _ _ _) rfl ?_
   exact HF.out
end Go.Proofs.YtbnganlfelgogaaGreat
namespace Go.Proofs.YtbnganlfelgogaaGreat
open Go.RowKit
def repV (x:Value) (m n:Nat):List Value:=List.replicate m x++List.replicate (n-m) (.slice none 0 0)
theorem repV_len {x:Value} {m n:Nat} (h:m≤n):(repV x m n).length=n:=by simp [repV];omega
theorem repV_zero (x:Value) (n:Nat):repV x 0 n=List.replicate n (.slice none 0 0):=by simp [repV]
theorem repV_get {x:Value} {m n j:Nat} (h:j < m):(repV x m n)[j]?=some x:=by
 unfold repV
 rw [List.getElem?_append_left (by simpa using h)]
 simp [h]
theorem repV_splice {x:Value} {m q n:Nat} (h:m+q≤n):splice (repV x m n) m (List.replicate q x)=repV x (m+q) n:=by
 unfold splice repV
 have e:n-m-(m+q-m)=n-(m+q):=by omega
 simp [List.take_append,List.drop_append,e,←List.append_assoc,List.replicate_append_replicate]
 omega
theorem repV_one {x:Value} (hx:x.oneCell'=true) (m:Nat):∀ v ∈ List.replicate m x,v.oneCell'=true:=fun v hv=>by
 rw [(List.mem_replicate.1 hv).2];exact hx
theorem toList_madeCells_v (v:Value) (n:Nat):(madeCells #[v] n).toList=List.replicate n v:=by
 apply List.ext_getElem
 · simp [size_madeCells]
 · intro i h1 h2
   simp [madeCells,Nat.mod_one]
theorem repV_lv {W:World} {g:Nat} {x:Value} {zs:List Int} {n:Nat} (hg:W.heap[g]?=some (.cells (repV x n n).toArray 34 (0,0))) (hz:IV W zs x) (hn:n≤1000000):LV W (List.replicate n zs) (.slice (some ⟨g,0,none⟩) n n):=by
 have hb:Blk W g 34 (repV x n n).toArray:=hg
 refine ⟨fun _=>x,⟨some ⟨g,0,none⟩,g,0,n,by rw [List.length_replicate],fun _=>⟨rfl,hb.lt⟩,fun j hj=>?_,by rw [List.length_replicate];exact Nat.le_refl _,by omega⟩,fun i hi=>?_⟩
 · rw [List.length_replicate,Nat.mul_one] at hj
   rw [hb.cell (0+j),Nat.zero_add,List.getElem?_toArray,repV_get hj]
 · have e:gl (List.replicate n zs) i=zs:=by
    rw [List.length_replicate] at hi
    unfold gl
    rw [List.getD_eq_getElem?_getD,List.getElem?_replicate,if_pos hi]
    rfl
   rw [e]
   exact hz
theorem repeatL_any (zs:List Int) (x:Value) (n b off c:Nat) (w:World) (hx:w.cell? ⟨b,off,none⟩=some x) (hz:IV w zs x) (hn:n≤1000000) :
 Calls Tryz.prog 194 #[.slice (some ⟨b,off,none⟩) 1 c,.int .i64 n] w (LvPost w (List.replicate n zs)):=by
 have hbw:=block_lt_of_cell hx
 have hxo:x.oneCell'=true:=by obtain ⟨A,_,_,c',rfl,-⟩:=hz.open;rfl
 have HM:Hid (∀ W,Calls Tryz.prog 151 #[.int .u64 1,.int .u64 n] W fun e w'=>e=.returned (.tuple #[.int .u64 0,.int .u64 n])∧w'=W):=(show ∀ W,_ from fun W=>by
  have h:=Tryz.bits_Mul 1 n (by omega) (by omega) W
  have e1:1*n / 18446744073709551616=0:=Nat.div_eq_of_lt (by omega)
  have e2:1*n % 18446744073709551616=n:=by rw [Nat.one_mul];exact Nat.mod_eq_of_lt (by omega)
  rw [e1,e2] at h
  exact h)
 have HFN:Hid (∀ W,W.heap[w.heap.size]?=some (.cells (repV x n n).toArray 34 (0,0))→Below w.heap.size w W→LvPost w (List.replicate n zs) (.returned (.slice (some ⟨w.heap.size,0,none⟩) n n)) W):=(show ∀ W,_ from fun W hg hb=>⟨_,rfl,repV_lv hg (hz.below hb) hn,hb⟩)
 have hmk:=run_make_row' (P:=Tryz.prog) 86 34 (.slice none 0 0) 24 Tryz.underlying86 info30 rfl .i64 .i64 n (by omega) (by omega)
 have hb0:=below_new w (Obj.cells (madeCells #[Value.slice none 0 0] n) 34)
 have hxc:=((below_new w (Obj.cells (madeCells #[Value.slice none 0 0] n) 34)).cell hbw).trans hx
 obtain ⟨cs,hcs⟩:∃ cs,cs=List.replicate (min 1 n) x:=⟨_,rfl⟩
 obtain ⟨r0,hr0⟩:∃ r0,r0=repV x 0 n:=⟨_,rfl⟩
 obtain ⟨m0,hm0⟩:∃ m0,m0=min 1 n:=⟨_,rfl⟩
 have HG0:Hid ((w.alloc (Obj.cells (madeCells #[Value.slice none 0 0] n) 34)).heap[w.heap.size]?=some (.cells r0.toArray 34 (0,0))):=by
  show _=_
  rw [heap_alloc_new w _,hr0,repV_zero,←toList_madeCells_v,Array.toArray_toList]
 have HLEN:Hid (cs.length=m0):=by show _=_;rw [hcs,hm0];simp
 have HQ1:Hid (cs.length=Nat.min 1 n):=by show _=_;rw [hcs];simp
 have HFIT:Hid (0+cs.length≤r0.length):=by show _≤_;rw [hr0,hcs,repV_len (Nat.zero_le _)];simp;omega
 have HPOS:Hid (∀ j v,cs[j]?=some v→(w.alloc (Obj.cells (madeCells #[Value.slice none 0 0] n) 34)).cell? ((⟨b,off,none⟩:Addr).add j)=some v):=(show ∀ j v,_ from fun j v h=>by
  rw [hcs,List.getElem?_replicate] at h
  split at h
  · have:j=0:=by omega
    subst this
    injection h with h
    subst h
    exact hxc
  · cases h)
 have HSP:Hid (splice r0 0 cs=repV x m0 n):=by show _=_;have:=repV_splice (x:=x) (m:=0) (q:=min 1 n) (n:=n) (by omega);rw [Nat.zero_add] at this;rw [hr0,hcs,hm0];exact this
 have HR0:Hid (∀ v ∈ cs,v.oneCell'=true):=by show ∀ v ∈ cs,_;rw [hcs];exact repV_one hxo _
 have HM0:=Lib.hid hm0
 have HR1:=Lib.hid (repV_one hxo)
 clear hcs hr0 hm0 hxc hz
 go_enter Tryz.func194,Tryz.ntmps194
 go_wp2_with fail
 refine (HM.out _).mono ?_
 rintro e w' ⟨rfl,rfl⟩
 go_wp2_with ((refine wpList_copy_splice rfl (.tmp 31) (.tmp 32) 86 86 rfl 34 Tryz.underlying86 (by kernel_rfl) (some ⟨w'.heap.size,0,none⟩) (some ⟨b,off,none⟩) n n 1 c (by rfl) (by rfl) w'.heap.size 0 r0 34 HG0.out cs HQ1.out (fun _=>⟨rfl,_,rfl,HPOS.out⟩) HFIT.out HR0.out w'.heap.size w' hb0 (Nat.le_refl _) ?_);intro w2 hw2 hb2;rw [HSP.out] at hw2;have HW2:=Lib.hid hw2.out;have HB2:=Lib.hid hb2;rw [HLEN.out];clear hw2 hb2)
 clear hmk HPOS HFIT HSP HQ1 HG0 HM hb0 hx hbw HR0 HLEN
 have hsz:=HB2.out.size
 generalize w'.heap.size=g at *
 go_loopg [8] n (fun gg s8 wr=>∃ m:Nat,m≤n∧n-m≤gg∧(0 < n→0 < m)∧s8=.int .i64 m∧Hid (wr.heap[g]?=some (.cells (repV x m n).toArray 34 (0,0)))∧Hid (Below g w' wr))
 case atStart=>exact ⟨m0,by have:=HM0.out;omega,by omega,by have:=HM0.out;omega,by simp,HW2.out,HB2.out⟩
 case round=>
  obtain ⟨m,hm,hg,h0,rfl,HG,HB⟩:=hrel
  by_cases hlt:m < n
  · have hltz:(m:Int) < (n:Int):=by omega
    have hm0:(0:Int)≤(m:Int):=by omega
    obtain ⟨cs,hcs⟩:∃ cs,cs=List.replicate (min m (n-m)) x:=⟨_,rfl⟩
    obtain ⟨r0,hr0⟩:∃ r0,r0=repV x m n:=⟨_,rfl⟩
    obtain ⟨q,hqe⟩:∃ q,q=min m (n-m):=⟨_,rfl⟩
    have hq1:1≤q:=by have:=h0 (by omega);omega
    have hq2:m+q≤n:=by omega
    have HG1:Hid (wr.drew.heap[g]?=some (.cells r0.toArray 34 (0,0))):=by show wr.heap[g]?=_;rw [hr0];exact HG.out
    have HLEN:Hid (cs.length=q):=by show _=_;rw [hcs,hqe];simp
    have HQ1:Hid (cs.length=Nat.min m (n-m)):=by show _=_;rw [hcs];simp
    have HFIT:Hid (m+cs.length≤r0.length):=by show _≤_;rw [hr0,hcs,repV_len hm];simp;omega
    have HPOS:Hid (∀ j v,cs[j]?=some v→wr.drew.cell? ((⟨g,0,none⟩:Addr).add j)=some v):=(show ∀ j v,_ from fun j v h=>by
     rw [hcs,List.getElem?_replicate] at h
     split at h
     · injection h with h
       subst h
       rw [show (⟨g,0,none⟩:Addr).add j=⟨g,0+j,none⟩ by unfold Addr.add;split <;> simp_all]
       show wr.cell? ⟨g,0+j,none⟩=_
       rw [cell_of_row wr g (0+j) (repV x m n).toArray 34 (0,0) HG.out,List.getElem?_toArray,repV_get (by omega)]
     · cases h)
    have HSP:Hid (splice r0 m cs=repV x (m+q) n):=by show _=_;rw [hr0,hcs,hqe];exact repV_splice (by omega)
    have HR0:Hid (∀ v ∈ cs,v.oneCell'=true):=by show ∀ v ∈ cs,_;rw [hcs];exact repV_one hxo _
    have HBd:Hid (Below g w' wr.drew):=HB.out.drew
    clear hcs hr0 hqe HG HB h0
    have hmn:(m:Int)≤(n:Int):=by omega
    have hnm2:¬n=m:=by omega
    go_wp2_with fail
    go_region_held3 (fun _=>True) (trivial) ((refine step_copy_splice rfl (.tmp 41) (.tmp 44) 86 86 rfl 34 Tryz.underlying86 (by kernel_rfl) (some ⟨g,m,none⟩) (some ⟨g,0,none⟩) (n-m) (n-m) m n (by rfl) (by rfl) g m r0 34 HG1.out cs HQ1.out (fun _=>⟨rfl,_,rfl,HPOS.out⟩) HFIT.out HR0.out g w' HBd.out (Nat.le_refl _) ?_;intro w2 hw2 hb2;rw [HSP.out] at hw2;have HW2:=Lib.hid hw2.out;have HB2:=Lib.hid hb2;rw [HLEN.out];clear hw2 hb2))
    go_wp2_with fail
    go_roundg (n-(m+q))
    case measure=>omega
    case rel=>exact ⟨m+q,by omega,by omega,by omega,by rw [IntWalk.i64_in ((m:Int)+(q:Int)) (by omega)];go_num,HW2.out,HB2.out⟩
  · have hltz:¬(m:Int) < (n:Int):=by omega
    have he:m=n:=by omega
    subst he
    have HF:=Lib.hid (HFN.out wr HG.out HB.out)
    go_wp2_with fail
    go_ret
    exact HF.out
end Go.Proofs.YtbnganlfelgogaaGreat
