/- Ragged: a line with even gaps, set to the left. -/
import Derived.Test.YtbnganlfelgogaaGreatVRpl
import Derived.Test.YtbnganlfelgogaaGreatVSpc
set_option linter.unusedSimpArgs false
set_option linter.unusedVariables false
set_option maxRecDepth 100000
set_option maxHeartbeats 40000000
namespace Go.Proofs.YtbnganlfelgogaaGreat
open Go.RowKit
def ragL (t:Tsk) (g:Int):Int × List Int:=
 if opnE t≠0 then (opnE t,[]) else if win g 0 (t.f.sorts.length-1)=false then (6,[]) else if spB t.f g=false then (15,[]) else
  match takR ((takR t.cs (ownL t)).getD []) (List.replicate (t.words.length-1) g) with
  | none=>(20,[])
  | some l2=>if fillT t-((t.words.length-1:Nat):Int)*wd t.f g < 0 then (26,[]) else
   match fewS (qsF t.f l2) (fillT t-((t.words.length-1:Nat):Int)*wd t.f g).toNat 0 13 with
   | none=>(12,[])
   | some r=>(0,joinK t.ind t.words (List.replicate (t.words.length-1) [g]) t.words.length++widR t.f (cntR t.f r))
def LnPost (me:Int) (R:Int × List Int) (w:World) (e:Ending) (w':World):Prop:=Below w.heap.size w w'∧
 ((R.1≠0∧e=.returned (.tuple #[.agg #[.int .i64 0,.slice none 0 0],.int .i64 R.1]))∨(R.1=0∧∃ v,e=.returned (.tuple #[.agg #[.int .i64 me,v],.int .i64 0])∧IO w' w.heap.size R.2 v))
theorem rg_res {W:World} {bR:Nat} {cs:Array Value} (hg:Blk W bR 83 cs) (hs:cs.size=2) (tmps:Array Value) (hp:tmps.getD 4 undef=.pointer (some ⟨bR,0,none⟩)) :
 (results Tryz.f167 tmps).run Tryz.prog W=.ok (.tuple #[.agg cs,tmps.getD 5 undef]) W:=by
 have h:Tryz.f167.results=#[.cell 4 83,.tmp 5]:=rfl
 have hi:(Tryz.prog.info? 83).map (·.size)=some cs.size:=by rw [hs];kernel_rfl
 have hp':tmps[4]?.getD undef=.pointer (some ⟨bR,0,none⟩):=by simpa using hp
 simp only [results,h]
 simp [Sem.run_bind,Result.andThen,hp',asAddr,run_loadVar_row W bR 83 83 cs (0,0) _ hg Tryz.underlying83 rfl hi]
structure RgW (w W:World) (t:Tsk) (v vc vi vw:Value) (g sd:Int):Prop where
 B:Below w.heap.size w W
 T:TkV W t v vc vi vw
 K:Blk W w.heap.size 124 (xts t v vc vi vw)
 G:Blk W (w.heap.size+1) 211 #[.int .i64 g,.int .i64 sd]
 R:Blk W (w.heap.size+2) 83 #[.int .i64 0,.slice none 0 0]
 N:Blk W (w.heap.size+3) 83 #[.int .i64 0,.slice none 0 0]
theorem RgW.step {w W W':World} {t:Tsk} {v vc vi vw:Value} {g sd:Int} (h:RgW w W t v vc vi vw g sd) (hb:Below W.heap.size W W'):RgW w W' t v vc vi vw g sd:=
 ⟨h.B.trans (hb.mono h.B.size),h.T.below hb,h.K.below hb h.K.lt,h.G.below hb h.G.lt,h.R.below hb h.R.lt,h.N.below hb h.N.lt⟩
structure RgX (w W:World) (t:Tsk) (v vc vi vw:Value) (g sd:Int) (zb:Nat) (vs vl:Value) (lf:List Int) (F G:Nat):Prop where
 L:RgW w W t v vc vi vw g sd
 Z:Blk W zb 263 (tks t v vs vc vi vw F G vl)
 S:IV W (spl t.f.sorts t.f.sorts.length) vs
 V:IV W lf vl
theorem RgX.step {w W W':World} {t:Tsk} {v vc vi vw vs vl:Value} {g sd:Int} {zb F G:Nat} {lf:List Int} (h:RgX w W t v vc vi vw g sd zb vs vl lf F G) (hb:Below W.heap.size W W'):RgX w W' t v vc vi vw g sd zb vs vl lf F G:=
 ⟨h.L.step hb,h.Z.below hb h.Z.lt,h.S.below hb,h.V.below hb⟩
theorem RgX.cells {w W:World} {t:Tsk} {v vc vi vw vs vl:Value} {g sd:Int} {zb F G:Nat} {lf:List Int} (h:RgX w W t v vc vi vw g sd zb vs vl lf F G) :
 W.cell? ⟨w.heap.size,4,none⟩=some vi∧W.cell? ⟨w.heap.size,5,none⟩=some vw∧W.cell? ⟨w.heap.size,6,none⟩=some (.int .i64 t.me)∧W.cell? ⟨w.heap.size+1,0,none⟩=some (.int .i64 g)∧W.cell? ⟨w.heap.size+1,1,none⟩=some (.int .i64 sd)∧
 W.cell? ⟨zb,0,none⟩=some (.string t.f.name)∧W.cell? ⟨zb,1,none⟩=some (.int .i64 t.f.body)∧W.cell? ⟨zb,2,none⟩=some v∧W.cell? ⟨zb,3,none⟩=some vs∧W.cell? ⟨zb,11,none⟩=some (.int .i64 (F:Int))∧W.cell? ⟨zb,12,none⟩=some (.int .i64 (G:Int))∧W.cell? ⟨zb,13,none⟩=some vl:=
 ⟨h.L.K.cell 4,h.L.K.cell 5,h.L.K.cell 6,h.L.G.cell 0,h.L.G.cell 1,h.Z.cell 0,h.Z.cell 1,h.Z.cell 2,h.Z.cell 3,h.Z.cell 11,h.Z.cell 12,h.Z.cell 13⟩
theorem SoV.wid4 {W:World} {l:List TSort} {A:Option Addr} {c:Nat} (h:SoV W l (.slice A l.length c)) {g:Int} (hg:0≤g∧g < l.length):∃ b off,A=some ⟨b,off,none⟩∧b < W.heap.size∧W.cell? ⟨b,off+g.toNat*4+3,none⟩=some (.int .i64 (gs l g.toNat).width):=by
 obtain ⟨A',b,off,c',e,hA,hss,-⟩:=h
 injection e with e1 e2 e3
 subst e1
 obtain ⟨h1,h2⟩:=hA (by omega)
 obtain ⟨-,-,-,s3⟩:=hss g.toNat (by omega)
 exact ⟨b,off,h1,h2,s3⟩
theorem ragged_any (t:Tsk) (v vc vi vw:Value) (g:Int) (w:World) (h:TkV w t v vc vi vw) (hn:t.f.name.size≤9223372036854775807) (hm:t.f.sorts.length≤100000) :
 Calls Tryz.prog 167 #[.agg (xts t v vc vi vw),.agg #[.int .i64 g,.int .i64 0]] w (LnPost t.me (ragL t g) w):=by
 obtain ⟨i3,hi3,hz3,hy3,hx3⟩:=info_parts info3
 have hb0:=below_new w (.cells (xts t v vc vi vw) 124)
 have hb1:=below_new (w.alloc (.cells (xts t v vc vi vw) 124)) (.cells #[.int .i64 g,.int .i64 0] 211)
 have hb2:=below_new ((w.alloc (.cells (xts t v vc vi vw) 124)).alloc (.cells #[.int .i64 g,.int .i64 0] 211)) (.cells #[.int .i64 0,.slice none 0 0] 83)
 have hb3:=below_new (((w.alloc (.cells (xts t v vc vi vw) 124)).alloc (.cells #[.int .i64 g,.int .i64 0] 211)).alloc (.cells #[.int .i64 0,.slice none 0 0] 83)) (.cells #[.int .i64 0,.slice none 0 0] 83)
 have hRW:RgW w ((((w.alloc (.cells (xts t v vc vi vw) 124)).alloc (.cells #[.int .i64 g,.int .i64 0] 211)).alloc (.cells #[.int .i64 0,.slice none 0 0] 83)).alloc (.cells #[.int .i64 0,.slice none 0 0] 83)) t v vc vi vw g 0:=by
  have hG:=Blk.new (w.alloc (.cells (xts t v vc vi vw) 124)) 211 #[.int .i64 g,.int .i64 0]
  have hR:=Blk.new ((w.alloc (.cells (xts t v vc vi vw) 124)).alloc (.cells #[.int .i64 g,.int .i64 0] 211)) 83 #[.int .i64 0,.slice none 0 0]
  have hN:=Blk.new (((w.alloc (.cells (xts t v vc vi vw) 124)).alloc (.cells #[.int .i64 g,.int .i64 0] 211)).alloc (.cells #[.int .i64 0,.slice none 0 0] 83)) 83 #[.int .i64 0,.slice none 0 0]
  have e1:(w.alloc (.cells (xts t v vc vi vw) 124)).heap.size=w.heap.size+1:=by simp
  have e2:((w.alloc (.cells (xts t v vc vi vw) 124)).alloc (.cells #[.int .i64 g,.int .i64 0] 211)).heap.size=w.heap.size+2:=by simp
  have e3:(((w.alloc (.cells (xts t v vc vi vw) 124)).alloc (.cells #[.int .i64 g,.int .i64 0] 211)).alloc (.cells #[.int .i64 0,.slice none 0 0] 83)).heap.size=w.heap.size+3:=by simp
  have hG2:=(hG.below hb2 hG.lt)
  have hR3:=(hR.below hb3 hR.lt)
  have hG3:=hG2.below hb3 hG2.lt
  rw [e1] at hG3
  rw [e2] at hR3
  rw [e3] at hN
  have hK:=Blk.new w 124 (xts t v vc vi vw)
  have hK1:=hK.below hb1 hK.lt
  have hK2:=hK1.below hb2 hK1.lt
  have hK3:=hK2.below hb3 hK2.lt
  exact ⟨((hb0.trans (hb1.mono hb0.size)).trans (hb2.mono (hb0.trans (hb1.mono hb0.size)).size)).trans (hb3.mono ((hb0.trans (hb1.mono hb0.size)).trans (hb2.mono (hb0.trans (hb1.mono hb0.size)).size)).size),(((h.below hb0).below hb1).below hb2).below hb3,hK3,hG3,hR3,hN⟩
 have HC:=Lib.hid (open55_any t v vc vi vw _ hRW.T hn hm)
 have HERR:Hid (∀ W x,x=(ragL t g).1∧(ragL t g).1≠0→Below w.heap.size w W→LnPost t.me (ragL t g) w (.returned (.tuple #[.agg #[.int .i64 0,.slice none 0 0],.int .i64 x])) W):=(show ∀ W x,_ from fun W x e h=>by obtain ⟨rfl,h0⟩:=e;exact ⟨h,.inl ⟨h0,rfl⟩⟩)
 obtain ⟨Av,cv,rfl⟩:=h.s.shape
 obtain ⟨Ac,_,_,cc,rfl,-⟩:=h.c.open
 obtain ⟨Ai,_,_,ci,rfl,-⟩:=h.i.open
 obtain ⟨Aw,cw,rfl,-,-⟩:=h.w.shape
 have c0:=hRW.K.cell 0
 have c1:=hRW.K.cell 1
 have c2:=hRW.K.cell 2
 have c3:=hRW.K.cell 3
 have c4:=hRW.K.cell 4
 have c5:=hRW.K.cell 5
 have c6:=hRW.K.cell 6
 have HRW:=Lib.hid hRW
 clear hb0 hb1 hb2 hb3 h hRW
 go_enter Tryz.func167,Tryz.ntmps167
 go_upto_region 2 with fail
 generalize (((w.alloc (.cells (xts t (.slice Av t.f.sorts.length cv) (.slice Ac t.cs.length cc) (.slice Ai t.ind.length ci) (.slice Aw t.words.length cw)) 124)).alloc (.cells #[.int .i64 g,.int .i64 0] 211)).alloc (.cells #[.int .i64 0,.slice none 0 0] 83)).alloc (.cells #[.int .i64 0,.slice none 0 0] 83)=W0 at *
 go_wp2_with fail
 refine HC.out.mono ?_
 rintro e W1 ⟨hb1,hans⟩
 have HR1:=Lib.hid (HRW.out.step hb1)
 clear hb1 c0 c1 c2 c3 c4 c5 c6 HRW HC
 rcases hans with ⟨hne,rfl⟩ | ⟨hoe,vs,vl,lf,hlf,rfl,hvs,hvl⟩
 · have hbn:=bne_t hne
   have HWHY:Hid (opnE t=(ragL t g).1∧(ragL t g).1≠0):=(show _∧_ from by
    have e:ragL t g=(opnE t,[]):=by unfold ragL;rw [if_pos hne]
    rw [e];exact ⟨rfl,hne⟩)
   have HR1a:=Lib.hid (HR1.out.step (below_new W1 (.cells z118 263)))
   generalize hoe:opnE t=te at *
   clear hne
   go_upto_region 4 with fail
   generalize W1.alloc (.cells z118 263)=W2 at *
   have r0:=HR1a.out.R.cell 0
   have r1:=HR1a.out.R.cell 1
   have z0:=Blk.frozen HR1a.out.R 0
   have z1:=Blk.frozen HR1a.out.R 1
   have rl:=HR1a.out.R.lt
   have n0:=HR1a.out.N.cell 0
   have n1:=HR1a.out.N.cell 1
   have nl:=HR1a.out.N.lt
   go_wp2_with fail
   refine bodyPost_ret (rg_res (HR1a.out.R.two (.int .i64 0) (.slice none 0 0)) rfl _ rfl) rfl ?_
   exact HERR.out _ _ HWHY.out (below_two HR1a.out.B (by omega) _ _)
 · obtain ⟨hok,⟨lf',hlf',hlok⟩,hf0,hf1⟩:=opnE_ok hoe
   rw [hlf] at hlf'
   injection hlf' with e
   subst e
   have HOK:=Lib.hid hok
   have HLO:=Lib.hid hlok
   have hwl:t.words.length≤30:=hok.w30
   have HRE:Hid (ragL t g=(if win g 0 (t.f.sorts.length-1)=false then (6,[]) else if spB t.f g=false then (15,[]) else
    match takR lf (List.replicate (t.words.length-1) g) with
    | none=>(20,[])
    | some l2=>if fillT t-((t.words.length-1:Nat):Int)*wd t.f g < 0 then (26,[]) else
     match fewS (qsF t.f l2) (fillT t-((t.words.length-1:Nat):Int)*wd t.f g).toNat 0 13 with
     | none=>(12,[])
     | some r=>(0,joinK t.ind t.words (List.replicate (t.words.length-1) [g]) t.words.length++widR t.f (cntR t.f r)):Int × List Int)):=(show ragL t g=_ from by unfold ragL;rw [if_neg (by omega),hlf];rfl)
   obtain ⟨F,hF⟩:=Int.eq_ofNat_of_zero_le hf0
   have HFb:Hid (F≤20000):=(show F≤20000 by omega)
   obtain ⟨As,_,_,cs',rfl,-⟩:=hvs.open
   obtain ⟨Al,_,_,cz,rfl,-⟩:=hvl.open
   rw [hF] at HRE ⊢
   have HG:Hid (t.words.length-1≤29):=(show _≤29 by omega)
   have HGW:Hid (t.words.length≤t.words.length-1+1):=(show _≤_ by omega)
   generalize t.words.length-1=G at *
   have hbz:=below_new W1 (.cells (tks t (.slice Av t.f.sorts.length cv) (.slice As (spl t.f.sorts t.f.sorts.length).length cs') (.slice Ac t.cs.length cc) (.slice Ai t.ind.length ci) (.slice Aw t.words.length cw) (F:Int) (G:Int) (.slice Al lf.length cz)) 263)
   have hX2:RgX w (W1.alloc (.cells (tks t (.slice Av t.f.sorts.length cv) (.slice As (spl t.f.sorts t.f.sorts.length).length cs') (.slice Ac t.cs.length cc) (.slice Ai t.ind.length ci) (.slice Aw t.words.length cw) (F:Int) (G:Int) (.slice Al lf.length cz)) 263)) t _ _ _ _ g 0 W1.heap.size _ _ lf F G:=⟨HR1.out.step hbz,Blk.new W1 263 _,hvs.below hbz,hvl.below hbz⟩
   have HX2:=Lib.hid hX2
   clear hok hlf hlok hf0 hf1 hF hvs hvl hbz hX2 hoe HR1
   go_upto_region 5 with fail
   generalize W1.alloc (.cells (tks t (.slice Av t.f.sorts.length cv) (.slice As (spl t.f.sorts t.f.sorts.length).length cs') (.slice Ac t.cs.length cc) (.slice Ai t.ind.length ci) (.slice Aw t.words.length cw) (F:Int) (G:Int) (.slice Al lf.length cz)) 263)=W2 at *
   generalize W1.heap.size=zb at *
   have hKW:∀ W,RgX w W t (.slice Av t.f.sorts.length cv) (.slice Ac t.cs.length cc) (.slice Ai t.ind.length ci) (.slice Aw t.words.length cw) g 0 zb (.slice As (spl t.f.sorts t.f.sorts.length).length cs') (.slice Al lf.length cz) lf F G→(W.cell? ⟨w.heap.size,4,none⟩=some (.slice Ai t.ind.length ci)∧W.cell? ⟨w.heap.size,5,none⟩=some (.slice Aw t.words.length cw)∧W.cell? ⟨w.heap.size,6,none⟩=some (.int .i64 t.me)∧W.cell? ⟨w.heap.size+1,0,none⟩=some (.int .i64 g)∧W.cell? ⟨w.heap.size+1,1,none⟩=some (.int .i64 0)∧W.cell? ⟨zb,0,none⟩=some (.string t.f.name)∧W.cell? ⟨zb,1,none⟩=some (.int .i64 t.f.body)∧W.cell? ⟨zb,2,none⟩=some (.slice Av t.f.sorts.length cv)∧W.cell? ⟨zb,3,none⟩=some (.slice As (spl t.f.sorts t.f.sorts.length).length cs')∧W.cell? ⟨zb,11,none⟩=some (.int .i64 (F:Int))∧W.cell? ⟨zb,12,none⟩=some (.int .i64 (G:Int))∧W.cell? ⟨zb,13,none⟩=some (.slice Al lf.length cz)):=fun W h=>h.cells
   have HKW:=Lib.hid hKW
   clear hKW
   obtain ⟨k4,k5,k6,g0,g1,y0,y1,y2,y3,y11,y12,y13⟩:=HKW.out _ HX2.out
   have kl:=HX2.out.L.K.lt
   have gl_:=HX2.out.L.G.lt
   have zl:=HX2.out.Z.lt
   cases hq:win g 0 (t.f.sorts.length-1) with
   | false=>
    have HWHY:Hid (6=(ragL t g).1∧(ragL t g).1≠0):=(show _∧_ from by rw [HRE.out,if_pos hq];exact ⟨rfl,by decide⟩)
    have HQ:=Lib.hid hq
    clear hq
    go_wp2_with fail
    refine (hasF_any t.f _ _ g W2 HX2.out.L.T.s).mono ?_
    rintro e W3 ⟨rfl,hb3⟩
    rw [HQ.out]
    have HR3:=Lib.hid (HX2.out.L.step hb3)
    clear hb3 k4 k5 k6 g0 g1 y0 y1 y2 y3 y11 y12 y13 kl gl_ zl HX2 HQ
    have r0:=HR3.out.R.cell 0
    have r1:=HR3.out.R.cell 1
    have z0:=Blk.frozen HR3.out.R 0
    have z1:=Blk.frozen HR3.out.R 1
    have rl:=HR3.out.R.lt
    have n0:=HR3.out.N.cell 0
    have n1:=HR3.out.N.cell 1
    have nl:=HR3.out.N.lt
    go_wp2_with fail
    refine bodyPost_ret (rg_res (HR3.out.R.two (.int .i64 0) (.slice none 0 0)) rfl _ rfl) rfl ?_
    exact HERR.out _ _ HWHY.out (below_two HR3.out.B (by omega) _ _)
   | true=>
    have hgr:0≤g∧g < (t.f.sorts.length:Int):=by have:=win_t.1 hq;omega
    obtain ⟨gn,rfl⟩:=Int.eq_ofNat_of_zero_le hgr.1
    have HGR:=Lib.hid hgr
    have HRE2:=Lib.hid (HRE.out.trans (if_neg (by rw [hq];decide)))
    have HQ:=Lib.hid hq
    clear hq hgr HRE
    go_wp2_with fail
    refine (hasF_any t.f _ _ (gn:Int) W2 HX2.out.L.T.s).mono ?_
    rintro e W3 ⟨rfl,hb3⟩
    rw [HQ.out]
    have HX3:=Lib.hid (HX2.out.step hb3)
    clear hb3 k4 k5 k6 g0 g1 y0 y1 y2 y3 y11 y12 y13 kl gl_ zl HX2 HQ
    obtain ⟨k4,k5,k6,g0,g1,y0,y1,y2,y3,y11,y12,y13⟩:=HKW.out _ HX3.out
    have kl:=HX3.out.L.K.lt
    have gl_:=HX3.out.L.G.lt
    have zl:=HX3.out.Z.lt
    have hfew:=(fnErr_few HOK.out.f).2
    cases hs:spB t.f (gn:Int) with
    | false=>
     have HWHY:Hid (15=(ragL t (gn:Int)).1∧(ragL t (gn:Int)).1≠0):=(show _∧_ from by rw [HRE2.out,if_pos hs];exact ⟨rfl,by decide⟩)
     have HC4:=isSpaceF_any t.f _ (.slice As (spl t.f.sorts t.f.sorts.length).length cs') (gn:Int) W3 HX3.out.L.T.s HGR.out (by omega)
     rw [hs] at HC4
     have HC4:=Lib.hid HC4
     clear hs
     go_wp2_with fail
     refine HC4.out.mono ?_
     rintro e W4 ⟨rfl,hb4⟩
     have HR4:=Lib.hid (HX3.out.L.step hb4)
     clear hb4 k4 k5 k6 g0 g1 y0 y1 y2 y3 y11 y12 y13 kl gl_ zl HX3 HC4
     have r0:=HR4.out.R.cell 0
     have r1:=HR4.out.R.cell 1
     have z0:=Blk.frozen HR4.out.R 0
     have z1:=Blk.frozen HR4.out.R 1
     have rl:=HR4.out.R.lt
     have n0:=HR4.out.N.cell 0
     have n1:=HR4.out.N.cell 1
     have nl:=HR4.out.N.lt
     go_wp2_with fail
     refine bodyPost_ret (rg_res (HR4.out.R.two (.int .i64 0) (.slice none 0 0)) rfl _ rfl) rfl ?_
     exact HERR.out _ _ HWHY.out (below_two HR4.out.B (by omega) _ _)
    | true=>
     have HRE3:=Lib.hid (HRE2.out.trans (if_neg (by rw [hs];decide)))
     have HC4:=isSpaceF_any t.f _ (.slice As (spl t.f.sorts t.f.sorts.length).length cs') (gn:Int) W3 HX3.out.L.T.s HGR.out (by omega)
     rw [hs] at HC4
     have HC4:=Lib.hid HC4
     clear hs HRE2
     go_wp2_with fail
     refine HC4.out.mono ?_
     rintro e W4 ⟨rfl,hb4⟩
     have HX4:=Lib.hid (HX3.out.step hb4)
     clear hb4 k4 k5 k6 g0 g1 y0 y1 y2 y3 y11 y12 y13 kl gl_ zl HX3 HC4
     obtain ⟨k4,k5,k6,g0,g1,y0,y1,y2,y3,y11,y12,y13⟩:=HKW.out _ HX4.out
     have kl:=HX4.out.L.K.lt
     have gl_:=HX4.out.L.G.lt
     have zl:=HX4.out.Z.lt
     go_wp2_with fail
     refine (within107_any 0 0 2 W4).mono ?_
     rintro e w5 ⟨rfl,rfl⟩
     rw [show win 0 0 2=true from rfl]
     have HC5:Hid (∀ W u,RgX w W t (.slice Av t.f.sorts.length cv) (.slice Ac t.cs.length cc) (.slice Ai t.ind.length ci) (.slice Aw t.words.length cw) (gn:Int) 0 zb (.slice As (spl t.f.sorts t.f.sorts.length).length cs') (.slice Al lf.length cz) lf F G→IV W (List.replicate G (gn:Int)) u→Calls Tryz.prog 126 #[.slice Al lf.length cz,u] W (TakePost W lf (List.replicate G (gn:Int)))):=(show ∀ W u,_ from fun W u hW hu=>take_any lf (List.replicate G (gn:Int)) _ u W hW.V hu (fun j hj=>by
      rw [List.length_replicate] at hj
      have e:gz (List.replicate G (gn:Int)) j=gn:=by unfold gz;rw [List.getD_eq_getElem?_getD,List.getElem?_replicate,if_pos hj];rfl
      rw [e,HLO.out.1];exact HGR.out) (by rw [HLO.out.1];exact HLO.out) (by rw [HLO.out.1];omega) (by rw [List.length_replicate];have:=HG.out;omega))
     have hwd:=wd_ok HOK.out.f HGR.out
     have HWD:=Lib.hid hwd
     have hmul1:0≤(G:Int)*wd t.f (gn:Int):=Int.mul_nonneg (by omega) (by omega)
     have hmul2:(G:Int)*wd t.f (gn:Int)≤29*100000:=Int.mul_le_mul (by have:=HG.out;omega) (by omega) (by omega) (by omega)
     obtain ⟨pr,hpr⟩:∃ pr,pr=(G:Int)*wd t.f (gn:Int):=⟨_,rfl⟩
     rw [←hpr] at hmul1 hmul2 HRE3
     have HPR:=Lib.hid hpr
     have HFB:=Lib.hid (show -3000000≤(F:Int)-pr∧(F:Int)-pr≤20000 from by have:=HFb.out;omega)
     have HW1:Hid (wrap64 ((G:Int)*(gs t.f.sorts gn).width)=pr):=(show _=_ from by
      have e:(G:Int)*(gs t.f.sorts gn).width=pr:=hpr.symm
      rw [e];exact IntWalk.wrap64_in _ (by omega))
     have HW2:Hid (wrap64 ((F:Int)-pr)=(F:Int)-pr):=(show _=_ from IntWalk.wrap64_in _ (by have:=HFB.out;omega))
     clear hwd hpr hmul1 hmul2
     cases htk:takR lf (List.replicate G (gn:Int)) with
     | none=>
      have HWHY:Hid (20=(ragL t (gn:Int)).1∧(ragL t (gn:Int)).1≠0):=(show _∧_ from by rw [HRE3.out,htk];exact ⟨rfl,(by decide:(20:Int)≠0)⟩)
      have HC5:Hid (∀ W u,RgX w W t (.slice Av t.f.sorts.length cv) (.slice Ac t.cs.length cc) (.slice Ai t.ind.length ci) (.slice Aw t.words.length cw) (gn:Int) 0 zb (.slice As (spl t.f.sorts t.f.sorts.length).length cs') (.slice Al lf.length cz) lf F G→IV W (List.replicate G (gn:Int)) u→Calls Tryz.prog 126 #[.slice Al lf.length cz,u] W (fun e w'=>e=.returned (.tuple #[.slice none 0 0,.bool false])∧Below W.heap.size W w')):=(show ∀ W u,_ from fun W u hW hu=>(HC5.out W u hW hu).mono fun e w' ⟨h1,h2⟩=>by
       rcases h2 with ⟨-,h2⟩ | ⟨o,v,h2,-⟩
       · exact ⟨h2,h1⟩
       · rw [htk] at h2;cases h2)
      clear htk
      go_wp2_with fail
      have hbd:Below W4.heap.size W4 W4.drew:=(Below.refl _ _).drew
      have hba:Below W4.heap.size W4 (W4.alloc (.cells #[.int .i64 (gn:Int)] 3)).drew:=(below_new W4 _).drew
      have hqn:Blk (W4.alloc (.cells #[.int .i64 (gn:Int)] 3)).drew W4.heap.size 3 #[.int .i64 (gn:Int)]:=Blk.new W4 3 #[.int .i64 (gn:Int)]
      have HC9:Hid (Calls Tryz.prog 189 #[.slice (some ⟨W4.heap.size,0,none⟩) 1 1,.int .i64 (G:Int)] (W4.alloc (.cells #[.int .i64 (gn:Int)] 3)).drew (CloPost (W4.alloc (.cells #[.int .i64 (gn:Int)] 3)).drew (List.replicate G (gn:Int)))):=repeat_any (gn:Int) G _ 0 1 _ (hqn.cell 0) (by have:=HG.out;omega)
      have HK:Hid (∀ W,Below W4.heap.size W4 W→(W.cell? ⟨w.heap.size,4,none⟩=some (.slice Ai t.ind.length ci)∧W.cell? ⟨w.heap.size,5,none⟩=some (.slice Aw t.words.length cw)∧W.cell? ⟨w.heap.size,6,none⟩=some (.int .i64 t.me)∧W.cell? ⟨w.heap.size+1,0,none⟩=some (.int .i64 (gn:Int))∧W.cell? ⟨w.heap.size+1,1,none⟩=some (.int .i64 0)∧W.cell? ⟨zb,0,none⟩=some (.string t.f.name)∧W.cell? ⟨zb,1,none⟩=some (.int .i64 t.f.body)∧W.cell? ⟨zb,2,none⟩=some (.slice Av t.f.sorts.length cv)∧W.cell? ⟨zb,3,none⟩=some (.slice As (spl t.f.sorts t.f.sorts.length).length cs')∧W.cell? ⟨zb,11,none⟩=some (.int .i64 (F:Int))∧W.cell? ⟨zb,12,none⟩=some (.int .i64 (G:Int))∧W.cell? ⟨zb,13,none⟩=some (.slice Al lf.length cz))):=(show ∀ W,_ from fun W hW=>HKW.out W (HX4.out.step hW))
      have hS0:=HK.out _ hbd
      clear k4 k5 k6 g0 g1 y0 y1 y2 y3 y11 y12 y13 kl gl_ zl hqn
      go_region_held3 (fun W=>(W.cell? ⟨w.heap.size,4,none⟩=some (.slice Ai t.ind.length ci)∧W.cell? ⟨w.heap.size,5,none⟩=some (.slice Aw t.words.length cw)∧W.cell? ⟨w.heap.size,6,none⟩=some (.int .i64 t.me)∧W.cell? ⟨w.heap.size+1,0,none⟩=some (.int .i64 (gn:Int))∧W.cell? ⟨w.heap.size+1,1,none⟩=some (.int .i64 0)∧W.cell? ⟨zb,0,none⟩=some (.string t.f.name)∧W.cell? ⟨zb,1,none⟩=some (.int .i64 t.f.body)∧W.cell? ⟨zb,2,none⟩=some (.slice Av t.f.sorts.length cv)∧W.cell? ⟨zb,3,none⟩=some (.slice As (spl t.f.sorts t.f.sorts.length).length cs')∧W.cell? ⟨zb,11,none⟩=some (.int .i64 (F:Int))∧W.cell? ⟨zb,12,none⟩=some (.int .i64 (G:Int))∧W.cell? ⟨zb,13,none⟩=some (.slice Al lf.length cz)))
       (first
        | exact hS0
        | exact HK.out _ hb7
        | exact HK.out _ hb6
        | exact HK.out _ hba
        | go_keep)
       ((first
         | (go_at_call 189;(with_reducible refine HC9.out.mono ?_);rintro e w6 ⟨u6,rfl,hio6,hb6'⟩;have hb6:Below W4.heap.size W4 w6:=hba.trans (hb6'.mono hba.size))
         | (go_at_call 126;(with_reducible refine (HC5.out _ _ (HX4.out.step hb6) hio6.iv).mono ?_);rintro e W7 ⟨rfl,hb7'⟩;have hb7:Below W4.heap.size W4 W7:=hb6.trans (hb7'.mono hb6.size))))
      have HX7:=Lib.hid (HX4.out.step hb7)
      skip
      clear HX4 HK hS0 hbd hba HC9 hio6 hb6 hb6' hb7 hb7' HC5
      obtain ⟨k4,k5,k6,g0,g1,y0,y1,y2,y3,y11,y12,y13⟩:=HKW.out _ HX7.out
      obtain ⟨bS,oS,hAv,hbS,y4⟩:=SoV.wid4 HX7.out.L.T.s HGR.out
      rw [hAv] at y2
      rw [show ((gn:Int)).toNat=gn from rfl] at y4
      have hgz:(gn:Int) < (t.f.sorts.length:Int):=HGR.out.2
      have kl:=HX7.out.L.K.lt
      have gl_:=HX7.out.L.G.lt
      have zl:=HX7.out.Z.lt
      go_upto_region 10 with fail
      go_quiet (fail)
      rw [HW1.out,HW2.out]
      have hbn8:=below_drewN W7 nq
      have HX8:=Lib.hid (HX7.out.step hbn8)
      skip
      clear k4 k5 k6 g0 g1 y0 y1 y2 y3 y11 y12 y13 kl gl_ zl hbS y4 hAv hbn8 HX7 hgz
      generalize W7.drewN nq=W8 at *
      have HR8:=Lib.hid HX8.out.L
      clear HX8
      have r0:=HR8.out.R.cell 0
      have r1:=HR8.out.R.cell 1
      have z0:=Blk.frozen HR8.out.R 0
      have z1:=Blk.frozen HR8.out.R 1
      have rl:=HR8.out.R.lt
      have n0:=HR8.out.N.cell 0
      have n1:=HR8.out.N.cell 1
      have nl:=HR8.out.N.lt
      go_wp2_with fail
      refine bodyPost_ret (rg_res (HR8.out.R.two (.int .i64 0) (.slice none 0 0)) rfl _ rfl) rfl ?_
      exact HERR.out _ _ HWHY.out (below_two HR8.out.B (by omega) _ _)
     | some l2=>
      have HRE4:Hid (ragL t (gn:Int)=(if (F:Int)-pr < 0 then ((26:Int),([]:List Int)) else match fewS (qsF t.f l2) ((F:Int)-pr).toNat 0 13 with | none=>(12,[]) | some r=>(0,joinK t.ind t.words (List.replicate G [(gn:Int)]) t.words.length++widR t.f (cntR t.f r)))):=(show _=_ from by rw [HRE3.out,htk])
      have HL2:Hid (CsOk t.f.sorts.length l2):=takR_ok HLO.out (fun j hj=>by
       rw [List.length_replicate] at hj
       have e:gz (List.replicate G (gn:Int)) j=gn:=by unfold gz;rw [List.getD_eq_getElem?_getD,List.getElem?_replicate,if_pos hj];rfl
       rw [e];exact HGR.out) htk
      have HC5:Hid (∀ W u,RgX w W t (.slice Av t.f.sorts.length cv) (.slice Ac t.cs.length cc) (.slice Ai t.ind.length ci) (.slice Aw t.words.length cw) (gn:Int) 0 zb (.slice As (spl t.f.sorts t.f.sorts.length).length cs') (.slice Al lf.length cz) lf F G→IV W (List.replicate G (gn:Int)) u→Calls Tryz.prog 126 #[.slice Al lf.length cz,u] W (fun e w'=>∃ v,e=.returned (.tuple #[v,.bool true])∧IV w' l2 v∧Below W.heap.size W w')):=(show ∀ W u,_ from fun W u hW hu=>(HC5.out W u hW hu).mono fun e w' ⟨h1,h2⟩=>by
       rcases h2 with ⟨h2,-⟩ | ⟨o,v,h2,h3,h4⟩
       · rw [htk] at h2;cases h2
       · rw [htk] at h2;injection h2 with h2;subst h2;exact ⟨v,h3,h4.2.iv,h1⟩)
      clear htk HRE3
      go_wp2_with fail
      have hbd:Below W4.heap.size W4 W4.drew:=(Below.refl _ _).drew
      have hba:Below W4.heap.size W4 (W4.alloc (.cells #[.int .i64 (gn:Int)] 3)).drew:=(below_new W4 _).drew
      have hqn:Blk (W4.alloc (.cells #[.int .i64 (gn:Int)] 3)).drew W4.heap.size 3 #[.int .i64 (gn:Int)]:=Blk.new W4 3 #[.int .i64 (gn:Int)]
      have HC9:Hid (Calls Tryz.prog 189 #[.slice (some ⟨W4.heap.size,0,none⟩) 1 1,.int .i64 (G:Int)] (W4.alloc (.cells #[.int .i64 (gn:Int)] 3)).drew (CloPost (W4.alloc (.cells #[.int .i64 (gn:Int)] 3)).drew (List.replicate G (gn:Int)))):=repeat_any (gn:Int) G _ 0 1 _ (hqn.cell 0) (by have:=HG.out;omega)
      have HK:Hid (∀ W,Below W4.heap.size W4 W→(W.cell? ⟨w.heap.size,4,none⟩=some (.slice Ai t.ind.length ci)∧W.cell? ⟨w.heap.size,5,none⟩=some (.slice Aw t.words.length cw)∧W.cell? ⟨w.heap.size,6,none⟩=some (.int .i64 t.me)∧W.cell? ⟨w.heap.size+1,0,none⟩=some (.int .i64 (gn:Int))∧W.cell? ⟨w.heap.size+1,1,none⟩=some (.int .i64 0)∧W.cell? ⟨zb,0,none⟩=some (.string t.f.name)∧W.cell? ⟨zb,1,none⟩=some (.int .i64 t.f.body)∧W.cell? ⟨zb,2,none⟩=some (.slice Av t.f.sorts.length cv)∧W.cell? ⟨zb,3,none⟩=some (.slice As (spl t.f.sorts t.f.sorts.length).length cs')∧W.cell? ⟨zb,11,none⟩=some (.int .i64 (F:Int))∧W.cell? ⟨zb,12,none⟩=some (.int .i64 (G:Int))∧W.cell? ⟨zb,13,none⟩=some (.slice Al lf.length cz))):=(show ∀ W,_ from fun W hW=>HKW.out W (HX4.out.step hW))
      have hS0:=HK.out _ hbd
      clear k4 k5 k6 g0 g1 y0 y1 y2 y3 y11 y12 y13 kl gl_ zl hqn
      go_region_held3 (fun W=>(W.cell? ⟨w.heap.size,4,none⟩=some (.slice Ai t.ind.length ci)∧W.cell? ⟨w.heap.size,5,none⟩=some (.slice Aw t.words.length cw)∧W.cell? ⟨w.heap.size,6,none⟩=some (.int .i64 t.me)∧W.cell? ⟨w.heap.size+1,0,none⟩=some (.int .i64 (gn:Int))∧W.cell? ⟨w.heap.size+1,1,none⟩=some (.int .i64 0)∧W.cell? ⟨zb,0,none⟩=some (.string t.f.name)∧W.cell? ⟨zb,1,none⟩=some (.int .i64 t.f.body)∧W.cell? ⟨zb,2,none⟩=some (.slice Av t.f.sorts.length cv)∧W.cell? ⟨zb,3,none⟩=some (.slice As (spl t.f.sorts t.f.sorts.length).length cs')∧W.cell? ⟨zb,11,none⟩=some (.int .i64 (F:Int))∧W.cell? ⟨zb,12,none⟩=some (.int .i64 (G:Int))∧W.cell? ⟨zb,13,none⟩=some (.slice Al lf.length cz)))
       (first
        | exact hS0
        | exact HK.out _ hb7
        | exact HK.out _ hb6
        | exact HK.out _ hba
        | go_keep)
       ((first
         | (go_at_call 189;(with_reducible refine HC9.out.mono ?_);rintro e w6 ⟨u6,rfl,hio6,hb6'⟩;have hb6:Below W4.heap.size W4 w6:=hba.trans (hb6'.mono hba.size))
         | (go_at_call 126;(with_reducible refine (HC5.out _ _ (HX4.out.step hb6) hio6.iv).mono ?_);rintro e W7 ⟨v7,rfl,hiv7,hb7'⟩;have hb7:Below W4.heap.size W4 W7:=hb6.trans (hb7'.mono hb6.size))))
      have HX7:=Lib.hid (HX4.out.step hb7)
      have HV7:=Lib.hid hiv7
      clear HX4 HK hS0 hbd hba HC9 hio6 hb6 hb6' hb7 hb7' HC5 hiv7
      obtain ⟨k4,k5,k6,g0,g1,y0,y1,y2,y3,y11,y12,y13⟩:=HKW.out _ HX7.out
      obtain ⟨bS,oS,hAv,hbS,y4⟩:=SoV.wid4 HX7.out.L.T.s HGR.out
      rw [hAv] at y2
      rw [show ((gn:Int)).toNat=gn from rfl] at y4
      have hgz:(gn:Int) < (t.f.sorts.length:Int):=HGR.out.2
      have kl:=HX7.out.L.K.lt
      have gl_:=HX7.out.L.G.lt
      have zl:=HX7.out.Z.lt
      go_upto_region 10 with fail
      go_quiet (fail)
      rw [HW1.out,HW2.out]
      have hbn8:=below_drewN W7 nq
      have HX8:=Lib.hid (HX7.out.step hbn8)
      have HV8:=Lib.hid (HV7.out.below hbn8)
      clear k4 k5 k6 g0 g1 y0 y1 y2 y3 y11 y12 y13 kl gl_ zl hbS y4 hAv hbn8 HX7 hgz
      generalize W7.drewN nq=W8 at *
      clear HV7
      obtain ⟨k4,k5,k6,g0,g1,y0,y1,y2,y3,y11,y12,y13⟩:=HKW.out _ HX8.out
      have kl:=HX8.out.L.K.lt
      have gl_:=HX8.out.L.G.lt
      have zl:=HX8.out.Z.lt
      by_cases hneg:(F:Int)-pr < 0
      · have HWHY:Hid (26=(ragL t (gn:Int)).1∧(ragL t (gn:Int)).1≠0):=(show _∧_ from by rw [HRE4.out,if_pos hneg];exact ⟨rfl,(by decide:(26:Int)≠0)⟩)
        have HR8:=Lib.hid HX8.out.L
        clear HX8 k4 k5 k6 g0 g1 y0 y1 y2 y3 y11 y12 y13 kl gl_ zl
        have r0:=HR8.out.R.cell 0
        have r1:=HR8.out.R.cell 1
        have z0:=Blk.frozen HR8.out.R 0
        have z1:=Blk.frozen HR8.out.R 1
        have rl:=HR8.out.R.lt
        have n0:=HR8.out.N.cell 0
        have n1:=HR8.out.N.cell 1
        have nl:=HR8.out.N.lt
        go_wp2_with fail
        refine bodyPost_ret (rg_res (HR8.out.R.two (.int .i64 0) (.slice none 0 0)) rfl _ rfl) rfl ?_
        exact HERR.out _ _ HWHY.out (below_two HR8.out.B (by omega) _ _)
      · obtain ⟨R,hR⟩:=Int.eq_ofNat_of_zero_le (show 0≤(F:Int)-pr by omega)
        have HRE5:Hid (ragL t (gn:Int)=match fewS (qsF t.f l2) R 0 13 with | none=>((12:Int),([]:List Int)) | some r=>(0,joinK t.ind t.words (List.replicate G [(gn:Int)]) t.words.length++widR t.f (cntR t.f r))):=(show _=_ from by
         rw [HRE4.out,if_neg hneg,hR]
         rfl)
        have hRb:R≤20000:=by have:=HFB.out;omega
        rw [hR]
        have HRI:Hid (¬(R:Int) < 0):=(show ¬_ from by omega)
        have hri:=HRI.out
        have HC6:=Lib.hid (ending_any t.f _ _ v7 l2 R W8 HX8.out.L.T.s HX8.out.S HV8.out HOK.out.f HOK.out.k HL2.out hRb)
        clear HRE4 hneg hR HV8
        go_upto_region 24 with fail
        go_wp2_with fail
        refine HC6.out.mono ?_
        rintro e W9 ⟨hb9,hans⟩
        have HX9:=Lib.hid (HX8.out.step hb9)
        have HSZ9:Hid (W8.heap.size≤W9.heap.size∧w.heap.size+3 < W8.heap.size):=⟨hb9.size,HX8.out.L.N.lt⟩
        clear hb9 k4 k5 k6 g0 g1 y0 y1 y2 y3 y11 y12 y13 kl gl_ zl HX8 HC6 hri
        rcases hans with ⟨hno,rfl⟩ | ⟨r,v9,hyes,rfl,hio9⟩
        · have HWHY:Hid (12=(ragL t (gn:Int)).1∧(ragL t (gn:Int)).1≠0):=(show _∧_ from by rw [HRE5.out,hno];exact ⟨rfl,(by decide:(12:Int)≠0)⟩)
          have HR9:=Lib.hid HX9.out.L
          clear HX9 hno
          have r0:=HR9.out.R.cell 0
          have r1:=HR9.out.R.cell 1
          have z0:=Blk.frozen HR9.out.R 0
          have z1:=Blk.frozen HR9.out.R 1
          have rl:=HR9.out.R.lt
          have n0:=HR9.out.N.cell 0
          have n1:=HR9.out.N.cell 1
          have nl:=HR9.out.N.lt
          go_wp2_with fail
          refine bodyPost_ret (rg_res (HR9.out.R.two (.int .i64 0) (.slice none 0 0)) rfl _ rfl) rfl ?_
          exact HERR.out _ _ HWHY.out (below_two HR9.out.B (by omega) _ _)
        · have HRE6:Hid (ragL t (gn:Int)=(0,joinK t.ind t.words (List.replicate G [(gn:Int)]) t.words.length++widR t.f (cntR t.f r))):=(show _=_ from by rw [HRE5.out,hyes])
          have HCO:=Lib.hid (cntR_ok HOK.out.f HL2.out (m:=12) hyes).1
          have HI9:=Lib.hid hio9
          have HWL:Hid ((widR t.f (cntR t.f r)).length≤12):=(show _≤_ from HCO.out.num.2)
          clear hyes hio9 HRE5
          have hjl:(joinK t.ind t.words (List.replicate G [(gn:Int)]) t.words.length).length≤1000:=by
           have h1:=(joinK_perm t.ind t.words (List.replicate G [(gn:Int)]) t.words.length (Nat.le_refl _) (by rw [List.length_replicate];exact HGW.out)).length_eq
           rw [h1,List.length_append,List.length_append,List.take_length]
           have h3:((List.replicate G [(gn:Int)]).take (t.words.length-1)).flatten.length≤29:=by
            rw [List.take_replicate]
            have:∀ n,(List.replicate n [(gn:Int)]).flatten.length=n:=fun n=>by simp
            rw [this]
            have:=HG.out
            omega
           have h4:=HOK.out.all
           unfold sumL at h4
           rw [List.take_length] at h4
           omega
          have HJL:=Lib.hid hjl
          clear hjl
          generalize widR t.f (cntR t.f r)=ed at *
          obtain ⟨k4,k5,k6,g0,g1,y0,y1,y2,y3,y11,y12,y13⟩:=HKW.out _ HX9.out
          have kl:=HX9.out.L.K.lt
          have gl_:=HX9.out.L.G.lt
          have zl:=HX9.out.Z.lt
          obtain ⟨A9,c9,rfl⟩:=HI9.out.shape
          have hb10:Below W9.heap.size W9 ((W9.alloc (.cells #[.int .i64 (gn:Int)] 3)).alloc (.cells #[.slice (some ⟨W9.heap.size,0,none⟩) 1 1] 34)):=(below_new W9 _).alloc (by simp) _
          have HC7:Hid (Calls Tryz.prog 194 #[.slice (some ⟨W9.heap.size+1,0,none⟩) 1 1,.int .i64 (G:Int)] ((W9.alloc (.cells #[.int .i64 (gn:Int)] 3)).alloc (.cells #[.slice (some ⟨W9.heap.size,0,none⟩) 1 1] 34)) (LvPost ((W9.alloc (.cells #[.int .i64 (gn:Int)] 3)).alloc (.cells #[.slice (some ⟨W9.heap.size,0,none⟩) 1 1] 34)) (List.replicate G [(gn:Int)]))):=(show Calls _ _ _ _ _ from by
           have hq1:=Blk.new W9 3 #[.int .i64 (gn:Int)]
           have hq2:=hq1.below (below_new (W9.alloc (.cells #[.int .i64 (gn:Int)] 3)) (.cells #[.slice (some ⟨W9.heap.size,0,none⟩) 1 1] 34)) hq1.lt
           have hq3:=Blk.new (W9.alloc (.cells #[.int .i64 (gn:Int)] 3)) 34 #[.slice (some ⟨W9.heap.size,0,none⟩) 1 1]
           rw [World.size_alloc] at hq3
           exact repeatL_any [(gn:Int)] (.slice (some ⟨W9.heap.size,0,none⟩) 1 1) G _ 0 1 _ (hq3.cell 0) (IV.mk (zs:=[(gn:Int)]) (b:=W9.heap.size) (off:=0) (fun _=>⟨rfl,hq2.lt⟩) (fun j hj=>by
            have:j=0:=by simp at hj;omega
            subst this
            exact hq2.cell 0) (Nat.le_refl _) (by omega)) (by have:=HG.out;omega))
          go_upto_region 32 with fail
          go_wp2_with fail
          refine HC7.out.mono ?_
          rintro e W10 ⟨u10,rfl,hlv10,hb10'⟩
          have hbt:=hb10.trans (hb10'.mono hb10.size)
          have HXA:=Lib.hid (HX9.out.step hbt)
          have HIA:=Lib.hid (HI9.out.below hbt)
          have HLA:=Lib.hid hlv10
          obtain ⟨AA,cA,rfl,-,-⟩:=hlv10.shape
          have HSZA:Hid (W9.heap.size≤W10.heap.size):=hbt.size
          clear hb10 hb10' hbt hlv10 HC7 HX9 HI9 k4 k5 k6 g0 g1 y0 y1 y2 y3 y11 y12 y13 kl gl_ zl
          have HC8:Hid (∀ W,Below W10.heap.size W10 W→Calls Tryz.prog 195 #[.slice Ai t.ind.length ci,.slice Aw t.words.length cw,.slice AA (List.replicate G [(gn:Int)]).length cA] W (CloPost W (joinK t.ind t.words (List.replicate G [(gn:Int)]) t.words.length))):=(show ∀ W,_ from fun W hW=>join_any t.ind t.words (List.replicate G [(gn:Int)]) _ _ _ W (HXA.out.L.T.i.below hW) (HXA.out.L.T.w.below hW) (HLA.out.below hW) (by rw [List.length_replicate];exact HGW.out) (by have:=HOK.out.w30;omega) (by have:=HJL.out;omega))
          generalize hJ:joinK t.ind t.words (List.replicate G [(gn:Int)]) t.words.length=jk at *
          rw [List.length_replicate]
          rw [List.length_replicate] at HC8
          go_upto_region 33 with fail
          have hbd:Below W10.heap.size W10 W10.drew:=(Below.refl _ _).drew
          have HKS:Hid (∀ W,Below W10.heap.size W10 W→(W.cell? ⟨w.heap.size,6,none⟩=some (.int .i64 t.me)∧W.cell? ⟨w.heap.size,5,none⟩=some (.slice Aw t.words.length cw))):=(show ∀ W,_ from fun W hW=>⟨(HXA.out.L.step hW).K.cell 6,(HXA.out.L.step hW).K.cell 5⟩)
          have hS0:=HKS.out _ hbd
          refine wp_region_split (fun W=>(W.cell? ⟨w.heap.size,6,none⟩=some (.int .i64 t.me)∧W.cell? ⟨w.heap.size,5,none⟩=some (.slice Aw t.words.length cw))) 10 (by kernel_rfl) (by decide) ?_
          refine wpG_take 10 0 (v:=?_) rfl (by kernel_rfl) (fun _ _ _ h=>h) (Or.inl ⟨by rfl,?_⟩) (by assumption) ?_
          rotate_left
          · intro w hSw;(try dsimp only at hSw);go_simp;(try with_reducible rfl)
          (try simp only [pz])
          refine wpG_take 10 1 (v:=?_) rfl (by kernel_rfl) (fun _ _ _ h=>h) (Or.inl ⟨by rfl,?_⟩) (by assumption) ?_
          rotate_left
          · intro w hSw;(try dsimp only at hSw);go_simp;(try with_reducible rfl)
          (try simp only [pz])
          refine wpG_take 10 2 (v:=?_) rfl (by kernel_rfl) (fun _ _ _ h=>h) (Or.inl ⟨by rfl,?_⟩) (by assumption) ?_
          rotate_left
          · intro w hSw;(try dsimp only at hSw);go_simp;(try with_reducible rfl)
          (try simp only [pz])
          refine wpG_take 10 3 (v:=?_) rfl (by kernel_rfl) (fun _ _ _ h=>h) (Or.inl ⟨by rfl,?_⟩) (by assumption) ?_
          rotate_left
          · intro w hSw;(try dsimp only at hSw);go_simp;(try with_reducible rfl)
          (try simp only [pz])
          refine wpG_take 10 4 (v:=?_) rfl (by kernel_rfl) (fun _ _ _ h=>h) (Or.inl ⟨by rfl,?_⟩) (by assumption) ?_
          rotate_left
          · intro w hSw;(try dsimp only at hSw);go_simp;(try with_reducible rfl)
          (try simp only [pz])
          refine wpG_take 10 5 (v:=?_) rfl (by kernel_rfl) (fun _ _ _ h=>h) (Or.inl ⟨by rfl,?_⟩) (by assumption) ?_
          rotate_left
          · intro w hSw;(try dsimp only at hSw);go_simp;(try with_reducible rfl)
          (try simp only [pz])
          refine wpG_take 10 7 (v:=?_) rfl (by kernel_rfl) (fun _ _ _ h=>h) (Or.inl ⟨by rfl,?_⟩) (by assumption) ?_
          rotate_left
          · intro w hSw;(try dsimp only at hSw);go_simp;(try with_reducible rfl)
          (try simp only [pz])
          refine wpG_one (i:=6) (by kernel_rfl) ?_
          refine wpOp_step rfl (fun K hK=>?_)
          go_simp
          go_at_call 195
          (with_reducible refine (HC8.out _ hbd).mono ?_)
          rintro e w11 ⟨u11,rfl,hio11,hb11'⟩
          have hb11:Below W10.heap.size W10 w11:=hbd.trans (hb11'.mono hbd.size)
          have n11:=HKS.out w11 hb11
          have HI11:Hid (IO w11 W10.heap.size jk u11):=(show IO _ _ _ _ from hio11)
          obtain ⟨A11,c11,rfl⟩:=hio11.shape
          (try dsimp only)
          refine hK _ _ ⟨n11,?_⟩
          clear hK K hio11 hb11'
          (try simp only [pz])
          have HIE:=Lib.hid (HIA.out.below hb11)
          obtain ⟨AE,bE,oE,cE,hEe,hLE,hZE,-,-⟩:=(HIE.out.iv).open
          injection hEe with e1 e2 e3
          subst e1
          refine wpG_one (i:=8) (by kernel_rfl) ?_
          refine wpOp_step rfl (fun K hK=>?_)
          refine step_app rfl _ _ 34 rfl W10.heap.size 3 i3 _ 1 8 Tryz.underlying34 hi3 hz3 hy3 hx3 rfl (by omega) (.slice A11 jk.length c11) jk.length (zv jk) (by rfl) HI11.out A9 bE oE ed.length c9 (zv ed) (by rfl) (zv_len ed) hLE (hZE.news) (zv_one ed) (by simp only [maxLen];have:=HJL.out;have:=HWL.out;omega) (by have:=HJL.out;have:=HWL.out;omega) hb11.size ?_
          intro v12 w12 hown12 hg12 hat12
          have hb12:Below W10.heap.size W10 w12:=hb11.grown hg12 hb11.size (fun t ht=>(World.ownsRow.lt HI11.out t ht).1)
          have n12:=HKS.out w12 hb12
          have HI12:Hid (IO w12 W10.heap.size (jk++ed) v12):=(show World.ownsRow _ _ _ _ _ _ _ from by rw [zv_app,List.length_append];exact hown12)
          refine hK _ _ ⟨n12,?_⟩
          clear hK K hown12 hg12 hat12
          obtain ⟨A12,c12,rfl⟩:=HI12.out.shape
          generalize (jk++ed).length=l12 at *
          (try simp only [pz])
          refine wpG_take 10 9 (v:=?_) rfl (by kernel_rfl) (fun _ _ _ h=>h) (Or.inl ⟨by rfl,?_⟩) (by assumption) ?_
          rotate_left
          · intro w hSw;(try dsimp only at hSw);go_simp;(try with_reducible rfl)
          (try simp only [pz])
          refine ⟨by kernel_rfl,?_⟩
          simp only [List.drop_succ_cons,List.drop_zero]
          have HRC:=Lib.hid (HXA.out.L.step hb12)
          have HPP:Hid (LnPost t.me (ragL t (gn:Int)) w (.returned (.tuple #[.agg #[.int .i64 t.me,.slice A12 l12 c12],.int .i64 0])) ((w12.setCell ⟨w.heap.size+2,0,none⟩ (.int .i64 t.me)).setCell ⟨w.heap.size+2,1,none⟩ (.slice A12 l12 c12))):=(show LnPost _ _ _ _ _ from by
           refine ⟨below_two HRC.out.B (by omega) _ _,.inr ⟨by rw [HRE6.out],_,rfl,?_⟩⟩
           rw [HRE6.out]
           have hlo:w.heap.size+3≤W10.heap.size:=by have:=HSZA.out;have:=HSZ9.out;omega
           refine World.ownsRow.mono (base:=w.heap.size+3) ?_ (by omega)
           exact ownsRow_setCell_below (ownsRow_setCell_below (HI12.out.base hlo) (by show w.heap.size+2 < _;omega) _) (by show w.heap.size+2 < _;omega) _)
          have q0:=HRC.out.R.cell 0
          have q1:=HRC.out.R.cell 1
          have p0:=Blk.frozen HRC.out.R 0
          have p1:=Blk.frozen HRC.out.R 1
          have ql:=HRC.out.R.lt
          have HR2:=Lib.hid (HRC.out.R.two (.int .i64 t.me) (.slice A12 l12 c12))
          clear n11 n12 hS0 hb11 hb12 hbd HKS hLE hZE
          go_wp2_with fail
          refine bodyPost_ret (rg_res HR2.out rfl _ rfl) rfl ?_
          exact HPP.out
end Go.Proofs.YtbnganlfelgogaaGreat
