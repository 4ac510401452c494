/- setLine: a line is set, where a paragraph has no indent. -/
import Derived.Lib.QuietBelow
import Derived.Test.YtbnganlfelgogaaGreatVRag
import Derived.Test.YtbnganlfelgogaaGreatVDem
set_option linter.unusedSimpArgs false
set_option linter.unusedVariables false
set_option maxRecDepth 100000
set_option maxHeartbeats 40000000
namespace Go.Proofs.YtbnganlfelgogaaGreat
open Go.RowKit Go.Shelf Go.Sort
def jusR (t:Tsk):Int × List Int:=
 if opnE t≠0 then (opnE t,[]) else match takR t.cs (ownL t) with
  | none=>(0,[])
  | some lf=>match chzT t lf with
   | none=>(12,[])
   | some r=>(0,justL t r)
theorem ju_ln {t:Tsk} {w:World} {e:Ending} {w':World} (h:JuPost t w e w'):LnPost t.me (jusR t) w e w':=by
 obtain ⟨h1,h2⟩:=h
 refine ⟨h1,?_⟩
 rcases h2 with ⟨h2,rfl⟩ | ⟨h2,lf,h3,h4⟩
 · left
   have e:jusR t=(opnE t,[]):=by unfold jusR;rw [if_pos h2]
   rw [e];exact ⟨h2,rfl⟩
 · rcases h4 with ⟨h4,rfl⟩ | ⟨r,v,h4,rfl,h5⟩
   · left
     have e:jusR t=(12,[]):=by unfold jusR;rw [if_neg (by omega),h3];simp only [h4]
     rw [e];exact ⟨(by decide:(12:Int)≠0),rfl⟩
   · right
     have e:jusR t=(0,justL t r):=by unfold jusR;rw [if_neg (by omega),h3];simp only [h4]
     rw [e];exact ⟨rfl,v,rfl,h5⟩
@[reducible] def tskL (f:Fnt) (r:Rls) (l:Ln) (cs:List Int):Tsk:={ f:=f,cs:=cs,ind:=[],words:=l.ps,me:=r.measure }
def setL (f:Fnt) (r:Rls) (l:Ln) (cs:List Int):Int × List Int:=
 if l.ends=true∧((l.ps.length:Int)-1)*wd f r.gap≤l.room then ragL (tskL f r l cs) r.gap else jusR (tskL f r l cs)
theorem sl_res {W:World} {bR:Nat} {cs:Array Value} (hg:Blk W bR 83 cs) (hs:cs.size=2) (tmps:Array Value) (hp:tmps.getD 6 undef=.pointer (some ⟨bR,0,none⟩)) :
 (results Tryz.f133 tmps).run Tryz.prog W=.ok (.tuple #[.agg cs,tmps.getD 7 undef]) W:=by
 have h:Tryz.f133.results=#[.cell 6 83,.tmp 7]:=rfl
 have hi:(Tryz.prog.info? 83).map (·.size)=some cs.size:=by rw [hs];kernel_rfl
 have hp':tmps[6]?.getD undef=.pointer (some ⟨bR,0,none⟩):=by simpa using hp
 simp only [results,h]
 simp [Sem.run_bind,Result.andThen,hp',asAddr,run_loadVar_row W bR 83 83 cs (0,0) _ hg Tryz.underlying83 rfl hi]
theorem sl_fin {w W2 W3:World} {me:Int} {R:Int × List Int} {a:Int} {A:Option Addr} {n c:Nat} {er:Int} (h:LnPost me R W2 (.returned (.tuple #[.agg #[.int .i64 a,.slice A n c],.int .i64 er])) W3) (hB:Below w.heap.size w W2) (hlt:w.heap.size+1 < W2.heap.size) :
 LnPost me R w (.returned (.tuple #[.agg #[.int .i64 a,.slice A n c],.int .i64 er])) ((W3.setCell ⟨w.heap.size+1,0,none⟩ (.int .i64 a)).setCell ⟨w.heap.size+1,1,none⟩ (.slice A n c)):=by
 obtain ⟨h1,h2⟩:=h
 refine ⟨below_two (hB.trans (h1.mono hB.size)) (by omega) _ _,?_⟩
 rcases h2 with ⟨h3,he⟩ | ⟨h3,v,he,hio⟩
 · exact .inl ⟨h3,he⟩
 · injection he with he
   injection he with he
   have e1:=congrArg (fun a=>a[0]?) he
   simp at e1
   obtain ⟨rfl,rfl⟩:=e1
   exact .inr ⟨h3,_,by rw [he],World.ownsRow.mono (base:=W2.heap.size) (ownsRow_setCell_below (ownsRow_setCell_below hio hlt _) hlt _) hB.size⟩
theorem ln_shape {me:Int} {R:Int × List Int} {w:World} {e:Ending} {w':World} (h:LnPost me R w e w'):∃ a A n c er,e=.returned (.tuple #[.agg #[.int .i64 a,.slice A n c],.int .i64 er]):=by
 obtain ⟨h1,⟨h3,rfl⟩ | ⟨h3,v,rfl,hio⟩⟩:=h
 · exact ⟨_,_,_,_,_,rfl⟩
 · obtain ⟨A,c,rfl⟩:=hio.shape
   exact ⟨_,_,_,_,_,rfl⟩
structure SlW (w W:World) (f:Fnt) (v:Value) (r:Rls) (ws:List PWord) (vw vp:Value) (pb i j:Nat) (l:Ln) (A:Option Addr) (c:Nat) (cs:List Int) (vc:Value):Prop where
 B:Below w.heap.size w W
 P:PA W pb f v r ws vw vp
 C:IV W cs vc
 L:LV W l.ps (.slice A l.ps.length c)
 X:Blk W w.heap.size 155 (lcs i j (.slice A l.ps.length c) l.room l.ends)
 R:Blk W (w.heap.size+1) 83 #[.int .i64 0,.slice none 0 0]
theorem SlW.step {w W W':World} {f:Fnt} {v:Value} {r:Rls} {ws:List PWord} {vw vp:Value} {pb i j:Nat} {l:Ln} {A:Option Addr} {c:Nat} {cs:List Int} {vc:Value} (h:SlW w W f v r ws vw vp pb i j l A c cs vc) (hb:Below W.heap.size W W'):SlW w W' f v r ws vw vp pb i j l A c cs vc:=
 ⟨h.B.trans (hb.mono h.B.size),h.P.step hb,h.C.below hb,h.L.below hb,h.X.below hb h.X.lt,h.R.below hb h.R.lt⟩
theorem setLine_any (f:Fnt) (v:Value) (r:Rls) (ws:List PWord) (vw vp:Value) (pb i j:Nat) (l:Ln) (A:Option Addr) (c:Nat) (cs:List Int) (vc:Value) (w:World) (h:PA w pb f v r ws vw vp) (hok:POk f r ws) (hi0:r.indent=0) (hps:LV w l.ps (.slice A l.ps.length c)) (hc:IV w cs vc)
 (hl:l.ps.length≤100000) (hn:f.name.size≤9223372036854775807) :
 Calls Tryz.prog 133 #[.pointer (some ⟨pb,0,none⟩),.agg (lcs i j (.slice A l.ps.length c) l.room l.ends),vc] w (LnPost r.measure (setL f r l cs) w):=by
 have hb0:=below_new w (.cells (lcs i j (.slice A l.ps.length c) l.room l.ends) 155)
 have hb1:=below_new (w.alloc (.cells (lcs i j (.slice A l.ps.length c) l.room l.ends) 155)) (.cells #[.int .i64 0,.slice none 0 0] 83)
 have hX:=Blk.new w 155 (lcs i j (.slice A l.ps.length c) l.room l.ends)
 have hR:=Blk.new (w.alloc (.cells (lcs i j (.slice A l.ps.length c) l.room l.ends) 155)) 83 #[.int .i64 0,.slice none 0 0]
 rw [World.size_alloc] at hR
 have HS0:Hid (SlW w ((w.alloc (.cells (lcs i j (.slice A l.ps.length c) l.room l.ends) 155)).alloc (.cells #[.int .i64 0,.slice none 0 0] 83)) f v r ws vw vp pb i j l A c cs vc):=
  ⟨hb0.trans (hb1.mono hb0.size),(h.step hb0).step hb1,(hc.below hb0).below hb1,(hps.below hb0).below hb1,hX.below hb1 hX.lt,hR⟩
 have HOK:=Lib.hid hok
 have HFEW:=Lib.hid (fnErr_few hok.fn)
 obtain ⟨Av,cv,rfl⟩:=h.S.shape
 obtain ⟨Ac,_,_,cc,rfl,-⟩:=hc.open
 have p0:=HS0.out.P.P.cell 0
 have p1:=HS0.out.P.P.cell 1
 have p2:=HS0.out.P.P.cell 2
 have p3:=HS0.out.P.P.cell 3
 have p4:=HS0.out.P.P.cell 4
 have pl:=HS0.out.P.P.lt
 have s0:=HS0.out.X.cell 0
 have s2:=HS0.out.X.cell 2
 have sl:=HS0.out.X.lt
 clear hb0 hb1 hX hR h hc hps hok
 go_enter Tryz.func133,Tryz.ntmps133
 go_upto_region 1 with fail
 generalize (w.alloc (.cells (lcs i j (.slice A l.ps.length c) l.room l.ends) 155)).alloc (.cells #[.int .i64 0,.slice none 0 0] 83)=W0 at *
 have HKS:Hid (∀ W,Below W0.heap.size W0 W→(W.cell? ⟨pb,0,none⟩=some (.string f.name)∧W.cell? ⟨pb,1,none⟩=some (.int .i64 f.body)∧W.cell? ⟨pb,2,none⟩=some (.slice Av f.sorts.length cv)∧W.cell? ⟨pb,3,none⟩=some (.int .i64 r.measure)∧W.cell? ⟨w.heap.size,2,none⟩=some (.slice A l.ps.length c))):=(show ∀ W,_ from fun W hW=>⟨(HS0.out.step hW).P.P.cell 0,(HS0.out.step hW).P.P.cell 1,(HS0.out.step hW).P.P.cell 2,(HS0.out.step hW).P.P.cell 3,(HS0.out.step hW).X.cell 2⟩)
 have hbd:Below W0.heap.size W0 W0.drew:=(Below.refl _ _).drew
 have hS0:=HKS.out _ hbd
 refine wp_region_split (fun W=>(W.cell? ⟨pb,0,none⟩=some (.string f.name)∧W.cell? ⟨pb,1,none⟩=some (.int .i64 f.body)∧W.cell? ⟨pb,2,none⟩=some (.slice Av f.sorts.length cv)∧W.cell? ⟨pb,3,none⟩=some (.int .i64 r.measure)∧W.cell? ⟨w.heap.size,2,none⟩=some (.slice A l.ps.length c))) 14 (by kernel_rfl) (by decide) ?_
 refine wpG_take 14 0 (v:=?_) rfl (by kernel_rfl) (fun _ _ _ h=>h) (Or.inl ⟨by rfl,?_⟩) (by assumption) ?_
 rotate_left
 · intro w hSw;(try dsimp only at hSw);go_simp;(try with_reducible rfl)
 (try simp only [pz])
 refine wpG_take 14 1 (v:=?_) rfl (by kernel_rfl) (fun _ _ _ h=>h) (Or.inl ⟨by rfl,?_⟩) (by assumption) ?_
 rotate_left
 · intro w hSw;(try dsimp only at hSw);go_simp;(try with_reducible rfl)
 (try simp only [pz])
 refine wpG_take 14 2 (v:=?_) rfl (by kernel_rfl) (fun _ _ _ h=>h) (Or.inl ⟨by rfl,?_⟩) (by assumption) ?_
 rotate_left
 · intro w hSw;(try dsimp only at hSw);go_simp;(try with_reducible rfl)
 (try simp only [pz])
 refine wpG_take 14 3 (v:=?_) rfl (by kernel_rfl) (fun _ _ _ h=>h) (Or.inl ⟨by rfl,?_⟩) (by assumption) ?_
 rotate_left
 · intro w hSw;(try dsimp only at hSw);go_simp;(try with_reducible rfl)
 (try simp only [pz])
 refine wpG_take 14 4 (v:=?_) rfl (by kernel_rfl) (fun _ _ _ h=>h) (Or.inl ⟨by rfl,?_⟩) (by assumption) ?_
 rotate_left
 · intro w hSw;(try dsimp only at hSw);go_simp;(try with_reducible rfl)
 (try simp only [pz])
 refine wpG_take 14 5 (v:=?_) rfl (by kernel_rfl) (fun _ _ _ h=>h) (Or.inl ⟨by rfl,?_⟩) (by assumption) ?_
 rotate_left
 · intro w hSw;(try dsimp only at hSw);go_simp;(try with_reducible rfl)
 (try simp only [pz])
 refine wpG_take 14 6 (v:=?_) rfl (by kernel_rfl) (fun _ _ _ h=>h) (Or.inl ⟨by rfl,?_⟩) (by assumption) ?_
 rotate_left
 · intro w hSw;(try dsimp only at hSw);go_simp;(try with_reducible rfl)
 (try simp only [pz])
 refine wpG_take 14 7 (v:=?_) rfl (by kernel_rfl) (fun _ _ _ h=>h) (Or.inl ⟨by rfl,?_⟩) (by assumption) ?_
 rotate_left
 · intro w hSw;(try dsimp only at hSw);go_simp;(try with_reducible rfl)
 (try simp only [pz])
 refine wpG_take 14 8 (v:=?_) rfl (by kernel_rfl) (fun _ _ _ h=>h) (Or.inl ⟨by rfl,?_⟩) (by assumption) ?_
 rotate_left
 · intro w hSw;(try dsimp only at hSw);go_simp;(try with_reducible rfl)
 (try simp only [pz])
 refine wpG_take 14 9 (v:=?_) rfl (by kernel_rfl) (fun _ _ _ h=>h) (Or.inl ⟨by rfl,?_⟩) (by assumption) ?_
 rotate_left
 · intro w hSw;(try dsimp only at hSw);go_simp;(try with_reducible rfl)
 (try simp only [pz])
 refine wpG_take 14 10 (v:=?_) rfl (by kernel_rfl) (fun _ _ _ h=>h) (Or.inl ⟨by rfl,?_⟩) (by assumption) ?_
 rotate_left
 · intro w hSw;(try dsimp only at hSw);go_simp;(try with_reducible rfl)
 (try simp only [pz])
 refine wpG_take 14 11 (v:=?_) rfl (by kernel_rfl) (fun _ _ _ h=>h) (Or.inl ⟨by rfl,?_⟩) (by assumption) ?_
 rotate_left
 · intro w hSw;(try dsimp only at hSw);go_simp;(try with_reducible rfl)
 (try simp only [pz])
 refine wpG_take 14 12 (v:=?_) rfl (by kernel_rfl) (fun _ _ _ h=>h) (Or.inl ⟨by rfl,?_⟩) (by assumption) ?_
 rotate_left
 · intro w hSw;(try dsimp only at hSw);go_simp;(try with_reducible rfl)
 (try simp only [pz])
 refine wpG_one (i:=13) (by kernel_rfl) ?_
 refine wpOp_step rfl (fun K hK=>?_)
 go_simp
 have hba:Below W0.heap.size W0 (W0.alloc (.cells #[.string ⟨#[]⟩,.int .i64 0,.slice none 0 0,.slice none 0 0,.slice none 0 0,.slice none 0 0,.int .i64 0] 124)).drew:=(below_new W0 _).drew
 have n1:=HKS.out _ hba
 refine hK _ _ ⟨n1,?_⟩
 clear hK K hS0
 (try simp only [pz])
 refine ⟨by kernel_rfl,?_⟩
 simp only [List.drop_succ_cons,List.drop_zero]
 clear p0 p1 p2 p3 p4 pl s0 s2 sl n1 hba hbd
 go_upto_region 2 with fail
 have hb1:Below W0.heap.size W0 (W0.alloc (.cells (xts (tskL f r l cs) (.slice Av f.sorts.length cv) (.slice Ac cs.length cc) (.slice none 0 0) (.slice A l.ps.length c)) 124)).drew:=(below_new W0 _).drew
 have HS1:=Lib.hid (HS0.out.step hb1)
 have HT1:Hid (Blk (W0.alloc (.cells (xts (tskL f r l cs) (.slice Av f.sorts.length cv) (.slice Ac cs.length cc) (.slice none 0 0) (.slice A l.ps.length c)) 124)).drew W0.heap.size 124 (xts (tskL f r l cs) (.slice Av f.sorts.length cv) (.slice Ac cs.length cc) (.slice none 0 0) (.slice A l.ps.length c))):=Blk.new W0 124 _
 clear hb1 HS0 HKS
 generalize (W0.alloc (.cells (xts (tskL f r l cs) (.slice Av f.sorts.length cv) (.slice Ac cs.length cc) (.slice none 0 0) (.slice A l.ps.length c)) 124)).drew=W1 at *
 generalize W0.heap.size=tb at *
 have hp4:=HS1.out.P.P.cell 4
 have p4:W1.cell? ⟨pb,4,none⟩=some (.int .i64 0):=by rw [hp4,←hi0];rfl
 clear hp4
 have p3:=HS1.out.P.P.cell 3
 have pl:=HS1.out.P.P.lt
 have s0:=HS1.out.X.cell 0
 have s2:=HS1.out.X.cell 2
 have s3:=HS1.out.X.cell 3
 have s4:=HS1.out.X.cell 4
 have sl:=HS1.out.X.lt
 obtain ⟨sb,so,sc,hAv,hsb,hwd⟩:=SoV.width HS1.out.P.S HOK.out.ru.gap
 injection hAv with e1 e2 e3
 obtain ⟨gp,hgp⟩:=Int.eq_ofNat_of_zero_le HOK.out.ru.gap.1
 have HWN:Hid (∀ (x:Int) W,Below W1.heap.size W1 W→Calls Tryz.prog 141 #[.pointer (some ⟨pb,0,none⟩),.agg (lcs x j (.slice A l.ps.length c) l.room l.ends)] W fun e w'=>e=.returned (.int .i64 (((l.ps.length:Int)-1)*wd f r.gap))∧Below W.heap.size W w'):=(show ∀ x W,_ from fun x W hW=>by
  have hp:=(HS1.out.step hW).P.P
  refine wanted_any x j l.room l.ends A l.ps.length c pb sb so f.sorts.length cv gp (wd f r.gap) W hl hp.lt (by have:=hW.size;omega) (by rw [←e1];exact hp.cell 2) (by rw [←hgp];exact hp.cell 7) (by have:=HOK.out.ru.gap;omega) ?_ (wd_ok HOK.out.fn HOK.out.ru.gap) (by have:=HFEW.out;omega)
  have h3:=(hW.cell (p:=⟨sb,so+r.gap.toNat*4+3,none⟩) hsb).trans hwd
  rw [show r.gap.toNat=gp from by omega] at h3
  exact h3)
 have HWR:Hid (∀ (x:Int) d os,Calls Tryz.prog 141 #[.pointer (some ⟨pb,0,none⟩),.agg (lcs x j (.slice A l.ps.length c) l.room l.ends)] (grow (redrawn W1 d) os) fun e w''=>e=.returned (.int .i64 (((l.ps.length:Int)-1)*wd f r.gap))∧∃ p:Regrown,w''=grow (redrawn W1 p.d) p.os):=(show ∀ x d os,_ from fun x d os=>(Calls.regrown_of ((HWN.out x _ (below_regrown W1 d os)))))
 have s1:=HS1.out.X.cell 1
 have p7r:=HS1.out.P.P.cell 7
 have z0:=cell_regrown s0
 have z1:=cell_regrown s1
 have z2:=cell_regrown s2
 have z3:=cell_regrown s3
 have z4:=cell_regrown s4
 clear hgp hwd hsb e1 e3 HWN
 have HSD:Hid (setL f r l cs=if l.ends=true∧((l.ps.length:Int)-1)*wd f r.gap≤l.room then ragL (tskL f r l cs) r.gap else jusR (tskL f r l cs)):=rfl
 generalize hgw:((l.ps.length:Int)-1)*wd f r.gap=gw at *
 clear hgw
 cases hen:l.ends with
 | false=>
  have HSE:Hid (setL f r l cs=jusR (tskL f r l cs)):=(show _=_ from by rw [HSD.out,if_neg (fun h=>by rw [hen] at h;cases h.1)])
  rw [hen] at s4 z4
  rw [hen] at HWR
  clear hen HSD
  go_upto_region 7 with fail
  all_goals
   (refine wp_region_quiet_below (by kernel_rfl) (by kernel_rfl) ?_
    repeat (first | go_big_quiet_step (exact HWR.out _ _ _) | quiet_step (exact HWR.out _ _ _))
    refine wpQuiet_nil ?_
    intro _ hw'
    obtain ⟨⟨dq,osq⟩,hw''⟩:=hw'
    subst hw''
    have b5:=below_regrown W1 dq osq
    have HS2:=Lib.hid (HS1.out.step b5)
    have HT2:=Lib.hid (HT1.out.below b5 HT1.out.lt)
    clear b5 HS1 HT1 HWR
    generalize grow (redrawn W1 dq) osq=W2 at *
    clear p3 p4 p7r pl s0 s1 s2 s3 s4 sl z0 z1 z2 z3 z4
    have HTV:Hid (TkV W2 (tskL f r l cs) (.slice Av f.sorts.length cv) (.slice Ac cs.length cc) (.slice none 0 0) (.slice A l.ps.length c)):=⟨HS2.out.P.S,HS2.out.C,IV.nil _,HS2.out.L⟩
    have HLT2:Hid (w.heap.size+1 < W2.heap.size):=HS2.out.R.lt
    have k0:=HT2.out.cell 0
    have k1:=HT2.out.cell 1
    have k2:=HT2.out.cell 2
    have k3:=HT2.out.cell 3
    have k4:=HT2.out.cell 4
    have k5:=HT2.out.cell 5
    have k6:=HT2.out.cell 6
    have kl:=HT2.out.lt
    go_wp2_with fail
    refine (justify_any (tskL f r l cs) _ _ _ _ W2 HTV.out hn (by have:=HFEW.out;show f.sorts.length≤_;omega)).mono ?_
    intro e W3 hju
    have hln:LnPost r.measure (setL f r l cs) W2 e W3:=by rw [HSE.out];exact ju_ln hju
    obtain ⟨a',A',n',c',er,rfl⟩:=ln_shape hln
    have HR3:=Lib.hid (HS2.out.R.below hln.1 HS2.out.R.lt)
    have HFIN:=Lib.hid (sl_fin hln HS2.out.B HLT2.out)
    clear hju hln HS2 HT2 HTV k0 k1 k2 k3 k4 k5 k6 kl
    have r0:=HR3.out.cell 0
    have r1:=HR3.out.cell 1
    have z0:=Blk.frozen HR3.out 0
    have z1:=Blk.frozen HR3.out 1
    have rl:=HR3.out.lt
    go_wp2_with fail
    refine bodyPost_ret (sl_res (HR3.out.two _ _) rfl _ rfl) rfl ?_
    exact HFIN.out)
 | true=>
  rw [hen] at s4 z4
  rw [hen] at HWR
  by_cases hgl:gw≤l.room
  · have HSE:Hid (setL f r l cs=ragL (tskL f r l cs) r.gap):=(show _=_ from by rw [HSD.out,if_pos ⟨hen,hgl⟩])
    clear hen HSD
    go_upto_region 7 with fail
    all_goals
     (refine wp_region_quiet_below (by kernel_rfl) (by kernel_rfl) ?_
      repeat (first | go_big_quiet_step (exact HWR.out _ _ _) | quiet_step (exact HWR.out _ _ _))
      refine wpQuiet_nil ?_
      intro _ hw'
      obtain ⟨⟨dq,osq⟩,hw''⟩:=hw'
      subst hw''
      have b5:=below_regrown W1 dq osq
      have HS2:=Lib.hid (HS1.out.step b5)
      have HT2:=Lib.hid (HT1.out.below b5 HT1.out.lt)
      clear b5 HS1 HT1 HWR
      generalize grow (redrawn W1 dq) osq=W2 at *
      clear p3 p4 p7r pl s0 s1 s2 s3 s4 sl z0 z1 z2 z3 z4
      have HTV:Hid (TkV W2 (tskL f r l cs) (.slice Av f.sorts.length cv) (.slice Ac cs.length cc) (.slice none 0 0) (.slice A l.ps.length c)):=⟨HS2.out.P.S,HS2.out.C,IV.nil _,HS2.out.L⟩
      have HLT2:Hid (w.heap.size+1 < W2.heap.size):=HS2.out.R.lt
      go_upto_region 8 with fail
      have HK8:Hid (∀ W,Below W2.heap.size W2 W→(W.cell? ⟨tb,0,none⟩=some (.string f.name)∧W.cell? ⟨tb,1,none⟩=some (.int .i64 f.body)∧W.cell? ⟨tb,2,none⟩=some (.slice Av f.sorts.length cv)∧W.cell? ⟨tb,3,none⟩=some (.slice Ac cs.length cc)∧W.cell? ⟨tb,4,none⟩=some (.slice none 0 0)∧W.cell? ⟨tb,5,none⟩=some (.slice A l.ps.length c)∧W.cell? ⟨tb,6,none⟩=some (.int .i64 r.measure)∧W.cell? ⟨pb,7,none⟩=some (.int .i64 r.gap))):=(show ∀ W,_ from fun W hW=>by
       have h1:=HT2.out.below hW HT2.out.lt
       exact ⟨h1.cell 0,h1.cell 1,h1.cell 2,h1.cell 3,h1.cell 4,h1.cell 5,h1.cell 6,(HS2.out.step hW).P.P.cell 7⟩)
      have HC8:Hid (∀ W,Below W2.heap.size W2 W→Calls Tryz.prog 167 #[.agg (xts (tskL f r l cs) (.slice Av f.sorts.length cv) (.slice Ac cs.length cc) (.slice none 0 0) (.slice A l.ps.length c)),.agg #[.int .i64 r.gap,.int .i64 0]] W (LnPost r.measure (ragL (tskL f r l cs) r.gap) W)):=(show ∀ W,_ from fun W hW=>ragged_any (tskL f r l cs) _ _ _ _ r.gap W (HTV.out.below hW) hn (by have:=HFEW.out;show f.sorts.length≤_;omega))
      have hbd:Below W2.heap.size W2 W2.drew:=(Below.refl _ _).drew
      have hS0:=HK8.out _ hbd
      refine wp_region_split (fun W=>(W.cell? ⟨tb,0,none⟩=some (.string f.name)∧W.cell? ⟨tb,1,none⟩=some (.int .i64 f.body)∧W.cell? ⟨tb,2,none⟩=some (.slice Av f.sorts.length cv)∧W.cell? ⟨tb,3,none⟩=some (.slice Ac cs.length cc)∧W.cell? ⟨tb,4,none⟩=some (.slice none 0 0)∧W.cell? ⟨tb,5,none⟩=some (.slice A l.ps.length c)∧W.cell? ⟨tb,6,none⟩=some (.int .i64 r.measure)∧W.cell? ⟨pb,7,none⟩=some (.int .i64 r.gap))) 10 (by kernel_rfl) (by decide) ?_
      refine wpG_take 10 0 (v:=?_) rfl (by kernel_rfl) (fun _ _ _ h=>h) (Or.inl ⟨by rfl,?_⟩) (by assumption) ?_
      rotate_left
      · intro w hSw;(try dsimp only at hSw);go_simp;(try with_reducible rfl)
      (try simp only [pz])
      refine wpG_take 10 1 (v:=?_) rfl (by kernel_rfl) (fun _ _ _ h=>h) (Or.inl ⟨by rfl,?_⟩) (by assumption) ?_
      rotate_left
      · intro w hSw;(try dsimp only at hSw);go_simp;(try with_reducible rfl)
      (try simp only [pz])
      refine wpG_take 10 2 (v:=?_) rfl (by kernel_rfl) (fun _ _ _ h=>h) (Or.inl ⟨by rfl,?_⟩) (by assumption) ?_
      rotate_left
      · intro w hSw;(try dsimp only at hSw);go_simp;(try with_reducible rfl)
      (try simp only [pz])
      refine wpG_take 10 3 (v:=?_) rfl (by kernel_rfl) (fun _ _ _ h=>h) (Or.inl ⟨by rfl,?_⟩) (by assumption) ?_
      rotate_left
      · intro w hSw;(try dsimp only at hSw);go_simp;(try with_reducible rfl)
      (try simp only [pz])
      refine wpG_take 10 4 (v:=?_) rfl (by kernel_rfl) (fun _ _ _ h=>h) (Or.inl ⟨by rfl,?_⟩) (by assumption) ?_
      rotate_left
      · intro w hSw;(try dsimp only at hSw);go_simp;(try with_reducible rfl)
      (try simp only [pz])
      refine wpG_take 10 5 (v:=?_) rfl (by kernel_rfl) (fun _ _ _ h=>h) (Or.inl ⟨by rfl,?_⟩) (by assumption) ?_
      rotate_left
      · intro w hSw;(try dsimp only at hSw);go_simp;(try with_reducible rfl)
      (try simp only [pz])
      refine wpG_take 10 6 (v:=?_) rfl (by kernel_rfl) (fun _ _ _ h=>h) (Or.inl ⟨by rfl,?_⟩) (by assumption) ?_
      rotate_left
      · intro w hSw;(try dsimp only at hSw);go_simp;(try with_reducible rfl)
      (try simp only [pz])
      refine wpG_one (i:=7) (by kernel_rfl) ?_
      refine wpOp_step rfl (fun K hK=>?_)
      go_simp
      go_at_call 167
      (with_reducible refine (HC8.out _ hbd).mono ?_)
      intro e W3 hrg
      have hln0:LnPost r.measure (setL f r l cs) W2.drew e W3:=by rw [HSE.out];exact hrg
      have hln:LnPost r.measure (setL f r l cs) W2 e W3:=⟨hbd.trans (hln0.1.mono hbd.size),hln0.2⟩
      have n3:=HK8.out W3 hln.1
      obtain ⟨a',A',n',c',er,rfl⟩:=ln_shape hln
      have HR3:=Lib.hid (HS2.out.R.below hln.1 HS2.out.R.lt)
      have HFIN:=Lib.hid (sl_fin hln HS2.out.B HLT2.out)
      skip
      have r0:=HR3.out.cell 0
      have r1:=HR3.out.cell 1
      have z0:=Blk.frozen HR3.out 0
      have z1:=Blk.frozen HR3.out 1
      have rl:=HR3.out.lt
      (try dsimp only)
      refine hK _ _ ⟨n3,?_⟩
      clear hK K hS0 hbd hrg hln0 hln HS2 HT2 HTV HC8 HK8
      (try simp only [pz])
      refine wpG_take 10 8 (v:=?_) rfl (by kernel_rfl) (fun _ _ _ h=>h) (Or.inl ⟨by rfl,?_⟩) (by assumption) ?_
      rotate_left
      · intro w hSw;(try dsimp only at hSw);go_simp;(try with_reducible rfl)
      (try simp only [pz])
      refine wpG_take 10 9 (v:=?_) rfl (by kernel_rfl) (fun _ _ _ h=>h) (Or.inl ⟨by rfl,?_⟩) (by assumption) ?_
      rotate_left
      · intro w hSw;(try dsimp only at hSw);go_simp;(try with_reducible rfl)
      (try simp only [pz])
      refine ⟨by kernel_rfl,?_⟩
      simp only [List.drop_succ_cons,List.drop_zero]
      go_wp2_with fail
      refine bodyPost_ret (sl_res (HR3.out.two _ _) rfl _ rfl) rfl ?_
      exact HFIN.out)
  · have HSE:Hid (setL f r l cs=jusR (tskL f r l cs)):=(show _=_ from by rw [HSD.out,if_neg (fun h=>hgl h.2)])
    clear hen HSD
    go_upto_region 7 with fail
    all_goals
     (refine wp_region_quiet_below (by kernel_rfl) (by kernel_rfl) ?_
      repeat (first | go_big_quiet_step (exact HWR.out _ _ _) | quiet_step (exact HWR.out _ _ _))
      refine wpQuiet_nil ?_
      intro _ hw'
      obtain ⟨⟨dq,osq⟩,hw''⟩:=hw'
      subst hw''
      have b5:=below_regrown W1 dq osq
      have HS2:=Lib.hid (HS1.out.step b5)
      have HT2:=Lib.hid (HT1.out.below b5 HT1.out.lt)
      clear b5 HS1 HT1 HWR
      generalize grow (redrawn W1 dq) osq=W2 at *
      clear p3 p4 p7r pl s0 s1 s2 s3 s4 sl z0 z1 z2 z3 z4
      have HTV:Hid (TkV W2 (tskL f r l cs) (.slice Av f.sorts.length cv) (.slice Ac cs.length cc) (.slice none 0 0) (.slice A l.ps.length c)):=⟨HS2.out.P.S,HS2.out.C,IV.nil _,HS2.out.L⟩
      have HLT2:Hid (w.heap.size+1 < W2.heap.size):=HS2.out.R.lt
      have k0:=HT2.out.cell 0
      have k1:=HT2.out.cell 1
      have k2:=HT2.out.cell 2
      have k3:=HT2.out.cell 3
      have k4:=HT2.out.cell 4
      have k5:=HT2.out.cell 5
      have k6:=HT2.out.cell 6
      have kl:=HT2.out.lt
      go_wp2_with fail
      refine (justify_any (tskL f r l cs) _ _ _ _ W2 HTV.out hn (by have:=HFEW.out;show f.sorts.length≤_;omega)).mono ?_
      intro e W3 hju
      have hln:LnPost r.measure (setL f r l cs) W2 e W3:=by rw [HSE.out];exact ju_ln hju
      obtain ⟨a',A',n',c',er,rfl⟩:=ln_shape hln
      have HR3:=Lib.hid (HS2.out.R.below hln.1 HS2.out.R.lt)
      have HFIN:=Lib.hid (sl_fin hln HS2.out.B HLT2.out)
      clear hju hln HS2 HT2 HTV k0 k1 k2 k3 k4 k5 k6 kl
      have r0:=HR3.out.cell 0
      have r1:=HR3.out.cell 1
      have z0:=Blk.frozen HR3.out 0
      have z1:=Blk.frozen HR3.out 1
      have rl:=HR3.out.lt
      go_wp2_with fail
      refine bodyPost_ret (sl_res (HR3.out.two _ _) rfl _ rfl) rfl ?_
      exact HFIN.out)
end Go.Proofs.YtbnganlfelgogaaGreat
