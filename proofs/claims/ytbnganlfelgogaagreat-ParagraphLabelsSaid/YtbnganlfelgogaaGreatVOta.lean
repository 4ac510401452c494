/- open: a task with its fill. -/
import Derived.Test.YtbnganlfelgogaaGreatVOts
set_option linter.unusedSimpArgs false
set_option linter.unusedVariables false
set_option maxRecDepth 100000
set_option maxHeartbeats 40000000
namespace Go.Proofs.YtbnganlfelgogaaGreat
open Go.RowKit
@[reducible,go_sem] def z118:Array Value:=#[.string ⟨#[]⟩,.int .i64 0,.slice none 0 0,.slice none 0 0,.string ⟨#[]⟩,.int .i64 0,.slice none 0 0,.slice none 0 0,.slice none 0 0,.slice none 0 0,.int .i64 0,.int .i64 0,.int .i64 0,.slice none 0 0]
def ownL (t:Tsk):List Int:=(t.ind :: t.words).flatten
def fillT (t:Tsk):Int:=t.me-widL t.f (ownL t)
def opnE (t:Tsk):Int:=if tkErr t≠0 then tkErr t else if takR t.cs (ownL t)=none then 20 else if fillT t < 0 then 26 else if 20000 < fillT t then 8 else 0
def OtPost (t:Tsk) (v vc vi vw:Value) (w:World) (e:Ending) (w':World):Prop:=Below w.heap.size w w'∧
 ((opnE t≠0∧e=.returned (.tuple #[.agg z118,.int .i64 (opnE t)]))∨
   (opnE t=0∧∃ vs vl lf,takR t.cs (ownL t)=some lf∧e=.returned (.tuple #[.agg (tks t v vs vc vi vw (fillT t) ((t.words.length-1:Nat):Int) vl),.int .i64 0])∧IV w' (spl t.f.sorts t.f.sorts.length) vs∧IV w' lf vl))
theorem Blk.all14 {W:World} {g:Nat} {t:TypeId} {c0 c1 c2 c3 c4 c5 c6 c7 c8 c9 c10 c11 c12 c13:Value} (h:Blk W g t #[c0,c1,c2,c3,c4,c5,c6,c7,c8,c9,c10,c11,c12,c13]) (d0 d1 d2 d3 d4 d5 d6 d7 d8 d9 d10 d11 d12 d13:Value) :
 Blk ((((((((((((((W.setCell ⟨g,0,none⟩ d0).setCell ⟨g,1,none⟩ d1).setCell ⟨g,2,none⟩ d2).setCell ⟨g,3,none⟩ d3).setCell ⟨g,4,none⟩ d4).setCell ⟨g,5,none⟩ d5).setCell ⟨g,6,none⟩ d6).setCell ⟨g,7,none⟩ d7).setCell ⟨g,8,none⟩ d8).setCell ⟨g,9,none⟩ d9).setCell ⟨g,10,none⟩ d10).setCell ⟨g,11,none⟩ d11).setCell ⟨g,12,none⟩ d12).setCell ⟨g,13,none⟩ d13) g t #[d0,d1,d2,d3,d4,d5,d6,d7,d8,d9,d10,d11,d12,d13]:=by
 have:=((((((((((((((h.set_ 0 d0).set_ 1 d1).set_ 2 d2).set_ 3 d3).set_ 4 d4).set_ 5 d5).set_ 6 d6).set_ 7 d7).set_ 8 d8).set_ 9 d9).set_ 10 d10).set_ 11 d11).set_ 12 d12).set_ 13 d13)
 simpa only [List.setIfInBounds_toArray,List.set_cons_zero,List.set_cons_succ] using this
theorem below_all14 {B:Nat} {W0 W:World} {g:Nat} (h:Below B W0 W) (hg:B≤g) (d0 d1 d2 d3 d4 d5 d6 d7 d8 d9 d10 d11 d12 d13:Value) :
 Below B W0 ((((((((((((((W.setCell ⟨g,0,none⟩ d0).setCell ⟨g,1,none⟩ d1).setCell ⟨g,2,none⟩ d2).setCell ⟨g,3,none⟩ d3).setCell ⟨g,4,none⟩ d4).setCell ⟨g,5,none⟩ d5).setCell ⟨g,6,none⟩ d6).setCell ⟨g,7,none⟩ d7).setCell ⟨g,8,none⟩ d8).setCell ⟨g,9,none⟩ d9).setCell ⟨g,10,none⟩ d10).setCell ⟨g,11,none⟩ d11).setCell ⟨g,12,none⟩ d12).setCell ⟨g,13,none⟩ d13):=((((((((((((((h.setCell (p:=⟨g,0,none⟩) hg d0).setCell (p:=⟨g,1,none⟩) hg d1).setCell (p:=⟨g,2,none⟩) hg d2).setCell (p:=⟨g,3,none⟩) hg d3).setCell (p:=⟨g,4,none⟩) hg d4).setCell (p:=⟨g,5,none⟩) hg d5).setCell (p:=⟨g,6,none⟩) hg d6).setCell (p:=⟨g,7,none⟩) hg d7).setCell (p:=⟨g,8,none⟩) hg d8).setCell (p:=⟨g,9,none⟩) hg d9).setCell (p:=⟨g,10,none⟩) hg d10).setCell (p:=⟨g,11,none⟩) hg d11).setCell (p:=⟨g,12,none⟩) hg d12).setCell (p:=⟨g,13,none⟩) hg d13)
theorem grown_all14 (W:World) (g:Nat) (d0 d1 d2 d3 d4 d5 d6 d7 d8 d9 d10 d11 d12 d13:Value):W.grownBy ((((((((((((((W.setCell ⟨g,0,none⟩ d0).setCell ⟨g,1,none⟩ d1).setCell ⟨g,2,none⟩ d2).setCell ⟨g,3,none⟩ d3).setCell ⟨g,4,none⟩ d4).setCell ⟨g,5,none⟩ d5).setCell ⟨g,6,none⟩ d6).setCell ⟨g,7,none⟩ d7).setCell ⟨g,8,none⟩ d8).setCell ⟨g,9,none⟩ d9).setCell ⟨g,10,none⟩ d10).setCell ⟨g,11,none⟩ d11).setCell ⟨g,12,none⟩ d12).setCell ⟨g,13,none⟩ d13) (some g):=(grown_trans (grown_trans (grown_trans (grown_trans (grown_trans (grown_trans (grown_trans (grown_trans (grown_trans (grown_trans (grown_trans (grown_trans (grown_trans (grown_setCell _ _ _ _) (grown_setCell _ _ _ _)) (grown_setCell _ _ _ _)) (grown_setCell _ _ _ _)) (grown_setCell _ _ _ _)) (grown_setCell _ _ _ _)) (grown_setCell _ _ _ _)) (grown_setCell _ _ _ _)) (grown_setCell _ _ _ _)) (grown_setCell _ _ _ _)) (grown_setCell _ _ _ _)) (grown_setCell _ _ _ _)) (grown_setCell _ _ _ _)) (grown_setCell _ _ _ _))
theorem RV.keptB {W W':World} {v:Value} {n sz g:Nat} {h:Nat→Value} (hr:RV W v n sz h) (hg:W.grownBy W' (some g)) (hne:∀ k,v.ownBlock=some k→k≠g):RV W' v n sz h:=by
 obtain ⟨A,b,off,c,rfl,h1,h2,h3⟩:=hr
 refine ⟨A,b,off,c,rfl,h1.mono hg.size,fun j hj=>?_,h3⟩
 rcases Nat.eq_zero_or_pos n with e | e
 · subst e;omega
 · obtain ⟨rfl,hb⟩:=h1 e
   exact (World.cell?_of_block (a:=⟨b,off+j,none⟩) (hg.block b hb (fun e=>hne b rfl (by injection e)))).trans (h2 j hj)
theorem ot_iv {W:World} {B g:Nat} {zs:List Int} {v:Value} {x:Array Value} (h:IO W B zs v) (hg:∀ k,v.ownBlock=some k→k≠g):IV (W.setRow g x) zs v:=(h.keptG (grown_row W g x) (by
 cases hv:v.ownBlock with
 | none=>exact .inl rfl
 | some k=>exact .inr (fun e=>hg k hv (by injection e)))).iv
theorem tks_one (t:Tsk) (A1 A2 A3 A4 A5 A6:Option Addr) (n1 c1 n2 c2 n3 c3 n4 c4 n5 c5 n6 c6:Nat) (a b:Int):(tks t (.slice A1 n1 c1) (.slice A2 n2 c2) (.slice A3 n3 c3) (.slice A4 n4 c4) (.slice A5 n5 c5) a b (.slice A6 n6 c6)).all (·.oneCell')=true:=by simp [Value.oneCell']
theorem own_one (W:World) (t:TypeId) (v:Value):(W.alloc (.cells #[v] t)).ownsRow W.heap.size t 1 (.slice (some ⟨W.heap.size,0,none⟩) 1 1) 1 [v]:=
 ⟨rfl,.inr ⟨W.heap.size,1,#[v],rfl,Nat.le_refl _,Blk.new W t #[v],Nat.le_refl _,by simp only [maxLen];omega,rfl,rfl⟩⟩
theorem inF_iff {f:Fnt} {l:List Int}:InF f l↔∀ x,x ∈ l→0≤x∧x < (f.sorts.length:Int):=by
 constructor
 · intro h x hx
   obtain ⟨j,hj,e⟩:=List.getElem_of_mem hx
   have:=h j hj
   unfold gz at this
   rw [List.getD_eq_getElem?_getD,List.getElem?_eq_getElem hj,Option.getD_some,e] at this
   exact this
 · intro h j hj
   refine h _ ?_
   unfold gz
   rw [List.getD_eq_getElem?_getD,List.getElem?_eq_getElem hj,Option.getD_some]
   exact List.getElem_mem hj
theorem own_in {t:Tsk} (h:TkOk t):InF t.f (ownL t)∧(ownL t).length≤200:=by
 constructor
 · rw [inF_iff]
   intro x hx
   unfold ownL at hx
   rw [List.flatten_cons,List.mem_append] at hx
   rcases hx with hx | hx
   · exact inF_iff.1 h.iIn x hx
   · obtain ⟨l,hl,hx⟩:=List.mem_flatten.1 hx
     obtain ⟨k,hk,e⟩:=List.getElem_of_mem hl
     have h1:=(h.wd k hk).2.2.1
     have e2:gl t.words k=l:=by
      unfold gl
      rw [List.getD_eq_getElem?_getD,List.getElem?_eq_getElem hk,Option.getD_some,e]
     rw [e2] at h1
     exact inF_iff.1 h1 x hx
 · have:=h.all
   unfold sumL at this
   rw [List.take_length] at this
   unfold ownL
   rw [List.flatten_cons,List.length_append]
   exact this
theorem ot_res {W:World} {bR:Nat} {cs:Array Value} (hg:Blk W bR 263 cs) (hs:cs.size=14) (tmps:Array Value) (hp:tmps.getD 2 undef=.pointer (some ⟨bR,0,none⟩)) :
 (results Tryz.f192 tmps).run Tryz.prog W=.ok (.tuple #[.agg cs,tmps.getD 3 undef]) W:=by
 have h:Tryz.f192.results=#[.cell 2 263,.tmp 3]:=rfl
 have hi:(Tryz.prog.info? 263).map (·.size)=some cs.size:=by rw [hs];kernel_rfl
 have hp':tmps[2]?.getD undef=.pointer (some ⟨bR,0,none⟩):=by simpa using hp
 simp only [results,h]
 simp [Sem.run_bind,Result.andThen,hp',asAddr,run_loadVar_row W bR 263 263 cs (0,0) _ hg Tryz.underlying263 rfl hi]
theorem open55_any (t:Tsk) (v vc vi vw:Value) (w:World) (h:TkV w t v vc vi vw) (hn:t.f.name.size≤9223372036854775807) (hm:t.f.sorts.length≤100000) :
 Calls Tryz.prog 192 #[.agg (xts t v vc vi vw)] w (OtPost t v vc vi vw w):=by
 have hb0:=below_new w (.cells (xts t v vc vi vw) 124)
 have hb1:=below_new (w.alloc (.cells (xts t v vc vi vw) 124)) (.cells z118 263)
 have hK:=Blk.new w 124 (xts t v vc vi vw)
 have hR:=Blk.new (w.alloc (.cells (xts t v vc vi vw) 124)) 263 z118
 rw [World.size_alloc] at hR
 have hT:=(h.below hb0).below hb1
 have hK2:=hK.below hb1 hK.lt
 have hB:=hb0.trans (hb1.mono hb0.size)
 have HC:=Lib.hid (checkTask_any t v vc vi vw _ hT hn hm)
 obtain ⟨Av,cv,rfl⟩:=h.s.shape
 obtain ⟨Ac,_,_,cc,rfl,-⟩:=h.c.open
 obtain ⟨Ai,_,_,ci,rfl,-⟩:=h.i.open
 obtain ⟨Aw,cw,rfl,-,-⟩:=h.w.shape
 have c0:=hK2.cell 0
 have c1:=hK2.cell 1
 have c2:=hK2.cell 2
 have c3:=hK2.cell 3
 have c4:=hK2.cell 4
 have c5:=hK2.cell 5
 have c6:=hK2.cell 6
 have HB:=Lib.hid hB
 have HT:=Lib.hid hT
 have HK:=Lib.hid hK2
 have HR:=Lib.hid hR
 have HERR:Hid (∀ W x,x=opnE t→opnE t≠0→Below w.heap.size w W→OtPost t (.slice Av t.f.sorts.length cv) (.slice Ac t.cs.length cc) (.slice Ai t.ind.length ci) (.slice Aw t.words.length cw) w (.returned (.tuple #[.agg z118,.int .i64 x])) W):=(show ∀ W x,_ from fun W x e h0 h=>by subst e;exact ⟨h,.inl ⟨h0,rfl⟩⟩)
 have HE0:Hid (opnE t=if tkErr t≠0 then tkErr t else if takR t.cs (ownL t)=none then 20 else if fillT t < 0 then 26 else if 20000 < fillT t then 8 else 0):=rfl
 have hi118:(Tryz.prog.info? 263).map (·.size)=some 14:=by kernel_rfl
 clear hb0 hb1 hK h hT hK2 hR hB
 go_enter Tryz.func192,Tryz.ntmps192
 go_wp2_with fail
 refine HC.out.mono ?_
 generalize (w.alloc (.cells (xts t (.slice Av t.f.sorts.length cv) (.slice Ac t.cs.length cc) (.slice Ai t.ind.length ci) (.slice Aw t.words.length cw)) 124)).alloc (.cells z118 263)=W0 at *
 rintro e W1 ⟨rfl,hb1⟩
 have HB1:=Lib.hid (HB.out.trans (hb1.mono HB.out.size))
 have HT1:=Lib.hid (HT.out.below hb1)
 have HK1:=Lib.hid (HK.out.below hb1 HK.out.lt)
 have HR1:=Lib.hid (HR.out.below hb1 HR.out.lt)
 clear hb1 c0 c1 c2 c3 c4 c5 c6 HB HT HK HR HC
 by_cases hq:tkErr t=0
 · have HOK:=Lib.hid (tk_ok hq)
   have hbn:=bne_f hq
   have HE1:=Lib.hid (HE0.out.trans (if_neg (fun h=>h hq)))
   rw [hq] at hbn ⊢
   clear hq HE0
   have HKS:Hid (∀ W,Below W1.heap.size W1 W→(W.cell? ⟨w.heap.size,0,none⟩=some (.string t.f.name)∧W.cell? ⟨w.heap.size,1,none⟩=some (.int .i64 t.f.body)∧W.cell? ⟨w.heap.size,2,none⟩=some (.slice Av t.f.sorts.length cv)∧W.cell? ⟨w.heap.size,3,none⟩=some (.slice Ac t.cs.length cc)∧W.cell? ⟨w.heap.size,4,none⟩=some (.slice Ai t.ind.length ci)∧W.cell? ⟨w.heap.size,5,none⟩=some (.slice Aw t.words.length cw)∧W.cell? ⟨w.heap.size,6,none⟩=some (.int .i64 t.me))):=(show ∀ W,_ from fun W hW=>by
    have h:=HK1.out.below hW HK1.out.lt
    exact ⟨h.cell 0,h.cell 1,h.cell 2,h.cell 3,h.cell 4,h.cell 5,h.cell 6⟩)
   have HCF:Hid (∀ W,Below W1.heap.size W1 W→Calls Tryz.prog 124 #[.agg (fcs t.f (.slice Av t.f.sorts.length cv))] W (FcPost t.f (.slice Av t.f.sorts.length cv) W)):=(show ∀ W,_ from fun W hW=>faceOf_any t.f _ W (HT1.out.s.below hW) hm)
   have hwl:t.words.length≤30:=HOK.out.w30
   go_upto_region 4 with fail
   have hbd:Below W1.heap.size W1 W1.drew:=(Below.refl _ _).drew
   have hS0:=HKS.out _ hbd
   go_cut [5] (fun s5 wx=>∃ (b5:Nat) (As:Option Addr) (cs':Nat),s5=.pointer (some ⟨b5,0,none⟩)∧W1.heap.size≤b5∧Hid (Below W1.heap.size W1 wx)∧Hid (Blk wx b5 263 (tks t (.slice Av t.f.sorts.length cv) (.slice As (spl t.f.sorts t.f.sorts.length).length cs') (.slice Ac t.cs.length cc) (.slice Ai t.ind.length ci) (.slice Aw t.words.length cw) 0 (max 0 (IntKind.i64.wrap ((t.words.length:Int)-1))) (.slice none 0 0)))∧Hid (IV wx (spl t.f.sorts t.f.sorts.length) (.slice As (spl t.f.sorts t.f.sorts.length).length cs'))∧Hid (∀ k,(Value.slice As (spl t.f.sorts t.f.sorts.length).length cs').ownBlock=some k→k≠b5∧W1.heap.size≤k))
   case first=>
    refine wp_region_split (fun W=>(W.cell? ⟨w.heap.size,0,none⟩=some (.string t.f.name)∧W.cell? ⟨w.heap.size,1,none⟩=some (.int .i64 t.f.body)∧W.cell? ⟨w.heap.size,2,none⟩=some (.slice Av t.f.sorts.length cv)∧W.cell? ⟨w.heap.size,3,none⟩=some (.slice Ac t.cs.length cc)∧W.cell? ⟨w.heap.size,4,none⟩=some (.slice Ai t.ind.length ci)∧W.cell? ⟨w.heap.size,5,none⟩=some (.slice Aw t.words.length cw)∧W.cell? ⟨w.heap.size,6,none⟩=some (.int .i64 t.me))) 11 (by kernel_rfl) (by decide) ?_
    refine wpG_take 11 0 (v:=?_) rfl (by kernel_rfl) (fun _ _ _ h=>h) (Or.inl ⟨by rfl,?_⟩) (by assumption) ?_
    rotate_left
    · intro w hSw;(try dsimp only at hSw);go_simp;(try with_reducible rfl)
    (try simp only [pz])
    refine wpG_take 11 1 (v:=?_) rfl (by kernel_rfl) (fun _ _ _ h=>h) (Or.inl ⟨by rfl,?_⟩) (by assumption) ?_
    rotate_left
    · intro w hSw;(try dsimp only at hSw);go_simp;(try with_reducible rfl)
    (try simp only [pz])
    refine wpG_take 11 3 (v:=?_) rfl (by kernel_rfl) (fun _ _ _ h=>h) (Or.inl ⟨by rfl,?_⟩) (by assumption) ?_
    rotate_left
    · intro w hSw;(try dsimp only at hSw);go_simp;(try with_reducible rfl)
    (try simp only [pz])
    refine wpG_take 11 4 (v:=?_) rfl (by kernel_rfl) (fun _ _ _ h=>h) (Or.inl ⟨by rfl,?_⟩) (by assumption) ?_
    rotate_left
    · intro w hSw;(try dsimp only at hSw);go_simp;(try with_reducible rfl)
    (try simp only [pz])
    refine wpG_take 11 5 (v:=?_) rfl (by kernel_rfl) (fun _ _ _ h=>h) (Or.inl ⟨by rfl,?_⟩) (by assumption) ?_
    rotate_left
    · intro w hSw;(try dsimp only at hSw);go_simp;(try with_reducible rfl)
    (try simp only [pz])
    refine wpG_take 11 6 (v:=?_) rfl (by kernel_rfl) (fun _ _ _ h=>h) (Or.inl ⟨by rfl,?_⟩) (by assumption) ?_
    rotate_left
    · intro w hSw;(try dsimp only at hSw);go_simp;(try with_reducible rfl)
    (try simp only [pz])
    refine wpG_take 11 7 (v:=?_) rfl (by kernel_rfl) (fun _ _ _ h=>h) (Or.inl ⟨by rfl,?_⟩) (by assumption) ?_
    rotate_left
    · intro w hSw;(try dsimp only at hSw);go_simp;(try with_reducible rfl)
    (try simp only [pz])
    refine wpG_take 11 8 (v:=?_) rfl (by kernel_rfl) (fun _ _ _ h=>h) (Or.inl ⟨by rfl,?_⟩) (by assumption) ?_
    rotate_left
    · intro w hSw;(try dsimp only at hSw);go_simp;(try with_reducible rfl)
    (try simp only [pz])
    refine wpG_two (i:=2) (k:=10) (by kernel_rfl) ?_ ?_
    · refine wpOp_step rfl (fun K hK=>?_)
      go_simp
      go_at_call 124
      (with_reducible refine (HCF.out _ hbd).mono ?_)
      rintro e w4 ⟨vs,rfl,hio4,hb4'⟩
      have hb4:Below W1.heap.size W1 w4:=hbd.trans (hb4'.mono hbd.size)
      obtain ⟨As,cs',rfl⟩:=hio4.shape
      have n4:=HKS.out w4 hb4
      (try dsimp only)
      refine hK _ _ ⟨n4,?_⟩
      clear hK K
      (try simp only [pz])
      refine wpG_take 11 9 (v:=?_) rfl (by kernel_rfl) (fun _ _ _ h=>h) (Or.inl ⟨by rfl,?_⟩) (by assumption) ?_
      rotate_left
      · intro w hSw;(try dsimp only at hSw);go_simp;(try with_reducible rfl)
      (try simp only [pz])
      refine wpG_one (i:=10) (by kernel_rfl) ?_
      refine wpOp_step rfl (fun K hK=>?_)
      go_simp
      have n5:=HKS.out _ (hb4.alloc hb4.size (.cells z118 263))
      have hblk:=Blk.new w4 263 z118
      have hbel:=hb4.alloc hb4.size (.cells z118 263)
      have hiv:=hio4.below (below_new w4 (.cells z118 263))
      have hle:=hb4.size
      have hne:W1.drew.heap.size≤w4.heap.size:=hle
      refine hK _ _ ⟨n5,?_⟩
      clear hK K
      (try simp only [pz])
      refine ⟨by kernel_rfl,?_⟩
      simp only [List.drop_succ_cons,List.drop_zero]
      refine wpList_store_row rfl 263 _ _ rfl (w4.heap.size) (tks t (.slice Av t.f.sorts.length cv) (.slice As (spl t.f.sorts t.f.sorts.length).length cs') (.slice Ac t.cs.length cc) (.slice Ai t.ind.length ci) (.slice Aw t.words.length cw) 0 (max 0 (IntKind.i64.wrap ((t.words.length:Int)-1))) (.slice none 0 0)) (by rfl) (by rfl) 263 z118 hblk hi118 rfl (tks_one _ _ _ _ _ _ _ _ _ _ _ _ _ _ _ _ _ _ _ _ _) ?_
      have hcb:=Blk.row hblk (tks t (.slice Av t.f.sorts.length cv) (.slice As (spl t.f.sorts t.f.sorts.length).length cs') (.slice Ac t.cs.length cc) (.slice Ai t.ind.length ci) (.slice Aw t.words.length cw) 0 (max 0 (IntKind.i64.wrap ((t.words.length:Int)-1))) (.slice none 0 0))
      have hcw:=Below.row (g:=w4.heap.size) hbel (hle) (tks t (.slice Av t.f.sorts.length cv) (.slice As (spl t.f.sorts t.f.sorts.length).length cs') (.slice Ac t.cs.length cc) (.slice Ai t.ind.length ci) (.slice Aw t.words.length cw) 0 (max 0 (IntKind.i64.wrap ((t.words.length:Int)-1))) (.slice none 0 0))
      have hci:=ot_iv (g:=w4.heap.size) (x:=tks t (.slice Av t.f.sorts.length cv) (.slice As (spl t.f.sorts t.f.sorts.length).length cs') (.slice Ac t.cs.length cc) (.slice Ai t.ind.length ci) (.slice Aw t.words.length cw) 0 (max 0 (IntKind.i64.wrap ((t.words.length:Int)-1))) (.slice none 0 0)) hiv (fun k hk=>by have:=(World.ownsRow.lt hio4 k hk).2;omega)
      have HCN:Hid (∀ k,(Value.slice As (spl t.f.sorts t.f.sorts.length).length cs').ownBlock=some k→k≠w4.heap.size∧W1.heap.size≤k):=(show ∀ k,_ from fun k hk=>by have hlo:=(World.ownsRow.lt hio4 k hk).1;have hdz:W1.drew.heap.size=W1.heap.size:=rfl;rw [hdz] at hlo;have:=(World.ownsRow.lt hio4 k hk).2;omega)
      have HCB:=Lib.hid hcb
      have HCW:=Lib.hid hcw
      have HCI:=Lib.hid hci
      clear hcb hcw hci
      go_wp2_with fail
      go_meet
      exact ⟨w4.heap.size,As,cs',rfl,hle,HCW.out,HCB.out,HCI.out,HCN.out⟩
    · refine wpOp_step rfl (fun K hK=>?_)
      go_simp
      have hbn1:Below W1.heap.size W1 (W1.alloc (.cells z118 263)).drew:=(below_new W1 _).drew
      have n3:=HKS.out _ hbn1
      have hblk3:Blk (W1.alloc (.cells z118 263)).drew W1.heap.size 263 z118:=Blk.new W1 263 z118
      have hsz3:(W1.alloc (.cells z118 263)).drew.heap.size=W1.heap.size+1:=by simp
      refine hK _ _ ⟨n3,?_⟩
      clear hK K
      (try simp only [pz])
      refine wpG_one (i:=2) (by kernel_rfl) ?_
      refine wpOp_step rfl (fun K hK=>?_)
      go_simp
      go_at_call 124
      (with_reducible refine (HCF.out _ hbn1).mono ?_)
      rintro e w4 ⟨vs,rfl,hio4,hb4'⟩
      have hb4:Below W1.heap.size W1 w4:=hbn1.trans (hb4'.mono hbn1.size)
      obtain ⟨As,cs',rfl⟩:=hio4.shape
      have n4:=HKS.out w4 hb4
      have hblk:=hblk3.below hb4' hblk3.lt
      (try dsimp only)
      refine hK _ _ ⟨n4,?_⟩
      clear hK K
      (try simp only [pz])
      refine wpG_take 11 9 (v:=?_) rfl (by kernel_rfl) (fun _ _ _ h=>h) (Or.inl ⟨by rfl,?_⟩) (by assumption) ?_
      rotate_left
      · intro w hSw;(try dsimp only at hSw);go_simp;(try with_reducible rfl)
      (try simp only [pz])
      refine ⟨by kernel_rfl,?_⟩
      simp only [List.drop_succ_cons,List.drop_zero]
      refine wpList_store_row rfl 263 _ _ rfl (W1.heap.size) (tks t (.slice Av t.f.sorts.length cv) (.slice As (spl t.f.sorts t.f.sorts.length).length cs') (.slice Ac t.cs.length cc) (.slice Ai t.ind.length ci) (.slice Aw t.words.length cw) 0 (max 0 (IntKind.i64.wrap ((t.words.length:Int)-1))) (.slice none 0 0)) (by rfl) (by rfl) 263 z118 hblk hi118 rfl (tks_one _ _ _ _ _ _ _ _ _ _ _ _ _ _ _ _ _ _ _ _ _) ?_
      have hcb:=Blk.row hblk (tks t (.slice Av t.f.sorts.length cv) (.slice As (spl t.f.sorts t.f.sorts.length).length cs') (.slice Ac t.cs.length cc) (.slice Ai t.ind.length ci) (.slice Aw t.words.length cw) 0 (max 0 (IntKind.i64.wrap ((t.words.length:Int)-1))) (.slice none 0 0))
      have hcw:=Below.row (g:=W1.heap.size) hb4 (Nat.le_refl _) (tks t (.slice Av t.f.sorts.length cv) (.slice As (spl t.f.sorts t.f.sorts.length).length cs') (.slice Ac t.cs.length cc) (.slice Ai t.ind.length ci) (.slice Aw t.words.length cw) 0 (max 0 (IntKind.i64.wrap ((t.words.length:Int)-1))) (.slice none 0 0))
      have hci:=ot_iv (g:=W1.heap.size) (x:=tks t (.slice Av t.f.sorts.length cv) (.slice As (spl t.f.sorts t.f.sorts.length).length cs') (.slice Ac t.cs.length cc) (.slice Ai t.ind.length ci) (.slice Aw t.words.length cw) 0 (max 0 (IntKind.i64.wrap ((t.words.length:Int)-1))) (.slice none 0 0)) hio4 (fun k hk=>by have:=(World.ownsRow.lt hio4 k hk).1;rw [hsz3] at this;omega)
      have HCN:Hid (∀ k,(Value.slice As (spl t.f.sorts t.f.sorts.length).length cs').ownBlock=some k→k≠W1.heap.size∧W1.heap.size≤k):=(show ∀ k,_ from fun k hk=>by have hlo:=(World.ownsRow.lt hio4 k hk).1;rw [hsz3] at hlo;have:=(World.ownsRow.lt hio4 k hk).1;rw [hsz3] at this;omega)
      have HCB:=Lib.hid hcb
      have HCW:=Lib.hid hcw
      have HCI:=Lib.hid hci
      clear hcb hcw hci
      go_wp2_with fail
      go_meet
      exact ⟨W1.heap.size,As,cs',rfl,Nat.le_refl _,HCW.out,HCB.out,HCI.out,HCN.out⟩
   case rest=>
    obtain ⟨b5,As,cs',rfl,hle5,HB5,HK5,HI5,HN5⟩:=hcut
    have HBc:=Lib.hid (HB1.out.trans (HB5.out.mono HB1.out.size))
    have HTc:=Lib.hid (HT1.out.below HB5.out)
    have HKc:=Lib.hid (HK1.out.below HB5.out HK1.out.lt)
    have HRc:=Lib.hid (HR1.out.below HB5.out HR1.out.lt)
    have HR1L:Hid (w.heap.size+1 < W1.heap.size):=HR1.out.lt
    clear hS0 hbd HKS HCF HB1 HT1 HK1 HR1 HB5
    have c2:=HKc.out.cell 4
    have c3:=HKc.out.cell 5
    have cl:=HKc.out.lt
    obtain ⟨hs,⟨Aw',bw,ow,cw',he,hAw,hzw,-,-⟩,hIw⟩:=HTc.out.w
    injection he with e1 e2 e3
    subst e1
    clear e2 e3
    have hbn:=below_new wc (.cells #[.slice Ai t.ind.length ci] 34)
    have hown:(wc.alloc (.cells #[.slice Ai t.ind.length ci] 34)).ownsRow wc.heap.size 34 1 (.slice (some ⟨wc.heap.size,0,none⟩) 1 1) 1 [.slice Ai t.ind.length ci]:=own_one wc 34 _
    have hnews:∀ j,j < t.words.length*1→(wc.alloc (.cells #[.slice Ai t.ind.length ci] 34)).cell? ⟨bw,ow+j,none⟩=((List.range t.words.length).map hs)[j]?:=fun j hj=>by
     have hj2:j < t.words.length:=by omega
     obtain ⟨-,hbl⟩:=hAw (by omega)
     rw [List.getElem?_map,List.getElem?_range hj2]
     exact (hbn.cell (p:=⟨bw,ow+j,none⟩) hbl).trans (hzw j hj)
    have hone:∀ u ∈ (List.range t.words.length).map hs,u.oneCell'=true:=fun u hu=>by
     obtain ⟨j,hj,rfl⟩:=List.mem_map.1 hu
     obtain ⟨A',_,_,c',e,-⟩:=(hIw j (List.mem_range.1 hj)).open
     rw [e];rfl
    have hAw2:=hAw.mono hbn.size
    have hlen:((List.range t.words.length).map hs).length=t.words.length*1:=by simp
    obtain ⟨i30,hi30,hz30,hy30,hx30⟩:=info_parts info30
    have HIW:Hid (∀ W,Below wc.heap.size wc W→∀ v,W.ownsRow wc.heap.size 34 1 v (1+t.words.length) ([.slice Ai t.ind.length ci]++(List.range t.words.length).map hs)→LV W (t.ind :: t.words) v):=(show ∀ W,_ from fun W hb v h=>LV.cons (HTc.out.i.below hb) (fun i hi=>(hIw i hi).below hb) h (by omega))
    have HNEW:=Lib.hid hnews
    have HONE:=Lib.hid hone
    have HLEN:=Lib.hid hlen
    have HOWN:=Lib.hid hown
    have HAW:=Lib.hid hAw2
    have hbs:wc.heap.size≤(wc.alloc (.cells #[.slice Ai t.ind.length ci] 34)).heap.size:=hbn.size
    have HBN:=Lib.hid hbn
    clear hnews hone hlen hown hAw hAw2 hIw hzw hbn
    go_wp2_with ((at_builtin
                  refine wpList_app rfl _ _ 86 rfl wc.heap.size 34 i30 _ 1 24 Tryz.underlying86 hi30 hz30 hy30 hx30 rfl (by omega) _ 1 _ (by rfl) HOWN.out Aw bw ow t.words.length cw _ (by rfl) HLEN.out HAW.out HNEW.out HONE.out (by simp only [maxLen];omega) (by omega) hbs ?_
                  intro v6 w6 hown6 hg6 hat6
                  have HB6:Hid (Below wc.heap.size wc w6):=(show Below _ _ _ from HBN.out.grown hg6 hbs (fun t ht=>(HOWN.out.lt t ht).1))
                  have HLV:=Lib.hid (HIW.out w6 HB6.out v6 hown6)
                  clear hown6 hg6 hat6))
    have HOI:=Lib.hid (own_in HOK.out)
    have HC6:=Lib.hid (concat_any (t.ind :: t.words) v6 w6 HLV.out (by simp;omega) (by have:=HOI.out.2;unfold ownL at this;omega))
    refine HC6.out.mono ?_
    rintro e w7 ⟨v7,rfl,hio7,hb7'⟩
    have HB7:=Lib.hid (HB6.out.trans (hb7'.mono HB6.out.size))
    have hio7':IO w7 w6.heap.size (ownL t) v7:=hio7
    have HO7:=Lib.hid hio7'
    obtain ⟨Ao,co,rfl⟩:=hio7'.shape
    have HK7:=Lib.hid (HKc.out.below HB7.out HKc.out.lt)
    have HT7:=Lib.hid (HTc.out.below HB7.out)
    clear hio7 hio7' hb7' HC6 HLV HIW HNEW HONE HLEN HOWN HAW HBN c2 c3 cl
    have c3:=HK7.out.cell 3
    have cl:=HK7.out.lt
    have hcall:=take_any t.cs (ownL t) _ _ w7 HT7.out.c HO7.out.iv (fun j hj=>by rw [HOK.out.c.1];exact HOI.out.1 j hj) (by rw [HOK.out.c.1];exact HOK.out.c) (by have:=(fnErr_few HOK.out.f).2;rw [HOK.out.c.1];omega) (by have:=HOI.out.2;omega)
    have HC7:=Lib.hid hcall
    clear hcall
    go_wp2_with fail
    refine HC7.out.mono ?_
    rintro e w8 ⟨hb8,hans⟩
    have HB8:=Lib.hid (HB7.out.trans (hb8.mono HB7.out.size))
    have HK8:=Lib.hid (HKc.out.below HB8.out HKc.out.lt)
    have HT8:=Lib.hid (HTc.out.below HB8.out)
    have HO8:=Lib.hid (HO7.out.below hb8)
    have HX8:=Lib.hid (HK5.out.below HB8.out HK5.out.lt)
    have HI8:=Lib.hid (HI5.out.below HB8.out)
    have HR8:=Lib.hid (HRc.out.below HB8.out HRc.out.lt)
    have HBW8:=Lib.hid (HBc.out.trans (HB8.out.mono HBc.out.size))
    obtain ⟨Al,nl,cz,ok,rfl,HOKB,HLV⟩:∃ Al nl cz ok,e=.returned (.tuple #[.slice Al nl cz,.bool ok])∧Hid (ok=false↔takR t.cs (ownL t)=none)∧Hid (∀ lf,takR t.cs (ownL t)=some lf→IV w8 lf (.slice Al nl cz)∧∀ k,(Value.slice Al nl cz).ownBlock=some k→b5 < k):=by
     rcases hans with ⟨h1,h2⟩ | ⟨out,v,h1,h2,h3,h4⟩
     · exact ⟨none,0,0,false,h2,(show _↔_ from Iff.intro (fun _=>h1) (fun _=>rfl)),(show ∀ lf,takR t.cs (ownL t)=some lf→_ from fun lf h=>by rw [h1] at h;cases h)⟩
     · obtain ⟨Al,cl,rfl⟩:=h4.shape
       refine ⟨Al,out.length,cl,true,h2,(show _↔_ from Iff.intro (fun h=>by cases h) (fun h=>by rw [h1] at h;cases h)),(show ∀ lf,takR t.cs (ownL t)=some lf→_ from fun lf h=>?_)⟩
       rw [h1] at h
       injection h with h
       subst h
       refine ⟨h4.iv,fun k hk=>?_⟩
       have:=(World.ownsRow.lt h4 k hk).1
       have h9:=HB7.out.size
       have:=HK5.out.lt
       omega
    clear hans hb8 HB7 HK7 HT7 HO7 HC7 HB6 HBc HTc HKc HRc HK5 HI5 c3 cl
    have HKS:Hid (∀ W,Below w8.heap.size w8 W→(W.cell? ⟨w.heap.size,6,none⟩=some (.int .i64 t.me)∧W.cell? ⟨b5,0,none⟩=some (.string t.f.name)∧W.cell? ⟨b5,1,none⟩=some (.int .i64 t.f.body)∧W.cell? ⟨b5,2,none⟩=some (.slice Av t.f.sorts.length cv)∧W.cell? ⟨b5,3,none⟩=some (.slice As (spl t.f.sorts t.f.sorts.length).length cs'))):=(show ∀ W,_ from fun W hW=>by
     have h:=HK8.out.below hW HK8.out.lt
     have h2:=HX8.out.below hW HX8.out.lt
     exact ⟨h.cell 6,h2.cell 0,h2.cell 1,h2.cell 2,h2.cell 3⟩)
    have HCW:Hid (∀ W,Below w8.heap.size w8 W→Calls Tryz.prog 128 #[.agg (xfs t.f (.slice Av t.f.sorts.length cv) (.slice As (spl t.f.sorts t.f.sorts.length).length cs')),.slice Ao (ownL t).length co] W (IntPost (widL t.f (ownL t)) W)):=(show ∀ W,_ from fun W hW=>widthF_any t.f _ _ (ownL t) _ W (HT8.out.s.below hW) HOK.out.f (HO8.out.iv.below hW) HOI.out.1 (by have:=HOI.out.2;omega))
    have HFT:Hid (fillT t=t.me-widL t.f (ownL t)):=rfl
    have hwb:0≤widL t.f (ownL t)∧widL t.f (ownL t)≤20000000:=by
     have h1:=widT_bound HOK.out.f HOI.out.1 _ (Nat.le_refl _)
     rw [List.take_length] at h1
     have:=HOI.out.2
     omega
    have hme:=HOK.out.me
    have HR8L:Hid (w.heap.size+1 < w8.heap.size):=HR8.out.lt
    have HX8L:Hid (b5 < w8.heap.size):=HX8.out.lt
    go_upto_region 7 with fail
    have hbd:Below w8.heap.size w8 w8.drew:=(Below.refl _ _).drew
    have hS0:=HKS.out _ hbd
    refine wp_region_split (fun W=>(W.cell? ⟨w.heap.size,6,none⟩=some (.int .i64 t.me)∧W.cell? ⟨b5,0,none⟩=some (.string t.f.name)∧W.cell? ⟨b5,1,none⟩=some (.int .i64 t.f.body)∧W.cell? ⟨b5,2,none⟩=some (.slice Av t.f.sorts.length cv)∧W.cell? ⟨b5,3,none⟩=some (.slice As (spl t.f.sorts t.f.sorts.length).length cs'))) 10 (by kernel_rfl) (by decide) ?_
    refine wpG_take 10 0 (v:=?_) rfl (by kernel_rfl) (fun _ _ _ h=>h) (Or.inl ⟨by rfl,?_⟩) (by assumption) ?_
    rotate_left
    · intro w hSw;(try dsimp only at hSw);go_simp;(try with_reducible rfl)
    (try simp only [pz])
    refine wpG_take 10 1 (v:=?_) rfl (by kernel_rfl) (fun _ _ _ h=>h) (Or.inl ⟨by rfl,?_⟩) (by assumption) ?_
    rotate_left
    · intro w hSw;(try dsimp only at hSw);go_simp;(try with_reducible rfl)
    (try simp only [pz])
    refine wpG_take 10 2 (v:=?_) rfl (by kernel_rfl) (fun _ _ _ h=>h) (Or.inl ⟨by rfl,?_⟩) (by assumption) ?_
    rotate_left
    · intro w hSw;(try dsimp only at hSw);go_simp;(try with_reducible rfl)
    (try simp only [pz])
    refine wpG_take 10 3 (v:=?_) rfl (by kernel_rfl) (fun _ _ _ h=>h) (Or.inl ⟨by rfl,?_⟩) (by assumption) ?_
    rotate_left
    · intro w hSw;(try dsimp only at hSw);go_simp;(try with_reducible rfl)
    (try simp only [pz])
    refine wpG_take 10 4 (v:=?_) rfl (by kernel_rfl) (fun _ _ _ h=>h) (Or.inl ⟨by rfl,?_⟩) (by assumption) ?_
    rotate_left
    · intro w hSw;(try dsimp only at hSw);go_simp;(try with_reducible rfl)
    (try simp only [pz])
    refine wpG_take 10 5 (v:=?_) rfl (by kernel_rfl) (fun _ _ _ h=>h) (Or.inl ⟨by rfl,?_⟩) (by assumption) ?_
    rotate_left
    · intro w hSw;(try dsimp only at hSw);go_simp;(try with_reducible rfl)
    (try simp only [pz])
    refine wpG_take 10 8 (v:=?_) rfl (by kernel_rfl) (fun _ _ _ h=>h) (Or.inl ⟨by rfl,?_⟩) (by assumption) ?_
    rotate_left
    · intro w hSw;(try dsimp only at hSw);go_simp;(try with_reducible rfl)
    (try simp only [pz])
    refine wpG_one (i:=6) (by kernel_rfl) ?_
    refine wpOp_step rfl (fun K hK=>?_)
    go_simp
    go_at_call 128
    (with_reducible refine (HCW.out _ hbd).mono ?_)
    rintro e w9 ⟨rfl,hb9'⟩
    have hb9:Below w8.heap.size w8 w9:=hbd.trans (hb9'.mono hbd.size)
    have n9:=HKS.out w9 hb9
    (try dsimp only)
    refine hK _ _ ⟨n9,?_⟩
    clear hK K
    (try simp only [pz])
    refine wpG_take 10 7 (v:=?_) rfl (by kernel_rfl) (fun _ _ _ h=>h) (Or.inl ⟨by rfl,?_⟩) (by assumption) ?_
    rotate_left
    · intro w hSw;(try dsimp only at hSw);go_simp;(try with_reducible rfl)
    (try simp only [pz])
    refine wpG_one (i:=9) (by kernel_rfl) ?_
    refine wpOp_step rfl (fun K hK=>?_)
    have hX9:=HX8.out.below hb9 HX8.out.lt
    have x13:=hX9.cell 13
    have f13:=Blk.frozen hX9 13
    have xl:=hX9.lt
    go_simp
    have hS9:(World.cell? (w9.setCell ⟨b5,13,none⟩ (.slice Al nl cz)) ⟨w.heap.size,6,none⟩=some (.int .i64 t.me)∧World.cell? (w9.setCell ⟨b5,13,none⟩ (.slice Al nl cz)) ⟨b5,0,none⟩=some (.string t.f.name)∧World.cell? (w9.setCell ⟨b5,13,none⟩ (.slice Al nl cz)) ⟨b5,1,none⟩=some (.int .i64 t.f.body)∧World.cell? (w9.setCell ⟨b5,13,none⟩ (.slice Al nl cz)) ⟨b5,2,none⟩=some (.slice Av t.f.sorts.length cv)∧World.cell? (w9.setCell ⟨b5,13,none⟩ (.slice Al nl cz)) ⟨b5,3,none⟩=some (.slice As (spl t.f.sorts t.f.sorts.length).length cs')):=by
     have h:=(hX9.set_ 13 (.slice Al nl cz))
     refine ⟨?_,h.cell 0,h.cell 1,h.cell 2,h.cell 3⟩
     exact (World.cell?_of_block (a:=⟨w.heap.size,6,none⟩) (Below.heap_setCell _ _ _ _ (by show w.heap.size≠b5;have:=HR1L.out;omega))).trans n9.1
    (try dsimp only)
    refine hK _ _ ⟨hS9,?_⟩
    clear hK K
    (try simp only [pz])
    refine ⟨by kernel_rfl,?_⟩
    simp only [List.drop_succ_cons,List.drop_zero]
    have hXs:=hX9.set_ 13 (.slice Al nl cz)
    have y11:=hXs.cell 11
    have g11:=Blk.frozen hXs 11
    have yl:=hXs.lt
    have hBs:=(HBW8.out.trans (hb9.mono HBW8.out.size)).setCell (p:=⟨b5,13,none⟩) (by show w.heap.size≤b5;have:=HR1L.out;omega) (.slice Al nl cz)
    have HB9:=Lib.hid hb9
    have HXS:=Lib.hid hXs
    have HX9:=Lib.hid hX9
    have HBS:=Lib.hid hBs
    clear hb9 hb9' n9 hS0 hS9 hXs hBs x13 f13 xl hX9 hbd
    go_upto_region 8 with fail
    have HFW:Hid (fillT t=t.me-widL t.f (ownL t)):=rfl
    have hGP:max 0 (IntKind.i64.wrap ((t.words.length:Int)-1))=((t.words.length-1:Nat):Int):=by
     have e1:IntKind.i64.wrap ((t.words.length:Int)-1)=(t.words.length:Int)-1:=IntWalk.i64_in _ (by omega)
     rw [e1];omega
    have HGP:=Lib.hid hGP
    have HB10:Hid (Below w.heap.size w ((w9.setCell ⟨b5,13,none⟩ (.slice Al nl cz)).setCell ⟨b5,11,none⟩ (.int .i64 (t.me-widL t.f (ownL t))))):=(show Below _ _ _ from HBS.out.setCell (p:=⟨b5,11,none⟩) (by show w.heap.size≤b5;have:=HR1L.out;omega) _)
    have HK10:Hid (Blk ((w9.setCell ⟨b5,13,none⟩ (.slice Al nl cz)).setCell ⟨b5,11,none⟩ (.int .i64 (t.me-widL t.f (ownL t)))) b5 263 (tks t (.slice Av t.f.sorts.length cv) (.slice As (spl t.f.sorts t.f.sorts.length).length cs') (.slice Ac t.cs.length cc) (.slice Ai t.ind.length ci) (.slice Aw t.words.length cw) (t.me-widL t.f (ownL t)) ((t.words.length-1:Nat):Int) (.slice Al nl cz))):=(show Blk _ _ _ _ from by
     have h:=HXS.out.set_ 11 (.int .i64 (t.me-widL t.f (ownL t)))
     rw [←HGP.out]
     simpa only [List.setIfInBounds_toArray,List.set_cons_zero,List.set_cons_succ] using h)
    have hg2:w9.grownBy ((w9.setCell ⟨b5,13,none⟩ (.slice Al nl cz)).setCell ⟨b5,11,none⟩ (.int .i64 (t.me-widL t.f (ownL t)))) (some b5):=grown_trans (grown_setCell _ _ _ _) (grown_setCell _ _ _ _)
    have HR10:Hid (Blk ((w9.setCell ⟨b5,13,none⟩ (.slice Al nl cz)).setCell ⟨b5,11,none⟩ (.int .i64 (t.me-widL t.f (ownL t)))) (w.heap.size+1) 263 z118):=(show Blk _ _ _ _ from by
     have hr9:=HR8.out.below HB9.out HR8.out.lt
     exact (hg2.block _ hr9.lt (by intro e;injection e with e;have:=HR1L.out;omega)).trans hr9)
    have HI10:Hid (IV ((w9.setCell ⟨b5,13,none⟩ (.slice Al nl cz)).setCell ⟨b5,11,none⟩ (.int .i64 (t.me-widL t.f (ownL t)))) (spl t.f.sorts t.f.sorts.length) (.slice As (spl t.f.sorts t.f.sorts.length).length cs')):=(show IV _ _ _ from RV.keptB (HI8.out.below HB9.out) hg2 (fun k hk=>(HN5.out k hk).1))
    have HL10:Hid (∀ lf,takR t.cs (ownL t)=some lf→IV ((w9.setCell ⟨b5,13,none⟩ (.slice Al nl cz)).setCell ⟨b5,11,none⟩ (.int .i64 (t.me-widL t.f (ownL t)))) lf (.slice Al nl cz)):=(show ∀ lf,_→_ from fun lf h=>RV.keptB ((HLV.out lf h).1.below HB9.out) hg2 (fun k hk e=>by have:=(HLV.out lf h).2 k hk;omega))
    clear hg2 hGP hwb hme y11 g11 yl
    generalize (w9.setCell ⟨b5,13,none⟩ (.slice Al nl cz)).setCell ⟨b5,11,none⟩ (.int .i64 (t.me-widL t.f (ownL t)))=W10 at *
    have HFB:Hid (-20000000≤fillT t∧fillT t≤1000000):=(show _∧_ from by
     have h1:=widT_bound HOK.out.f HOI.out.1 _ (Nat.le_refl _)
     rw [List.take_length] at h1
     have:=HOI.out.2
     have:=HOK.out.me
     have:=HFW.out
     omega)
    have hfb:=HFB.out
    rw [←HFW.out] at HK10
    generalize hfl:fillT t=fl at *
    have HFL:=Lib.hid hfl
    clear hfl
    cases ok with
    | false=>
     have HX1:Hid (opnE t=20):=(show _=_ from HE1.out.trans (if_pos (HOKB.out.1 rfl)))
     have r0:=HR10.out.cell 0
     have z0:=Blk.frozen HR10.out 0
     have r1:=HR10.out.cell 1
     have z1:=Blk.frozen HR10.out 1
     have r2:=HR10.out.cell 2
     have z2:=Blk.frozen HR10.out 2
     have r3:=HR10.out.cell 3
     have z3:=Blk.frozen HR10.out 3
     have r4:=HR10.out.cell 4
     have z4:=Blk.frozen HR10.out 4
     have r5:=HR10.out.cell 5
     have z5:=Blk.frozen HR10.out 5
     have r6:=HR10.out.cell 6
     have z6:=Blk.frozen HR10.out 6
     have r7:=HR10.out.cell 7
     have z7:=Blk.frozen HR10.out 7
     have r8:=HR10.out.cell 8
     have z8:=Blk.frozen HR10.out 8
     have r9:=HR10.out.cell 9
     have z9:=Blk.frozen HR10.out 9
     have r10:=HR10.out.cell 10
     have z10:=Blk.frozen HR10.out 10
     have r11:=HR10.out.cell 11
     have z11:=Blk.frozen HR10.out 11
     have r12:=HR10.out.cell 12
     have z12:=Blk.frozen HR10.out 12
     have r13:=HR10.out.cell 13
     have z13:=Blk.frozen HR10.out 13
     have rl:=HR10.out.lt
     clear HE1
     go_wp2_with fail
     refine bodyPost_ret (ot_res (HR10.out.all14 _ _ _ _ _ _ _ _ _ _ _ _ _ _) rfl _ rfl) rfl ?_
     exact HERR.out _ _ HX1.out.symm (by rw [HX1.out];decide) (below_all14 HB10.out (by omega) _ _ _ _ _ _ _ _ _ _ _ _ _ _)
    | true=>
     have hsm:takR t.cs (ownL t)≠none:=fun h=>by have:=HOKB.out.2 h;cases this
     obtain ⟨lf,hlf⟩:=Option.ne_none_iff_exists'.1 hsm
     have HE2:=Lib.hid (HE1.out.trans (if_neg hsm))
     have HLF:=Lib.hid hlf
     clear hsm hlf HE1
     have x11:=HK10.out.cell 11
     have xl:=HK10.out.lt
     by_cases hf0:fl < 0
     · have HX1:=Lib.hid (HE2.out.trans (if_pos hf0))
       have r0:=HR10.out.cell 0
       have z0:=Blk.frozen HR10.out 0
       have r1:=HR10.out.cell 1
       have z1:=Blk.frozen HR10.out 1
       have r2:=HR10.out.cell 2
       have z2:=Blk.frozen HR10.out 2
       have r3:=HR10.out.cell 3
       have z3:=Blk.frozen HR10.out 3
       have r4:=HR10.out.cell 4
       have z4:=Blk.frozen HR10.out 4
       have r5:=HR10.out.cell 5
       have z5:=Blk.frozen HR10.out 5
       have r6:=HR10.out.cell 6
       have z6:=Blk.frozen HR10.out 6
       have r7:=HR10.out.cell 7
       have z7:=Blk.frozen HR10.out 7
       have r8:=HR10.out.cell 8
       have z8:=Blk.frozen HR10.out 8
       have r9:=HR10.out.cell 9
       have z9:=Blk.frozen HR10.out 9
       have r10:=HR10.out.cell 10
       have z10:=Blk.frozen HR10.out 10
       have r11:=HR10.out.cell 11
       have z11:=Blk.frozen HR10.out 11
       have r12:=HR10.out.cell 12
       have z12:=Blk.frozen HR10.out 12
       have r13:=HR10.out.cell 13
       have z13:=Blk.frozen HR10.out 13
       have rl:=HR10.out.lt
       clear HE2
       go_wp2_with fail
       refine bodyPost_ret (ot_res (HR10.out.all14 _ _ _ _ _ _ _ _ _ _ _ _ _ _) rfl _ rfl) rfl ?_
       exact HERR.out _ _ HX1.out.symm (by rw [HX1.out];decide) (below_all14 HB10.out (by omega) _ _ _ _ _ _ _ _ _ _ _ _ _ _)
     · by_cases hf1:20000 < fl
       · have HX1:=Lib.hid ((HE2.out.trans (if_neg hf0)).trans (if_pos hf1))
         have r0:=HR10.out.cell 0
         have z0:=Blk.frozen HR10.out 0
         have r1:=HR10.out.cell 1
         have z1:=Blk.frozen HR10.out 1
         have r2:=HR10.out.cell 2
         have z2:=Blk.frozen HR10.out 2
         have r3:=HR10.out.cell 3
         have z3:=Blk.frozen HR10.out 3
         have r4:=HR10.out.cell 4
         have z4:=Blk.frozen HR10.out 4
         have r5:=HR10.out.cell 5
         have z5:=Blk.frozen HR10.out 5
         have r6:=HR10.out.cell 6
         have z6:=Blk.frozen HR10.out 6
         have r7:=HR10.out.cell 7
         have z7:=Blk.frozen HR10.out 7
         have r8:=HR10.out.cell 8
         have z8:=Blk.frozen HR10.out 8
         have r9:=HR10.out.cell 9
         have z9:=Blk.frozen HR10.out 9
         have r10:=HR10.out.cell 10
         have z10:=Blk.frozen HR10.out 10
         have r11:=HR10.out.cell 11
         have z11:=Blk.frozen HR10.out 11
         have r12:=HR10.out.cell 12
         have z12:=Blk.frozen HR10.out 12
         have r13:=HR10.out.cell 13
         have z13:=Blk.frozen HR10.out 13
         have rl:=HR10.out.lt
         clear HE2
         go_wp2_with fail
         refine bodyPost_ret (ot_res (HR10.out.all14 _ _ _ _ _ _ _ _ _ _ _ _ _ _) rfl _ rfl) rfl ?_
         exact HERR.out _ _ HX1.out.symm (by rw [HX1.out];decide) (below_all14 HB10.out (by omega) _ _ _ _ _ _ _ _ _ _ _ _ _ _)
       · have HX1:=Lib.hid ((HE2.out.trans (if_neg hf0)).trans (if_neg hf1))
         have r0:=HR10.out.cell 0
         have z0:=Blk.frozen HR10.out 0
         have r1:=HR10.out.cell 1
         have z1:=Blk.frozen HR10.out 1
         have r2:=HR10.out.cell 2
         have z2:=Blk.frozen HR10.out 2
         have r3:=HR10.out.cell 3
         have z3:=Blk.frozen HR10.out 3
         have r4:=HR10.out.cell 4
         have z4:=Blk.frozen HR10.out 4
         have r5:=HR10.out.cell 5
         have z5:=Blk.frozen HR10.out 5
         have r6:=HR10.out.cell 6
         have z6:=Blk.frozen HR10.out 6
         have r7:=HR10.out.cell 7
         have z7:=Blk.frozen HR10.out 7
         have r8:=HR10.out.cell 8
         have z8:=Blk.frozen HR10.out 8
         have r9:=HR10.out.cell 9
         have z9:=Blk.frozen HR10.out 9
         have r10:=HR10.out.cell 10
         have z10:=Blk.frozen HR10.out 10
         have r11:=HR10.out.cell 11
         have z11:=Blk.frozen HR10.out 11
         have r12:=HR10.out.cell 12
         have z12:=Blk.frozen HR10.out 12
         have r13:=HR10.out.cell 13
         have z13:=Blk.frozen HR10.out 13
         have k0:=HK10.out.cell 0
         have k1:=HK10.out.cell 1
         have k2:=HK10.out.cell 2
         have k3:=HK10.out.cell 3
         have k4:=HK10.out.cell 4
         have k5:=HK10.out.cell 5
         have k6:=HK10.out.cell 6
         have k7:=HK10.out.cell 7
         have k8:=HK10.out.cell 8
         have k9:=HK10.out.cell 9
         have k10:=HK10.out.cell 10
         have k12:=HK10.out.cell 12
         have k13:=HK10.out.cell 13
         have rl:=HR10.out.lt
         clear HE2
         go_wp2_with fail
         refine bodyPost_ret (ot_res (HR10.out.all14 _ _ _ _ _ _ _ _ _ _ _ _ _ _) rfl _ rfl) rfl ?_
         refine ⟨below_all14 HB10.out (by omega) _ _ _ _ _ _ _ _ _ _ _ _ _ _,.inr ⟨HX1.out,_,_,lf,HLF.out,by rw [HFL.out];rfl,?_,?_⟩⟩
         · exact RV.keptB HI10.out (grown_all14 _ _ _ _ _ _ _ _ _ _ _ _ _ _ _ _) (fun k hk e=>by have:=(HN5.out k hk).2;have:=HR1L.out;omega)
         · exact RV.keptB (HL10.out lf HLF.out) (grown_all14 _ _ _ _ _ _ _ _ _ _ _ _ _ _ _ _) (fun k hk e=>by have:=(HLV.out lf HLF.out).2 k hk;have:=HR1L.out;omega)
 · have hbn:=bne_t hq
   have HX1:=Lib.hid (HE0.out.trans (if_pos hq))
   have HQ:=Lib.hid hq
   clear hq HE0
   generalize tkErr t=te at *
   have r0:=HR1.out.cell 0
   have z0:=Blk.frozen HR1.out 0
   have r1:=HR1.out.cell 1
   have z1:=Blk.frozen HR1.out 1
   have r2:=HR1.out.cell 2
   have z2:=Blk.frozen HR1.out 2
   have r3:=HR1.out.cell 3
   have z3:=Blk.frozen HR1.out 3
   have r4:=HR1.out.cell 4
   have z4:=Blk.frozen HR1.out 4
   have r5:=HR1.out.cell 5
   have z5:=Blk.frozen HR1.out 5
   have r6:=HR1.out.cell 6
   have z6:=Blk.frozen HR1.out 6
   have r7:=HR1.out.cell 7
   have z7:=Blk.frozen HR1.out 7
   have r8:=HR1.out.cell 8
   have z8:=Blk.frozen HR1.out 8
   have r9:=HR1.out.cell 9
   have z9:=Blk.frozen HR1.out 9
   have r10:=HR1.out.cell 10
   have z10:=Blk.frozen HR1.out 10
   have r11:=HR1.out.cell 11
   have z11:=Blk.frozen HR1.out 11
   have r12:=HR1.out.cell 12
   have z12:=Blk.frozen HR1.out 12
   have r13:=HR1.out.cell 13
   have z13:=Blk.frozen HR1.out 13
   have rl:=HR1.out.lt
   go_wp2_with fail
   refine bodyPost_ret (ot_res (HR1.out.all14 _ _ _ _ _ _ _ _ _ _ _ _ _ _) rfl _ rfl) rfl ?_
   exact HERR.out _ _ HX1.out.symm (by rw [HX1.out];exact HQ.out) (below_all14 HB1.out (by omega) _ _ _ _ _ _ _ _ _ _ _ _ _ _)
end Go.Proofs.YtbnganlfelgogaaGreat
