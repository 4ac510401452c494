/- line: the pieces, the room and the end of a line. -/
import Derived.Test.YtbnganlfelgogaaGreatVPst
import Derived.Test.YtbnganlfelgogaaGreatVLnm
import Derived.StillTailTactics
import Derived.Deep.CutBlock
import Derived.Deep.DeepCutAuto
set_option linter.unusedSimpArgs false
set_option linter.unusedVariables false
set_option maxRecDepth 100000
set_option maxHeartbeats 40000000
namespace Go.Proofs.YtbnganlfelgogaaGreat
open Go.RowKit
theorem gz_cut {l:List Int} {lo hi q:Nat} (h:lo+q < hi):gz ((l.take hi).drop lo) q=gz l (lo+q):=by
 unfold gz
 simp [List.getD_eq_getElem?_getD,List.getElem?_drop,List.getElem?_take,h]
theorem info30:(Tryz.prog.info? 34).map (fun i=>(i.zero,i.size,i.bytes))=some (some (.slice none 0 0),1,24):=by kernel_rfl
theorem IO.shape {W:World} {B:Nat} {zs:List Int} {v:Value} (h:IO W B zs v):∃ A c,v=.slice A zs.length c:=by
 rcases h.2 with ⟨rfl,h0⟩ | ⟨g,cap,cur,rfl,_⟩
 · exact ⟨none,0,by rw [h0]⟩
 · exact ⟨_,_,rfl⟩
theorem gl_len_le {ls:List (List Int)} {i:Nat} (h:i < ls.length):(gl ls i).length≤ls.flatten.length:=by
 have h1:=sumL_succ h
 have h2:=sumL_mono (ls:=ls) (k:=i+1) (by omega)
 omega
theorem PSt.lastq {W:World} {B q cv:Nat} {Av:Option Addr} {pss:List (List Int)} {hd:List Value} (h:PSt W B pss (.slice Av pss.length cv) hd) (hq:pss.length=q+1) :
 ∃ g Al ll cl,Av=some ⟨g,0,none⟩∧B≤g∧g < W.heap.size∧W.cell? ⟨g,q,none⟩=some (.slice Al ll cl)∧W.frozen? ⟨g,q,none⟩=false∧(gl pss q).length=ll∧W.ownsRow B 3 1 (.slice Al ll cl) ll (zv (gl pss q))∧.slice Al ll cl=hd.getD q undef∧some g≠(Value.slice Al ll cl).ownBlock:=by
 obtain ⟨g,c,vl,hvs,hg1,hg2,zl,zlf,hil,hvl⟩:=h.last (by omega)
 injection hvs with hA1 hn1 hc1
 subst hA1 hc1
 obtain ⟨Al,cl,rfl⟩:=hil.shape
 have hne:=own_ne (show W.ownsRow B 3 1 _ _ _ from hil) h.row (by decide)
 rw [hq,Nat.add_sub_cancel] at zl zlf hil hvl hne
 refine ⟨g,Al,_,cl,rfl,hg1,hg2,zl,zlf,rfl,hil,hvl,fun e=>?_⟩
 rcases hne with hne | hne
 · rw [←e] at hne;cases hne
 · exact hne e.symm
theorem PSt.hyphq {W W1 W3:World} {B q ll g g6 c cap6:Nat} {pss:List (List Int)} {v:Value} {hd:List Value} {h0:Int} (h:PSt W B pss (.slice (some ⟨g,0,none⟩) (q+1) c) hd) (hq:pss.length=q+1) (hB:B≤W.heap.size) (hv:v=hd.getD q undef) (hll:(gl pss q).length=ll)
 (hb1:Below W.heap.size W W1) (hown:W3.ownsRow B 3 1 (.slice (some ⟨g6,0,none⟩) (ll+1) cap6) (ll+1) (zv (gl pss q)++[.int .i64 h0])) (hg:W1.grownBy W3 v.ownBlock) (hat:v.ownBlock=some g6∨g6=W1.heap.size) :
 PSt (W3.setCell ⟨g,q,none⟩ (.slice (some ⟨g6,0,none⟩) (ll+1) cap6)) B (Go.Proofs.YtbnganlfelgogaaGreat.hyph h0 pss) (.slice (some ⟨g,0,none⟩) (q+1) c) (hd.set q (.slice (some ⟨g6,0,none⟩) (ll+1) cap6)):=by
 have e:q=pss.length-1:=by omega
 subst hll
 rw [←hq] at h ⊢
 rw [e] at hv hown ⊢
 exact PSt.hyph (o:=.cells #[] 3) h (by omega) hB rfl hv hb1 hown hg (hat.elim (fun a=>.inl (by rw [a];rfl)) (fun a=>.inr (by rw [←a];rfl)))
theorem PSt.mono {W:World} {B B':Nat} {pss:List (List Int)} {vo:Value} {hd:List Value} (h:PSt W B pss vo hd) (hB:B'≤B):PSt W B' pss vo hd:=
 ⟨h.row.mono hB,h.len,fun i hi=>World.ownsRow.mono (h.pc i hi) hB,h.sep⟩
theorem PSt.kept {W W':World} {B C n:Nat} {pss:List (List Int)} {vo vr:Value} {hd xs:List Value} {e:TypeId} {sz:Nat} (h:PSt W B pss vo hd) (hr:W.ownsRow C e sz vr n xs) (h30:34≠e) (h3:3≠e) (hg:W.grownBy W' vr.ownBlock):PSt W' B pss vo hd:=
 ⟨h.row.kept hg (own_ne h.row hr h30),h.len,fun i hi=>(h.pc i hi).kept hg (own_ne (h.pc i hi) hr h3),h.sep⟩
@[reducible,go_sem] def lcs (i j:Int) (v:Value) (room:Int) (ends:Bool):Array Value:=#[.int .i64 i,.int .i64 j,v,.int .i64 room,.bool ends]
def LinePost (w:World) (f:Fnt) (r:Rls) (ws:List PWord) (i j:Nat) (e:Ending) (w':World):Prop:=
 ∃ vps,e=.returned (.agg (lcs i j vps (lineF f r ws i j).room (lineF f r ws i j).ends))∧(∃ hd,PSt w' w.heap.size (lineF f r ws i j).ps vps hd)∧Below w.heap.size w w'
@[reducible,go_sem] def plcs (p:Nat × Nat):Array Value:=#[.int .i64 (p.1:Int),.int .i64 (p.2:Int)]
structure TwoB (W w:World) (b7 b8:Nat) (p q:Nat × Nat):Prop where
 B:Below w.heap.size w W
 p6:Blk W w.heap.size 155 #[.int .i64 0,.int .i64 0,.slice none 0 0,.int .i64 0,.bool false]
 p7:Blk W b7 55 (plcs p)
 p8:Blk W b8 55 (plcs q)
 ne:b7≠b8∧w.heap.size < b7∧w.heap.size < b8
 sz:W.heap.size=w.heap.size+3
theorem twoB_a {W0 w:World} {p q:Nat × Nat} (h0:Below w.heap.size w W0) (h6:Blk W0 w.heap.size 155 #[.int .i64 0,.int .i64 0,.slice none 0 0,.int .i64 0,.bool false]) (hz:W0.heap.size=w.heap.size+1) :
 TwoB (((W0.alloc (.cells (plcs p) 55)).alloc (.cells (plcs q) 55)).drew) w (w.heap.size+1) (w.heap.size+1+1) p q:=by
 have b1:=below_new W0 (.cells (plcs p) 55)
 have b2:=below_new (W0.alloc (.cells (plcs p) 55)) (.cells (plcs q) 55)
 have k1:=Blk.new W0 55 (plcs p)
 have k2:=Blk.new (W0.alloc (.cells (plcs p) 55)) 55 (plcs q)
 have hs:(W0.alloc (.cells (plcs p) 55)).heap.size=w.heap.size+1+1:=by simp [hz]
 have hb:=b1.trans (b2.mono (by simp))
 refine ⟨(h0.trans (hb.mono h0.size)).drew,h6.below hb.drew h6.lt,?_,?_,⟨by omega,by omega,by omega⟩,by show (World.heap _).size=_;simp [hz]⟩
 · rw [hz] at k1
   exact k1.below b2.drew k1.lt
 · rw [hs] at k2
   exact k2
theorem twoB_b {W0 w:World} {p q:Nat × Nat} (h0:Below w.heap.size w W0) (h6:Blk W0 w.heap.size 155 #[.int .i64 0,.int .i64 0,.slice none 0 0,.int .i64 0,.bool false]) (hz:W0.heap.size=w.heap.size+1) :
 TwoB (((W0.alloc (.cells (plcs q) 55)).alloc (.cells (plcs p) 55)).drew) w (w.heap.size+1+1) (w.heap.size+1) p q:=by
 have h:=twoB_a (p:=q) (q:=p) h0 h6 hz
 exact ⟨h.B,h.p6,h.p8,h.p7,⟨h.ne.1.symm,h.ne.2.2,h.ne.2.1⟩,h.sz⟩
structure LB (W w:World) (b7 b8 b9:Nat) (p q:Nat × Nat) (cs:Array Value):Prop where
 B:Below w.heap.size w W
 p6:Blk W w.heap.size 155 #[.int .i64 0,.int .i64 0,.slice none 0 0,.int .i64 0,.bool false]
 p7:Blk W b7 55 (plcs p)
 p8:Blk W b8 55 (plcs q)
 p9:Blk W b9 155 cs
 ne:w.heap.size < b7∧w.heap.size < b8∧b7 < b9∧b8 < b9∧b9 < W.heap.size
theorem TwoB.start {wc w:World} {b7 b8:Nat} {p q:Nat × Nat} (h:TwoB wc w b7 b8 p q) (cs:Array Value):LB (wc.alloc (.cells cs 155)).drew w b7 b8 wc.heap.size p q cs:=by
 have hb:=(below_new wc (.cells cs 155)).drew
 have l7:=h.p7.lt
 have l8:=h.p8.lt
 have hn:=h.ne
 exact ⟨h.B.trans (hb.mono h.B.size),h.p6.below hb h.p6.lt,h.p7.below hb l7,h.p8.below hb l8,Blk.new wc 155 cs,⟨by omega,by omega,by omega,by omega,by show _ < (World.heap _).size;simp⟩⟩
theorem LB.below {W W' w:World} {b7 b8 b9:Nat} {p q:Nat × Nat} {cs:Array Value} (h:LB W w b7 b8 b9 p q cs) (hb:Below W.heap.size W W'):LB W' w b7 b8 b9 p q cs:=by
 have:=hb.size
 have hn:=h.ne
 exact ⟨h.B.trans (hb.mono h.B.size),h.p6.below hb h.p6.lt,h.p7.below hb h.p7.lt,h.p8.below hb h.p8.lt,h.p9.below hb h.p9.lt,⟨by omega,by omega,by omega,by omega,by omega⟩⟩
theorem LB.grown {W W' w:World} {b7 b8 b9:Nat} {p q:Nat × Nat} {cs:Array Value} {row:Option Nat} (h:LB W w b7 b8 b9 p q cs) (hg:W.grownBy W' row) (hr:∀ t,row=some t→b9 < t):LB W' w b7 b8 b9 p q cs:=by
 have hn:=h.ne
 have hz:=hg.size
 have l6:=h.p6.lt
 have hz2:=h.B.size
 exact ⟨h.B.grown hg hz2 (fun k hk=>by have:=hr k hk;omega),h.p6.grown hg (fun e=>by have:=hr _ e.symm;omega),h.p7.grown hg (fun e=>by have:=hr _ e.symm;omega),h.p8.grown hg (fun e=>by have:=hr _ e.symm;omega),h.p9.grown hg (fun e=>by have:=hr _ e.symm;omega),⟨by omega,by omega,by omega,by omega,by omega⟩⟩
theorem LB.set_ {W w:World} {b7 b8 b9:Nat} {p q:Nat × Nat} {cs:Array Value} (h:LB W w b7 b8 b9 p q cs) (i:Nat) (u:Value):LB (W.setCell ⟨b9,i,none⟩ u) w b7 b8 b9 p q (cs.setIfInBounds i u):=by
 have hn:=h.ne
 have hz2:=h.B.size
 exact ⟨h.B.setCell (by show w.heap.size≤b9;omega) _,(Below.heap_setCell _ _ _ _ (by show _≠b9;omega)).trans h.p6,(Below.heap_setCell _ _ _ _ (by show _≠b9;omega)).trans h.p7,(Below.heap_setCell _ _ _ _ (by show _≠b9;omega)).trans h.p8,h.p9.set_ i u,⟨by omega,by omega,by omega,by omega,by simp;omega⟩⟩
theorem LB.far {W w:World} {b7 b8 b9:Nat} {p q:Nat × Nat} {cs:Array Value} (h:LB W w b7 b8 b9 p q cs) {g i:Nat} (hg:b9 < g) (u:Value):LB (W.setCell ⟨g,i,none⟩ u) w b7 b8 b9 p q cs:=by
 have hn:=h.ne
 have hz2:=h.B.size
 exact ⟨h.B.setCell (by show w.heap.size≤g;omega) _,(Below.heap_setCell _ _ _ _ (by show _≠g;omega)).trans h.p6,(Below.heap_setCell _ _ _ _ (by show _≠g;omega)).trans h.p7,(Below.heap_setCell _ _ _ _ (by show _≠g;omega)).trans h.p8,(Below.heap_setCell _ _ _ _ (by show _≠g;omega)).trans h.p9,⟨by omega,by omega,by omega,by omega,by simp;omega⟩⟩
theorem setL5 {W:World} {b:Nat} {c0 c1 c2 c3 c4:Value} (h:Blk W b 155 #[c0,c1,c2,c3,c4]) (v0 v1 v2 v3 v4:Value) :
 (W.setCell ⟨b,0,none⟩ v0).cell? ⟨b,0,none⟩=some v0∧((W.setCell ⟨b,0,none⟩ v0).setCell ⟨b,1,none⟩ v1).cell? ⟨b,1,none⟩=some v1∧
  (((W.setCell ⟨b,0,none⟩ v0).setCell ⟨b,1,none⟩ v1).setCell ⟨b,2,none⟩ v2).cell? ⟨b,2,none⟩=some v2∧
  ((((W.setCell ⟨b,0,none⟩ v0).setCell ⟨b,1,none⟩ v1).setCell ⟨b,2,none⟩ v2).setCell ⟨b,3,none⟩ v3).cell? ⟨b,3,none⟩=some v3∧
  (((((W.setCell ⟨b,0,none⟩ v0).setCell ⟨b,1,none⟩ v1).setCell ⟨b,2,none⟩ v2).setCell ⟨b,3,none⟩ v3).setCell ⟨b,4,none⟩ v4).cell? ⟨b,4,none⟩=some v4:=
 ⟨(h.set_ 0 v0).cell 0,((h.set_ 0 v0).set_ 1 v1).cell 1,(((h.set_ 0 v0).set_ 1 v1).set_ 2 v2).cell 2,((((h.set_ 0 v0).set_ 1 v1).set_ 2 v2).set_ 3 v3).cell 3,(((((h.set_ 0 v0).set_ 1 v1).set_ 2 v2).set_ 3 v3).set_ 4 v4).cell 4⟩
theorem LB.set6 {W w:World} {b7 b8 b9:Nat} {p q:Nat × Nat} {cs:Array Value} {B:Nat} {pss:List (List Int)} {vo:Value} {hd:List Value} (h:LB W w b7 b8 b9 p q cs) (hp:PSt W (b9+1) pss vo hd) (v0 v1 v2 v3 v4:Value) :
 (∃ hd,PSt (((((W.setCell ⟨w.heap.size,0,none⟩ v0).setCell ⟨w.heap.size,1,none⟩ v1).setCell ⟨w.heap.size,2,none⟩ v2).setCell ⟨w.heap.size,3,none⟩ v3).setCell ⟨w.heap.size,4,none⟩ v4) w.heap.size pss vo hd)∧
  Below w.heap.size w (((((W.setCell ⟨w.heap.size,0,none⟩ v0).setCell ⟨w.heap.size,1,none⟩ v1).setCell ⟨w.heap.size,2,none⟩ v2).setCell ⟨w.heap.size,3,none⟩ v3).setCell ⟨w.heap.size,4,none⟩ v4):=by
 have hn:=h.ne
 have hl:w.heap.size < b9+1:=by omega
 exact ⟨⟨_,(((((hp.set_ (a:=⟨w.heap.size,0,none⟩) hl v0).set_ (a:=⟨w.heap.size,1,none⟩) hl v1).set_ (a:=⟨w.heap.size,2,none⟩) hl v2).set_ (a:=⟨w.heap.size,3,none⟩) hl v3).set_ (a:=⟨w.heap.size,4,none⟩) hl v4).mono (by omega)⟩,
  ((((h.B.setCell (Nat.le_refl _) _).setCell (Nat.le_refl _) _).setCell (Nat.le_refl _) _).setCell (Nat.le_refl _) _).setCell (Nat.le_refl _) _⟩
theorem last_c (Ap:Option Addr) (n cp pb:Nat) (w:World) (z:w.cell? ⟨pb,12,none⟩=some (.slice Ap n cp)) (hpos:0 < n) (hm:n≤300) :
 Calls Tryz.prog 87 #[.pointer (some ⟨pb,0,none⟩)] w fun e w'=>e=.returned (.int .i64 (n-1:Nat))∧w'=w:=by
 have e1:((n-1:Nat):Int)=(n:Int)-1:=by omega
 go_enter Tryz.func87,Tryz.ntmps87
 go_wp2_with fail
 go_ret
 exact ⟨by rw [e1];rfl,rfl⟩
theorem last_any (f:Fnt) (v:Value) (r:Rls) (ws:List PWord) (vw vp:Value) (pb:Nat) (w:World) (h:PA w pb f v r ws vw vp) (hm:(places ws).length≤300) :
 Calls Tryz.prog 87 #[.pointer (some ⟨pb,0,none⟩)] w fun e w'=>e=.returned (.int .i64 ((places ws).length-1:Nat))∧w'=w:=by
 obtain ⟨Ap,cp,rfl,-,-⟩:=h.L.shape
 exact last_c Ap _ cp pb w (h.P.cell 12) (places_pos ws) hm
theorem divides_any (f:Fnt) (v:Value) (r:Rls) (ws:List PWord) (vw vp:Value) (pb:Nat) (j:Nat) (w:World) (h:PA w pb f v r ws vw vp) (hm:(places ws).length≤300) (hj:j < (places ws).length) :
 Calls Tryz.prog 142 #[.pointer (some ⟨pb,0,none⟩),.int .i64 j] w fun e w'=>e=.returned (.bool (divB ws j))∧w'=w:=by
 obtain ⟨Ap,cp,rfl,-,-⟩:=h.L.shape
 obtain ⟨b,off,rfl,hb,y0,y1⟩:=h.L.at hj
 have z:=h.P.cell 12
 have z0:=h.P.lt
 have e1:divB ws j=decide (0 < (gpl (places ws) j).2):=rfl
 clear h
 go_enter Tryz.func142,Tryz.ntmps142
 go_wp2_with fail
 go_ret
 exact ⟨by rw [e1];rfl,rfl⟩
theorem line_any (f:Fnt) (v:Value) (r:Rls) (ws:List PWord) (vw vp:Value) (pb i j:Nat) (w:World) (h:PA w pb f v r ws vw vp) (hok:POk f r ws) (hij:i < j) (hj:j < (places ws).length) :
 Calls Tryz.prog 132 #[.pointer (some ⟨pb,0,none⟩),.int .i64 i,.int .i64 j] w (LinePost w f r ws i j):=by
 have hm:=hok.m
 have hpos:=places_pos ws
 have HOK:=Lib.hid hok
 have HLX:=Lib.hid (places_up hok.wo hij hj)
 have HIA:=Lib.hid (places_in hok.wo (j:=i) (by omega))
 have HIB:=Lib.hid (places_ok hok.wo hj)
 have HPL:Hid (lineF f r ws i j=lineF f r ws i j):=rfl
 obtain ⟨Ap,cp,rfl,-,-⟩:=h.L.shape
 obtain ⟨b,off,rfl,hb,y0,y1⟩:=h.L.at hj
 obtain ⟨b',off',he,-,x0,x1⟩:=h.L.at (k:=i) (by omega)
 injection he with he
 injection he with e1 e2
 subst e1 e2
 have HA:=Lib.hid h
 have HR:Hid (∀ W:World,Below w.heap.size w W→W.cell? ⟨pb,12,none⟩=some (.slice (some ⟨b,off,none⟩) (places ws).length cp)∧W.cell? ⟨b,off+i*2,none⟩=some (.int .i64 (gpl (places ws) i).1)∧W.cell? ⟨b,off+i*2+1,none⟩=some (.int .i64 (gpl (places ws) i).2)∧W.cell? ⟨b,off+j*2,none⟩=some (.int .i64 (gpl (places ws) j).1)∧W.cell? ⟨b,off+j*2+1,none⟩=some (.int .i64 (gpl (places ws) j).2)∧W.cell? ⟨pb,3,none⟩=some (.int .i64 r.measure)):=(show ∀ W,_ from fun W hW=>by
  have h1:=h.P.below hW h.P.lt
  exact ⟨h1.cell 12,(hW.cell (p:=⟨b,off+i*2,none⟩) hb).trans x0,(hW.cell (p:=⟨b,off+i*2+1,none⟩) hb).trans x1,(hW.cell (p:=⟨b,off+j*2,none⟩) hb).trans y0,(hW.cell (p:=⟨b,off+j*2+1,none⟩) hb).trans y1,h1.cell 3⟩)
 have hz1:pb < w.heap.size:=h.P.lt
 clear h hok x0 x1 y0 y1
 have hb0:=below_new w (.cells #[.int .i64 0,.int .i64 0,.slice none 0 0,.int .i64 0,.bool false] 155)
 have hS0:=HR.out _ hb0
 have h60:=Blk.new w 155 #[.int .i64 0,.int .i64 0,.slice none 0 0,.int .i64 0,.bool false]
 go_enter Tryz.func132,Tryz.ntmps132
 go_upto_region 1 with fail
 have hzw:(w.alloc (.cells #[.int .i64 0,.int .i64 0,.slice none 0 0,.int .i64 0,.bool false] 155)).heap.size=w.heap.size+1:=by simp
 generalize (w.alloc (.cells #[.int .i64 0,.int .i64 0,.slice none 0 0,.int .i64 0,.bool false] 155))=W0 at *
 have HB0:=Lib.hid hb0
 have H60:=Lib.hid h60
 have hz1':pb < W0.heap.size:=by omega
 have hb':b < W0.heap.size:=by omega
 clear hb0 h60
 go_split_ands
 go_cut [6,7,8] (fun s6 s7 s8 wx=>∃ b7 b8,s6=.pointer (some ⟨w.heap.size,0,none⟩)∧s7=.pointer (some ⟨b7,0,none⟩)∧s8=.pointer (some ⟨b8,0,none⟩)∧Hid (TwoB wx w b7 b8 (gpl (places ws) i) (gpl (places ws) j)))
 case first=>
  have hjz:(j:Int) < ((places ws).length:Int):=by omega
  have hizz:(i:Int) < ((places ws).length:Int):=by omega
  go_region_held3 (fun W=>W.cell? ⟨pb,12,none⟩=some (.slice (some ⟨b,off,none⟩) (places ws).length cp)∧W.cell? ⟨b,off+i*2,none⟩=some (.int .i64 (gpl (places ws) i).1)∧W.cell? ⟨b,off+i*2+1,none⟩=some (.int .i64 (gpl (places ws) i).2)∧W.cell? ⟨b,off+j*2,none⟩=some (.int .i64 (gpl (places ws) j).1)∧W.cell? ⟨b,off+j*2+1,none⟩=some (.int .i64 (gpl (places ws) j).2)∧W.cell? ⟨pb,3,none⟩=some (.int .i64 r.measure))
   (go_keep)
   (fail)
  all_goals (go_wp2_with fail;go_meet;refine ⟨_,_,rfl,rfl,rfl,?_⟩;(first | exact twoB_a HB0.out H60.out hzw | exact twoB_b HB0.out H60.out hzw))
 case rest=>
  obtain ⟨b7,b8,rfl,rfl,rfl,HT⟩:=hcut
  have HR2:Hid (∀ W:World,Below wc.heap.size wc W→W.cell? ⟨pb,12,none⟩=some (.slice (some ⟨b,off,none⟩) (places ws).length cp)∧W.cell? ⟨pb,3,none⟩=some (.int .i64 r.measure)):=(show ∀ W,_ from fun W hW=>by
   have h1:=HA.out.P.below (HT.out.B.trans (hW.mono HT.out.B.size)) HA.out.P.lt
   exact ⟨h1.cell 12,h1.cell 3⟩)
  have hx:=HR2.out wc (Below.refl _ _)
  have hz2:pb < wc.heap.size:=by have:=HT.out.B.size;omega
  have HLA:=Lib.hid (fun W=>last_c (some ⟨b,off,none⟩) (places ws).length cp pb W)
  have hrd:((places ws).length-1:Nat)+1=(places ws).length:=by omega
  go_split_ands
  go_upto_region 2 with fail
  go_cut [9] (fun s9 wx=>∃ b9,s9=.pointer (some ⟨b9,0,none⟩)∧Hid (LB wx w b7 b8 b9 (gpl (places ws) i) (gpl (places ws) j) (lcs i j (.slice none 0 0) r.measure (decide (j=(places ws).length-1)))))
  case first=>
   have HST:=Lib.hid (HT.out.start (lcs i j (.slice none 0 0) r.measure (decide (j=(places ws).length-1))))
   have HDE:Hid (((j:Int) == (((places ws).length-1:Nat):Int))=decide (j=(places ws).length-1)):=by
    show _=_
    rw [Bool.eq_iff_iff];simp;omega
   go_region_held3 (fun W=>W.cell? ⟨pb,3,none⟩=some (.int .i64 r.measure)∧W.cell? ⟨pb,12,none⟩=some (.slice (some ⟨b,off,none⟩) (places ws).length cp))
    (go_keep)
    ((go_at_call 87;(with_reducible refine (HLA.out _ (by go_split_ands;assumption) hpos hm).mono ?_);rintro e w4 ⟨rfl,rfl⟩))
   all_goals (rw [HDE.out];go_wp2_with fail;go_meet;exact ⟨_,rfl,HST.out⟩)
  case rest=>
   obtain ⟨b9,rfl,HL⟩:=hcut
   obtain ⟨Aw,cw,rfl,-⟩:=HA.out.V.shape
   have HDVB:Hid (divB ws j=decide (0 < (gpl (places ws) j).2)):=rfl
   have HN2:ws.length≤200:=HOK.out.n
   have HQ:Hid (∀ vps,LV wc (lineF f r ws i j).ps vps→True):=fun _ _=>trivial
   have HPR:Hid (0 < (rawP ws (gpl (places ws) i) (gpl (places ws) j) (cnt ws (gpl (places ws) i) (gpl (places ws) j))).length):=raw_pos HLX.out HIA.out
   have HCA:Hid ((gpl (places ws) i).1≤(gpl (places ws) j).1):=(lex_cut HLX.out).1
   have HPOST:Hid (∀ (W:World) (vps:Value) (room:Int),room=r.measure-widS f (piecesF ws r.hyphen (gpl (places ws) i) (gpl (places ws) j))-(if i=0 then r.indent else 0)→(∃ hd,PSt W w.heap.size (piecesF ws r.hyphen (gpl (places ws) i) (gpl (places ws) j)) vps hd)→Below w.heap.size w W→LinePost w f r ws i j (.returned (.agg (lcs i j vps room (decide (j=(places ws).length-1))))) W):=(show ∀ W vps room,_ from fun W vps room hr hv hb=>⟨vps,by rw [hr];rfl,hv,hb⟩)
   have h7:=HL.out.p7.cell 0
   have h7l:=HL.out.p7.lt
   have HA1:=Lib.hid (HA.out.step HL.out.B)
   clear HT HR2 HLA HB0 H60 HQ HPL
   clear HR
   generalize gpl (places ws) i=pa at *
   generalize gpl (places ws) j=pq at *
   obtain ⟨cn,hcn⟩:∃ cn,cnt ws pa pq=cn:=⟨_,rfl⟩
   have HCN:=Lib.hid hcn
   have hcle:=cnt_le ws pa pq (by have:=HIA.out;omega)
   rw [hcn] at hcle
   have HCL:Hid (∀ k,k < cn↔(pa.1+k≤pq.1∧pa.1+k < ws.length)):=(show ∀ k,_ from fun k=>by
    have:=HCN.out
    unfold cnt at this
    omega)
   clear hcn
   go_upto_block 0 with fail
   go_cut [10,11,12] (fun _ _ _ wx=>∃ (vo:Value) (hd:List Value),Hid (LB wx w b7 b8 b9 pa pq (lcs i j vo r.measure (decide (j=(places ws).length-1))))∧Hid (PSt wx (b9+1) (rawP ws pa pq cn) vo hd))
   case first=>
    go_wp2_with fail
    go_loopg [10,11,12] cn (fun gg s10 _ _ wr=>∃ (k:Nat) (vo:Value) (hd:List Value),k≤cn∧cn-k≤gg∧s10=.int .i64 ((pa.1+k:Nat):Int)∧Hid (LB wr w b7 b8 b9 pa pq (lcs i j vo r.measure (decide (j=(places ws).length-1))))∧Hid (PSt wr (b9+1) (rawP ws pa pq k) vo hd))
    case atStart=>exact ⟨0,.slice none 0 0,[],by omega,by omega,rfl,HL.out,PSt.nil _ _⟩
    case round=>
     obtain ⟨k,vo,hd,hk,hg,rfl,HB,HP⟩:=hrel
     have PW:=HA.out.step HB.out.B
     have c11:=PW.P.cell 11
     have c12:=PW.P.cell 12
     have hpw:=PW.P.lt
     have k7:=HB.out.p7.cell 0
     have k71:=HB.out.p7.cell 1
     have k7l:=HB.out.p7.lt
     have k8:=HB.out.p8.cell 0
     have k81:=HB.out.p8.cell 1
     have k8l:=HB.out.p8.lt
     have hkc:=HCL.out k
     by_cases hlt:k < cn
     · obtain ⟨hl1,hl2⟩:=hkc.1 hlt
       obtain ⟨wb,wo,A1,c1,A2,c2,rfl,hwb,u0,-,i1,-,-,-,l1,l2⟩:=HA.out.V.at (k:=pa.1+k) hl2
       have HWK:=Lib.hid (HOK.out.wo (pa.1+k) hl2)
       have HCE:=Lib.hid (HIB.out.cutE (pa.1+k) hl2)
       obtain ⟨Az,sb,so,cz,he,hA,hz,-,-⟩:=i1.open
       injection he with he he1 he2
       obtain ⟨rfl,hsb⟩:=hA HWK.out.some
       subst he he2
       have HZ:=Lib.hid hz
       have hsm:=HWK.out.most
       have HCB0:Hid (cutB pa (pa.1+k)=if pa.1+k=pa.1 then pa.2 else 0):=rfl
       have HCE0:Hid (cutE ws pq (pa.1+k)=if pa.1+k=pq.1 then pq.2 else (gw ws (pa.1+k)).sorts.length):=rfl
       have HRS:Hid (rawP ws pa pq (k+1)=if cutB pa (pa.1+k) < cutE ws pq (pa.1+k) then rawP ws pa pq k++[cutW ws pa pq (pa.1+k)] else rawP ws pa pq k):=rfl
       have HCW:Hid (cutW ws pa pq (pa.1+k)=(((gw ws (pa.1+k)).sorts.take (cutE ws pq (pa.1+k))).drop (cutB pa (pa.1+k)))):=rfl
       have HCWL:Hid ((cutW ws pa pq (pa.1+k)).length=cutE ws pq (pa.1+k)-cutB pa (pa.1+k)):=cutW_len HCE.out
       generalize hmm:pa.1+k=m at *
       clear i1 hA hz PW hkc
       generalize hsl:(gw ws m).sorts.length=sl at *
       have hwb0:wb < w.heap.size:=hwb
       have hsb0:sb < w.heap.size:=hsb
       have hBz:=HB.out.B.size
       have HU0:=Lib.hid u0
       have u0:=(HB.out.B.cell (p:=⟨wb,wo+m*2,none⟩) hwb).trans HU0.out
       have hwb:wb < wr.heap.size:=by omega
       have hsb:sb < wr.heap.size:=by omega
       have hl1z:(m:Int)≤(pq.1:Int):=by omega
       have hl2z:(m:Int) < (ws.length:Int):=by omega
       have HKM:=Lib.hid hmm
       clear hmm
       go_wp2_with fail
       go_quiet (fail)
       have HB2:=Lib.hid (HB.out.below (below_drewN _ nq))
       have HP2:=Lib.hid (HP.out.below (below_drewN _ nq))
       have hw2:b7 < (wr.drewN nq).heap.size∧b8 < (wr.drewN nq).heap.size:=⟨HB2.out.p7.lt,HB2.out.p8.lt⟩
       have HBD:Hid (Below wr.heap.size wr (wr.drewN nq)):=below_drewN _ nq
       generalize wr.drewN nq=wr2 at *
       have k7:=HB2.out.p7.cell 0
       have k71:=HB2.out.p7.cell 1
       have k8:=HB2.out.p8.cell 0
       have k81:=HB2.out.p8.cell 1
       obtain ⟨k7l,k8l⟩:=hw2
       go_upto_if 71 with fail
       go_cut [11] (fun s11 wx=>wx=wr2∧s11=.int .i64 (cutB pa m))
       case first=>
        by_cases hq:m=pa.1
        · have hqz:(m:Int)=(pa.1:Int):=by omega
          have HF:Hid (cutB pa m=pa.2):=by show _=_;rw [HCB0.out,if_pos hq]
          go_wp2_with fail
          go_meet
          exact ⟨rfl,by rw [HF.out] <;> rfl⟩
        · have hqz:¬(m:Int)=(pa.1:Int):=by omega
          have HF:Hid (cutB pa m=0):=by show _=_;rw [HCB0.out,if_neg hq]
          go_wp2_with fail
          go_meet
          exact ⟨rfl,by rw [HF.out] <;> rfl⟩
       case rest=>
        obtain ⟨rfl,rfl⟩:=hcut
        go_upto_if 77 with fail
        go_cut [12] (fun s12 wx=>wx=wc∧s12=.int .i64 (cutE ws pq m))
        case first=>
         by_cases hq:m=pq.1
         · have hqz:(m:Int)=(pq.1:Int):=by omega
           have HF:Hid (cutE ws pq m=pq.2):=by show _=_;rw [HCE0.out,if_pos hq]
           go_wp2_with fail
           go_meet
           exact ⟨rfl,by rw [HF.out] <;> rfl⟩
         · have hqz:¬(m:Int)=(pq.1:Int):=by omega
           have HF:Hid (cutE ws pq m=sl):=by show _=_;rw [HCE0.out,if_neg hq]
           go_wp2_with fail
           go_meet
           exact ⟨rfl,by rw [HF.out] <;> rfl⟩
        case rest=>
         obtain ⟨hwc,rfl⟩:=hcut
         subst hwc
         obtain ⟨Av,cv,rfl⟩:=HP2.out.shape
         generalize hlo:cutB pa m=lo at *
         generalize hhi:cutE ws pq m=hi at *
         have hcem:hi≤sl:=HCE.out
         clear hlo hhi HCE HCB0 HCE0
         by_cases hc:lo < hi
         · have hcz:(lo:Int) < (hi:Int):=by omega
           have HRS1:Hid (rawP ws pa pq (k+1)=rawP ws pa pq k++[cutW ws pa pq m]):=by show _=_;rw [HRS.out,if_pos hc]
           clear HRS
           have HCLN:Hid (∀ W,Below w.heap.size w W→Calls Tryz.prog 104 #[.slice (some ⟨sb,so+lo,none⟩) (hi-lo) (c1-lo)] W (CloPost W (cutW ws pa pq m))):=(show ∀ W,_ from fun W h1=>by
            have h2:=cloneI_any (cutW ws pa pq m) (some ⟨sb,so+lo,none⟩) sb (so+lo) (c1-lo) W (fun _=>⟨rfl,by have:=h1.size;omega⟩) (fun q hq=>by
             have hq2:q < hi-lo:=HCWL.out ▸ hq
             have h3:=(HZ.out.below h1 hsb0) (lo+q) (by omega)
             rw [show so+lo+q=so+(lo+q) by omega,h3,HCW.out,gz_cut (by omega)]) (by rw [HCWL.out];omega)
            rwa [HCWL.out] at h2)
           have HSS:Hid (∀ W,Below w.heap.size w W→Blk W b9 155 (lcs i j (.slice Av (rawP ws pa pq k).length cv) r.measure (decide (j=(places ws).length-1)))→(W.cell? ⟨b9,2,none⟩=some (.slice Av (rawP ws pa pq k).length cv)∧W.cell? ⟨pb,11,none⟩=some (.slice (some ⟨wb,wo,none⟩) ws.length cw)∧W.cell? ⟨wb,wo+m*2,none⟩=some (.slice (some ⟨sb,so,none⟩) sl c1))):=(show ∀ W,_ from fun W h1 hb=>by
            exact ⟨hb.cell 2,(HA.out.P.below h1 HA.out.P.lt).cell 11,(h1.cell (p:=⟨wb,wo+m*2,none⟩) hwb0).trans HU0.out⟩)
           have hS0:=HSS.out wc.drew HB2.out.B.drew HB2.out.p9
           have hi0:(lo:Int)≤(hi:Int):=by omega
           have hic:(hi:Int)≤(c1:Int):=by omega
           have hic2:hi≤c1:=by omega
           have hlo0:lo≤hi:=by omega
           have hcl0:¬c1=lo:=by omega
           obtain ⟨i30,hi30,hz30,hy30,hx30⟩:=info_parts info30
           have HB0D:=Lib.hid (Below.refl wc.heap.size wc).drew
           have HSZ:Hid (b9+1≤wc.heap.size):=by show _≤_;have:=HB2.out.ne;omega
           have hrl:(rawP ws pa pq k).length≤200:=by
            have:=(rawP_len60 HOK.out.wo HIB.out (a:=pa) (k:=k) (by omega)).2
            omega
           clear c11 c12 u0 k7 k71 k8 k81
           go_wp2_with fail
           refine wp_region_split (fun W=>(W.cell? ⟨b9,2,none⟩=some (.slice Av (rawP ws pa pq k).length cv)∧W.cell? ⟨pb,11,none⟩=some (.slice (some ⟨wb,wo,none⟩) ws.length cw)∧W.cell? ⟨wb,wo+m*2,none⟩=some (.slice (some ⟨sb,so,none⟩) sl c1))) 15 (by kernel_rfl) (by decide) ?_
           refine wpG_take 15 0 (v:=?_) rfl (by kernel_rfl) (fun _ _ _ h=>h) (Or.inl ⟨by rfl,?_⟩) (by assumption) ?_
           rotate_left
           · intro w hSw;(try dsimp only at hSw);go_simp;(try with_reducible rfl)
           (try simp only [pz])
           refine wpG_take 15 1 (v:=?_) rfl (by kernel_rfl) (fun _ _ _ h=>h) (Or.inl ⟨by rfl,?_⟩) (by assumption) ?_
           rotate_left
           · intro w hSw;(try dsimp only at hSw);go_simp;(try with_reducible rfl)
           (try simp only [pz])
           refine wpG_take 15 2 (v:=?_) rfl (by kernel_rfl) (fun _ _ _ h=>h) (Or.inl ⟨by rfl,?_⟩) (by assumption) ?_
           rotate_left
           · intro w hSw;(try dsimp only at hSw);go_simp;(try with_reducible rfl)
           (try simp only [pz])
           refine wpG_take 15 3 (v:=?_) rfl (by kernel_rfl) (fun _ _ _ h=>h) (Or.inl ⟨by rfl,?_⟩) (by assumption) ?_
           rotate_left
           · intro w hSw;(try dsimp only at hSw);go_simp;(try with_reducible rfl)
           (try simp only [pz])
           refine wpG_take 15 4 (v:=?_) rfl (by kernel_rfl) (fun _ _ _ h=>h) (Or.inl ⟨by rfl,?_⟩) (by assumption) ?_
           rotate_left
           · intro w hSw;(try dsimp only at hSw);go_simp;(try with_reducible rfl)
           (try simp only [pz])
           refine wpG_take 15 5 (v:=?_) rfl (by kernel_rfl) (fun _ _ _ h=>h) (Or.inl ⟨by rfl,?_⟩) (by assumption) ?_
           rotate_left
           · intro w hSw;(try dsimp only at hSw);go_simp;(try with_reducible rfl)
           (try simp only [pz])
           refine wpG_take 15 6 (v:=?_) rfl (by kernel_rfl) (fun _ _ _ h=>h) (Or.inl ⟨by rfl,?_⟩) (by assumption) ?_
           rotate_left
           · intro w hSw;(try dsimp only at hSw);go_simp;(try with_reducible rfl)
           (try simp only [pz])
           refine wpG_take 15 7 (v:=?_) rfl (by kernel_rfl) (fun _ _ _ h=>h) (Or.inl ⟨by rfl,?_⟩) (by assumption) ?_
           rotate_left
           · intro w hSw;(try dsimp only at hSw);go_simp;(try with_reducible rfl)
           (try simp only [pz])
           refine wpG_take 15 8 (v:=?_) rfl (by kernel_rfl) (fun _ _ _ h=>h) (Or.inl ⟨by rfl,?_⟩) (by assumption) ?_
           rotate_left
           · intro w hSw;(try dsimp only at hSw);go_simp;(try with_reducible rfl)
           (try simp only [pz])
           refine wpG_take 15 9 (v:=?_) rfl (by kernel_rfl) (fun _ _ _ h=>h) (Or.inl ⟨by rfl,?_⟩) (by assumption) ?_
           rotate_left
           · intro w hSw;(try dsimp only at hSw);go_simp;(try with_reducible rfl)
           (try simp only [pz])
           refine wpG_take 15 10 (v:=?_) rfl (by kernel_rfl) (fun _ _ _ h=>h) (Or.inl ⟨by rfl,?_⟩) (by assumption) ?_
           rotate_left
           · intro w hSw;(try dsimp only at hSw);go_simp;(try with_reducible rfl)
           (try simp only [pz])
           refine wpG_take 15 11 (v:=?_) rfl (by kernel_rfl) (fun _ _ _ h=>h) (Or.inl ⟨by rfl,?_⟩) (by assumption) ?_
           rotate_left
           · intro w hSw;(try dsimp only at hSw);go_simp;(try with_reducible rfl)
           (try simp only [pz])
           refine wpG_take 15 12 (v:=?_) rfl (by kernel_rfl) (fun _ _ _ h=>h) (Or.inl ⟨by rfl,?_⟩) (by assumption) ?_
           rotate_left
           · intro w hSw;(try dsimp only at hSw);go_simp;(try with_reducible rfl)
           (try simp only [pz])
           refine wpG_one (i:=13) (by kernel_rfl) ?_
           refine wpOp_step rfl (fun K hK=>?_)
           go_simp
           go_at_call 104
           (with_reducible refine (HCLN.out _ HB2.out.B.drew).mono ?_)
           rintro e w4 ⟨vx,rfl,hio,hb4'⟩
           (try dsimp only)
           have hb4:Below wc.heap.size wc w4:=HB0D.out.trans hb4'
           obtain ⟨Ax,cx,rfl⟩:=hio.shape
           have HB4:=Lib.hid (HB2.out.below hb4)
           have HIO:=Lib.hid hio
           have n4:=HSS.out w4 HB4.out.B HB4.out.p9
           refine hK _ _ ⟨n4,?_⟩
           clear hK K hS0 hio
           (try simp only [pz])
           refine wpG_one (i:=14) (by kernel_rfl) ?_
           refine wpOp_step rfl (fun K hK=>?_)
           go_simp
           have hbn:=below_new w4 (.cells #[.slice Ax (cutW ws pa pq m).length cx] 34)
           have HB5:=Lib.hid (HB4.out.below hbn)
           have n5:=HSS.out _ HB5.out.B HB5.out.p9
           have HP5:=Lib.hid ((HP2.out.below hb4).below hbn)
           refine hK _ _ ⟨n5,?_⟩
           clear hK K n4
           (try simp only [pz])
           have hnews:∀ j u,[Value.slice Ax (cutW ws pa pq m).length cx][j]?=some u→(w4.alloc (.cells #[.slice Ax (cutW ws pa pq m).length cx] 34)).cell? ((⟨w4.heap.size,0,none⟩:Addr).add j)=some u:=World.news_of_block (w:=w4.alloc (.cells #[.slice Ax (cutW ws pa pq m).length cx] 34)) (heap_alloc_new w4 _)
           have hb9:b9+1≤(w4.alloc (.cells #[.slice Ax (cutW ws pa pq m).length cx] 34)).heap.size:=by have:=HB5.out.ne;omega
           refine ⟨by kernel_rfl,?_⟩
           simp only [List.drop_succ_cons,List.drop_zero]
           go_wp2_with ((at_builtin
                         refine wpList_append_lies _ rfl _ _ 86 (by rfl) (b9+1) 34 i30 _ 1 24 Tryz.underlying86 hi30 hz30 hy30 hx30 rfl (by omega) _ (rawP ws pa pq k).length hd (by rfl) HP5.out.row ⟨w4.heap.size,0,none⟩ 1 1 [.slice Ax (cutW ws pa pq m).length cx] (by rfl) (by rfl) hnews (by simp [Value.oneCell']) (by omega) (by simp only [maxLen];omega) (by omega) hb9 _ rfl ?_
                         intro g6 cap6 w6 hown hgrow hat hlt6
                         have HB6:=Lib.hid (HB5.out.grown hgrow (fun t ht=>by have:=(HP5.out.lt t ht).1;omega))
                         have HP6:=Lib.hid (HP2.out.push HSZ.out hb4 HIO.out hown hgrow)
                         have y2:=HB6.out.p9.cell 2
                         have y2f:=HB6.out.p9.frozen 2
                         have y2l:=HB6.out.p9.lt
                         clear n5 hnews hown hgrow hat))
           have HB7:=Lib.hid (HB6.out.set_ 2 (.slice (some ⟨g6,0,none⟩) ((rawP ws pa pq k).length+1) cap6))
           have HP7:=Lib.hid (HP6.out.set_ (a:=⟨b9,2,none⟩) (by show b9 < b9+1;omega) (.slice (some ⟨g6,0,none⟩) ((rawP ws pa pq k).length+1) cap6))
           go_roundg (cn-(k+1))
           case measure=>omega
           case rel=>exact ⟨k+1,_,_,by omega,by omega,by have:=HKM.out;go_num,HB7.out,by rw [HRS1.out];exact HP7.out⟩
         · have hcz:¬(lo:Int) < (hi:Int):=by omega
           have HRS1:Hid (rawP ws pa pq (k+1)=rawP ws pa pq k):=by show _=_;rw [HRS.out,if_neg hc]
           clear HRS
           go_wp2_with fail
           go_roundg (cn-(k+1))
           case measure=>omega
           case rel=>exact ⟨k+1,_,_,by omega,by omega,by have:=HKM.out;go_num,HB2.out,by rw [HRS1.out];exact HP2.out⟩
     · have hke:k=cn:=by omega
       subst hke
       by_cases hA:pa.1+k≤pq.1
       · have h2:¬pa.1+k < ws.length:=fun h=>hlt (hkc.2 ⟨hA,h⟩)
         clear hkc
         generalize pa.1+k=m at *
         have hl1z:(m:Int)≤(pq.1:Int):=by omega
         have hl2z:¬(m:Int) < (ws.length:Int):=by omega
         go_wp2_with fail
         go_meet
         exact ⟨vo,hd,HB.out,HP.out⟩
       · clear hkc
         generalize pa.1+k=m at *
         have hl1z:¬(m:Int)≤(pq.1:Int):=by omega
         go_wp2_with fail
         go_meet
         exact ⟨vo,hd,HB.out,HP.out⟩
   case rest=>
    obtain ⟨vo,hd,HL,HP⟩:=hcut
    have HDC:=Lib.hid (divides_any f v r ws _ _ pb j wc (HA.out.step HL.out.B) hm hj)
    rw [HDVB.out] at HDC
    have HPC:Hid (piecesF ws r.hyphen pa pq=if 0 < pq.2 then hyph r.hyphen (rawP ws pa pq cn) else rawP ws pa pq cn):=by show _=_;rw [←HCN.out];rfl
    rw [HCN.out] at HPR
    obtain ⟨Av,cv,rfl⟩:=HP.out.shape
    have z9:=HL.out.p9.cell 2
    have z9l:=HL.out.p9.lt
    go_upto_if 102 with ((go_at_call 142;(with_reducible refine HDC.out.mono ?_);rintro e w' ⟨rfl,hw'⟩;have hw'':=hw'.symm;subst hw''))
    go_cut [13] (fun _ wx=>∃ (vo:Value) (hd:List Value),Hid (LB wx w b7 b8 b9 pa pq (lcs i j vo r.measure (decide (j=(places ws).length-1))))∧Hid (PSt wx (b9+1) (piecesF ws r.hyphen pa pq) vo hd))
    case first=>
     by_cases hd0:0 < pq.2
     · have HPC2:Hid (piecesF ws r.hyphen pa pq=hyph r.hyphen (rawP ws pa pq cn)):=by show _=_;rw [HPC.out,if_pos hd0]
       obtain ⟨q,hq⟩:∃ q,(rawP ws pa pq cn).length=q+1:=⟨(rawP ws pa pq cn).length-1,by have:=HPR.out;omega⟩
       obtain ⟨g,Al,ll,cl,rfl,hg1,hg2,zl,zlf,hll,hil,hvl,hgne⟩:=HP.out.lastq hq
       have hlm:ll≤12000:=by
        have h1:=(rawP_len60 HOK.out.wo HIB.out (a:=pa) (k:=cn) (by omega)).1
        have h2:=gl_len_le (ls:=rawP ws pa pq cn) (i:=q) (by omega)
        unfold lenS at h1
        omega
       have HVL:=Lib.hid hvl
       have HIL:=Lib.hid hil
       have HLL:=Lib.hid hll
       have HGNE:=Lib.hid hgne
       have HNN:=Lib.hid hq
       clear hvl hil hll hgne
       rw [hq] at z9 HP HL
       clear hq
       have hqq:(q:Int) < (q:Int)+1:=by omega
       have hqm:q+1≤200:=by
        have:=(rawP_len60 HOK.out.wo HIB.out (a:=pa) (k:=cn) (by omega)).2
        rw [HNN.out] at this
        omega
       go_wp2_with fail
       have hPc:=HA.out.P.below HL.out.B HA.out.P.lt
       have hS0:(wc.drew.cell? ⟨b9,2,none⟩=some (.slice (some ⟨g,0,none⟩) (q+1) cv)∧wc.drew.cell? ⟨g,q,none⟩=some (.slice Al ll cl)∧wc.drew.cell? ⟨pb,8,none⟩=some (.int .i64 r.hyphen)):=⟨z9,zl,hPc.cell 8⟩
       obtain ⟨i3,hi3,hz3,hy3,hx3⟩:=info_parts info3
       have hPl:=hPc.lt
       clear hPc
       refine wp_region_split (fun W=>(W.cell? ⟨b9,2,none⟩=some (.slice (some ⟨g,0,none⟩) (q+1) cv)∧W.cell? ⟨g,q,none⟩=some (.slice Al ll cl)∧W.cell? ⟨pb,8,none⟩=some (.int .i64 r.hyphen))) 15 (by kernel_rfl) (by decide) ?_
       refine wpG_take 15 0 (v:=?_) rfl (by kernel_rfl) (fun _ _ _ h=>h) (Or.inl ⟨by rfl,?_⟩) (by assumption) ?_
       rotate_left
       · intro w hSw;(try dsimp only at hSw);go_simp;(try with_reducible rfl)
       (try simp only [pz])
       refine wpG_take 15 1 (v:=?_) rfl (by kernel_rfl) (fun _ _ _ h=>h) (Or.inl ⟨by rfl,?_⟩) (by assumption) ?_
       rotate_left
       · intro w hSw;(try dsimp only at hSw);go_simp;(try with_reducible rfl)
       (try simp only [pz])
       refine wpG_take 15 2 (v:=?_) rfl (by kernel_rfl) (fun _ _ _ h=>h) (Or.inl ⟨by rfl,?_⟩) (by assumption) ?_
       rotate_left
       · intro w hSw;(try dsimp only at hSw);go_simp;(try with_reducible rfl)
       (try simp only [pz])
       refine wpG_take 15 3 (v:=?_) rfl (by kernel_rfl) (fun _ _ _ h=>h) (Or.inl ⟨by rfl,?_⟩) (by assumption) ?_
       rotate_left
       · intro w hSw;(try dsimp only at hSw);go_simp;(try with_reducible rfl)
       (try simp only [pz])
       refine wpG_take 15 4 (v:=?_) rfl (by kernel_rfl) (fun _ _ _ h=>h) (Or.inl ⟨by rfl,?_⟩) (by assumption) ?_
       rotate_left
       · intro w hSw;(try dsimp only at hSw);go_simp;(try with_reducible rfl)
       (try simp only [pz])
       refine wpG_take 15 5 (v:=?_) rfl (by kernel_rfl) (fun _ _ _ h=>h) (Or.inl ⟨by rfl,?_⟩) (by assumption) ?_
       rotate_left
       · intro w hSw;(try dsimp only at hSw);go_simp;(try with_reducible rfl)
       (try simp only [pz])
       refine wpG_take 15 6 (v:=?_) rfl (by kernel_rfl) (fun _ _ _ h=>h) (Or.inl ⟨by rfl,?_⟩) (by assumption) ?_
       rotate_left
       · intro w hSw;(try dsimp only at hSw);go_simp;(try with_reducible rfl)
       (try simp only [pz])
       refine wpG_take 15 7 (v:=?_) rfl (by kernel_rfl) (fun _ _ _ h=>h) (Or.inl ⟨by rfl,?_⟩) (by assumption) ?_
       rotate_left
       · intro w hSw;(try dsimp only at hSw);go_simp;(try with_reducible rfl)
       (try simp only [pz])
       refine wpG_take 15 8 (v:=?_) rfl (by kernel_rfl) (fun _ _ _ h=>h) (Or.inl ⟨by rfl,?_⟩) (by assumption) ?_
       rotate_left
       · intro w hSw;(try dsimp only at hSw);go_simp;(try with_reducible rfl)
       (try simp only [pz])
       refine wpG_take 15 9 (v:=?_) rfl (by kernel_rfl) (fun _ _ _ h=>h) (Or.inl ⟨by rfl,?_⟩) (by assumption) ?_
       rotate_left
       · intro w hSw;(try dsimp only at hSw);go_simp;(try with_reducible rfl)
       (try simp only [pz])
       refine wpG_take 15 10 (v:=?_) rfl (by kernel_rfl) (fun _ _ _ h=>h) (Or.inl ⟨by rfl,?_⟩) (by assumption) ?_
       rotate_left
       · intro w hSw;(try dsimp only at hSw);go_simp;(try with_reducible rfl)
       (try simp only [pz])
       refine wpG_take 15 11 (v:=?_) rfl (by kernel_rfl) (fun _ _ _ h=>h) (Or.inl ⟨by rfl,?_⟩) (by assumption) ?_
       rotate_left
       · intro w hSw;(try dsimp only at hSw);go_simp;(try with_reducible rfl)
       (try simp only [pz])
       refine wpG_take 15 12 (v:=?_) rfl (by kernel_rfl) (fun _ _ _ h=>h) (Or.inl ⟨by rfl,?_⟩) (by assumption) ?_
       rotate_left
       · intro w hSw;(try dsimp only at hSw);go_simp;(try with_reducible rfl)
       (try simp only [pz])
       refine wpG_one (i:=13) (by kernel_rfl) ?_
       refine wpOp_step rfl (fun K hK=>?_)
       go_simp
       have hbn:=(below_new wc (.cells #[.int .i64 r.hyphen] 3))
       have hbn0:Below wc.heap.size wc ((wc.alloc (.cells #[.int .i64 r.hyphen] 3)).drew):=hbn.drew
       have HB5:=Lib.hid (HL.out.below hbn0)
       have HP5:=Lib.hid (HP.out.below hbn0)
       have n5:(((wc.alloc (.cells #[.int .i64 r.hyphen] 3)).drew).cell? ⟨b9,2,none⟩=some (.slice (some ⟨g,0,none⟩) (q+1) cv)∧((wc.alloc (.cells #[.int .i64 r.hyphen] 3)).drew).cell? ⟨g,q,none⟩=some (.slice Al ll cl)∧((wc.alloc (.cells #[.int .i64 r.hyphen] 3)).drew).cell? ⟨pb,8,none⟩=some (.int .i64 r.hyphen)):=by
        have k5:=hbn0.cell (p:=⟨g,q,none⟩) hg2
        exact ⟨HB5.out.p9.cell 2,k5.trans zl,(HA.out.P.below HB5.out.B HA.out.P.lt).cell 8⟩
       refine hK _ _ ⟨n5,?_⟩
       clear hK K hS0
       (try simp only [pz])
       have hnews:∀ j u,[Value.int .i64 r.hyphen][j]?=some u→((wc.alloc (.cells #[.int .i64 r.hyphen] 3)).drew).cell? ((⟨wc.heap.size,0,none⟩:Addr).add j)=some u:=World.news_of_block (w:=(wc.alloc (.cells #[.int .i64 r.hyphen] 3)).drew) (heap_alloc_new wc _)
       have hb9:b9+1≤((wc.alloc (.cells #[.int .i64 r.hyphen] 3)).drew).heap.size:=by have:=HB5.out.ne;omega
       have HSZ:Hid (b9+1≤wc.heap.size):=by show _≤_;have:=HL.out.ne;omega
       have HIL5:=Lib.hid (World.ownsRow.kept HIL.out (grown_of_below hbn0 none) (Classical.em _))
       clear hbn n5
       generalize (wc.alloc (.cells #[.int .i64 r.hyphen] 3)).drew=W15 at *
       generalize hwz:wc.heap.size=tb at *
       refine wpG_one (i:=14) (by kernel_rfl) ?_
       refine wpOp_step rfl (fun K hK=>?_)
       refine step_append_lies _ (by rfl) _ _ _ (by rfl) (b9+1) 3 i3 _ 1 8 Tryz.underlying34 hi3 hz3 hy3 hx3 rfl (by omega) (.slice Al ll cl) ll (zv (gl (rawP ws pa pq cn) q)) (by rfl) HIL5.out ⟨tb,0,none⟩ 1 1 [.int .i64 r.hyphen] (by rfl) (by rfl) hnews (by simp [Value.oneCell']) (by omega) (by simp only [maxLen];omega) (by omega) hb9 _ rfl ?_
       intro g6 cap6 w6 hown hgrow hat hlt6
       have HB6:=Lib.hid (HB5.out.grown hgrow (fun t ht=>by have:=(HIL.out.lt t ht).1;omega))
       have HP6:=Lib.hid (PSt.hyphq (cap6:=cap6) HP.out HNN.out (by have:=HSZ.out;omega) HVL.out HLL.out (by rw [hwz];exact hbn0) hown hgrow hat)
       have y2:=(hgrow.cell_far ⟨g,q,none⟩ (by show g < _;have:=hbn0.size;omega) HGNE.out).trans ((hbn0.cell (p:=⟨g,q,none⟩) hg2).trans zl)
       have y2f:=(hgrow.frozen_far ⟨g,q,none⟩ (by show g < _;have:=hbn0.size;omega) HGNE.out).trans ((hbn0.frozen (p:=⟨g,q,none⟩) hg2).trans zlf)
       have y2l:g < w6.heap.size:=by have:=hgrow.size;have:=hbn0.size;omega
       have n6:(w6.cell? ⟨b9,2,none⟩=some (.slice (some ⟨g,0,none⟩) (q+1) cv)∧w6.cell? ⟨g,q,none⟩=some (.slice Al ll cl)∧w6.cell? ⟨pb,8,none⟩=some (.int .i64 r.hyphen)):=⟨HB6.out.p9.cell 2,y2,(HA.out.P.below HB6.out.B HA.out.P.lt).cell 8⟩
       refine hK _ _ ⟨n6,?_⟩
       clear hK K hnews hown hgrow hat n6
       (try simp only [pz])
       refine ⟨by kernel_rfl,?_⟩
       simp only [List.drop_succ_cons,List.drop_zero]
       go_wp2_with fail
       go_meet
       exact ⟨_,_,HB6.out.far (by omega) _,by rw [HPC2.out];exact HP6.out⟩
     · have HPC2:Hid (piecesF ws r.hyphen pa pq=rawP ws pa pq cn):=by show _=_;rw [HPC.out,if_neg hd0]
       go_wp2_with fail
       go_meet
       exact ⟨_,_,HL.out,by rw [HPC2.out];exact HP.out⟩
    case rest=>
     obtain ⟨vo,hd,HL,HP⟩:=hcut
     have HPM:Hid (∀ s,s ∈ (piecesF ws r.hyphen pa pq).flatten→0≤s∧s < f.sorts.length):=(show ∀ s,_ from fun s hs=>pieces_mem HOK.out.wo HOK.out.ru.hy (by omega) (by rw [HCN.out];exact HPR.out) hs)
     have hpl:=pieces_len60 HOK.out.wo (hy:=r.hyphen) (a:=pa) (by omega) HIB.out (by rw [HCN.out];exact HPR.out)
     have HCC:=Lib.hid (concat_any (piecesF ws r.hyphen pa pq) vo wc HP.out.lv (by omega) (by omega))
     have HFN:=Lib.hid HOK.out.fn
     have HRU:=Lib.hid HOK.out.ru
     have hns:=few_sorts HOK.out.fn
     obtain ⟨Av,cv,rfl⟩:=HP.out.shape
     have z9:=HL.out.p9.cell 2
     have z9l:=HL.out.p9.lt
     have HWS:Hid (∀ room:Int,room=r.measure-widL f (piecesF ws r.hyphen pa pq).flatten-(if i=0 then r.indent else 0)→room=r.measure-widS f (piecesF ws r.hyphen pa pq)-(if i=0 then r.indent else 0)):=(show ∀ room,_ from fun room h=>h)
     obtain ⟨fl,hfl⟩:∃ fl,(piecesF ws r.hyphen pa pq).flatten=fl:=⟨_,rfl⟩
     rw [hfl] at hpl HPM HCC HWS
     clear hfl
     generalize hnp:(piecesF ws r.hyphen pa pq).length=np at *
     obtain ⟨T,hT⟩:∃ T,fl.length=T:=⟨_,rfl⟩
     have HTT:=Lib.hid hT
     rw [hT] at hpl
     have HWK:Hid (∀ k,k≤T→0≤widL f (fl.take k)∧widL f (fl.take k)≤k*100000):=(show ∀ k,_ from fun k hk=>by
      have h1:=widL_bound HFN.out (zs:=fl.take k) (fun s hs=>HPM.out s (List.mem_of_mem_take hs))
      rw [List.length_take] at h1
      omega)
     have HWS1:Hid (∀ k,k < T→widL f (fl.take (k+1))=widL f (fl.take k)+wd f (gz fl k)):=(show ∀ k,_ from fun k hk=>widL_take (by omega))
     have HWE:Hid (widL f (fl.take T)=widL f fl):=by show _=_;rw [←HTT.out,List.take_length]
     have HSG:Hid (∀ k,k < T→0≤gz fl k∧gz fl k < f.sorts.length):=(show ∀ k,_ from fun k hk=>HPM.out _ (gz_mem (by omega)))
     clear hT
     go_wp2_with ((go_at_call 164;(with_reducible refine HCC.out.mono ?_);rintro e w2 ⟨vc,rfl,hio,hb2⟩;obtain ⟨Ac,cc,rfl⟩:=hio.shape;rw [HTT.out]))
     have HL2:=Lib.hid (HL.out.below hb2)
     have HP2:=Lib.hid (HP.out.below hb2)
     have HSZ:Hid (b9+1≤wc.heap.size):=by show _≤_;have:=HL.out.ne;omega
     have HIO:Hid (w2.ownsRow (b9+1) 3 1 (.slice Ac T cc) T (zv fl)):=by
      have:=World.ownsRow.mono (show w2.ownsRow _ 3 1 _ _ _ from hio) HSZ.out
      rwa [HTT.out] at this
     have HW0:Hid (r.measure-widL f (fl.take 0)=r.measure):=by show _=_;simp [widL]
     have hme:=HRU.out.me
     have hin:=HRU.out.ind
     clear hb2 hio z9 z9l HL HP HCC
     generalize hEE:decide (j=(places ws).length-1)=EE at *
     clear hEE
     go_wp2_with fail
     go_loopg [127,15] T (fun gg s127 _ wr=>∃ k:Nat,k≤T∧T-k≤gg∧s127=.int .i64 (k:Int)∧Hid (LB wr w b7 b8 b9 pa pq (lcs i j (.slice Av np cv) (r.measure-widL f (fl.take k)) EE))∧Hid (PSt wr (b9+1) (piecesF ws r.hyphen pa pq) (.slice Av np cv) hd)∧Hid (wr.ownsRow (b9+1) 3 1 (.slice Ac T cc) T (zv fl)))
     case atStart=>exact ⟨0,by omega,by omega,rfl,by rw [HW0.out];exact HL2.out,HP2.out,HIO.out⟩
     case round=>
      obtain ⟨k,hk,hg,rfl,HB,HP,HR⟩:=hrel
      have hwk:=HWK.out k hk
      have x3:=HB.out.p9.cell 3
      have x3l:=HB.out.p9.lt
      have x3f:=HB.out.p9.frozen 3
      by_cases hlt:k < T
      · have hltz:(k:Int) < (T:Int):=by omega
        have J:IV wr fl (.slice Ac fl.length cc):=IO.iv (B:=b9+1) (by show wr.ownsRow _ _ _ _ _ _;rw [HTT.out];exact HR.out)
        obtain ⟨sb,so,rfl,hsb,u0⟩:=J.at (k:=k) (by rw [HTT.out];exact hlt)
        have PW:=HA.out.step HB.out.B
        have hsg:=HSG.out k hlt
        obtain ⟨tb,tf,tc,rfl,htb,t3⟩:=PW.S.width hsg
        have p2:=PW.P.cell 2
        have p2l:=PW.P.lt
        have HWSk:=Lib.hid (HWS1.out k hlt)
        have hwk1:=HWK.out (k+1) (by omega)
        rw [HWSk.out] at hwk1
        clear J PW
        generalize gz fl k=s at *
        generalize wd f s=wx at *
        generalize hwl:widL f (fl.take k)=wl at *
        clear hwl
        obtain ⟨n,rfl⟩:∃ n:Nat,s=(n:Int):=⟨s.toNat,by omega⟩
        rw [Int.toNat_natCast] at t3
        have hnn:(n:Int) < (f.sorts.length:Int):=hsg.2
        clear hsg
        go_wp2_with fail
        go_still_tail 12,(by kernel_rfl)
        change wpList _ _ _ _ _ wr.drew
        have HB2:=Lib.hid (HB.out.below (Below.refl _ _).drew)
        have HP2:=Lib.hid (HP.out.below (Below.refl _ _).drew)
        have HR2:Hid (wr.drew.ownsRow (b9+1) 3 1 (.slice (some ⟨sb,so,none⟩) T cc) T (zv fl)):=HR.out.drew
        have x3:=HB2.out.p9.cell 3
        have x3l:=HB2.out.p9.lt
        have x3f:=HB2.out.p9.frozen 3
        generalize wr.drew=w7 at *
        have HE:Hid (r.measure-(wl+wx)=r.measure-wl-wx):=by show _=_;omega
        go_wp2_with fail
        have HB3:=Lib.hid (HB2.out.set_ 3 (.int .i64 (r.measure-wl-wx)))
        have HP3:=Lib.hid (HP2.out.set_ (a:=⟨b9,3,none⟩) (by show b9 < b9+1;omega) (.int .i64 (r.measure-wl-wx)))
        have HR3:Hid ((w7.setCell ⟨b9,3,none⟩ (.int .i64 (r.measure-wl-wx))).ownsRow (b9+1) 3 1 (.slice (some ⟨sb,so,none⟩) T cc) T (zv fl)):=ownsRow_setCell_below HR2.out (by show b9 < b9+1;omega) _
        go_roundg (T-(k+1))
        case measure=>omega
        case rel=>exact ⟨k+1,by omega,by omega,by go_num,by rw [HWSk.out,HE.out];exact HB3.out,HP3.out,HR3.out⟩
      · have hltz:¬(k:Int) < (T:Int):=by omega
        have hke:k=T:=by omega
        subst hke
        clear hltz hlt
        have PW:=HA.out.step HB.out.B
        have p4:=PW.P.cell 4
        have p4l:=PW.P.lt
        have hbn:=HB.out.ne
        have x60:=HB.out.p6.cell 0
        have x61:=HB.out.p6.cell 1
        have x62:=HB.out.p6.cell 2
        have x63:=HB.out.p6.cell 3
        have x64:=HB.out.p6.cell 4
        have f60:=HB.out.p6.frozen 0
        have f61:=HB.out.p6.frozen 1
        have f62:=HB.out.p6.frozen 2
        have f63:=HB.out.p6.frozen 3
        have f64:=HB.out.p6.frozen 4
        have x90:=HB.out.p9.cell 0
        have x91:=HB.out.p9.cell 1
        have x92:=HB.out.p9.cell 2
        have x94:=HB.out.p9.cell 4
        have x6l:=HB.out.p6.lt
        have HLV:=Lib.hid HP.out.lv
        generalize hwl:widL f (fl.take k)=wl at *
        clear hwl
        by_cases hi0:i=0
        · have hiz:(i:Int)=0:=by omega
          have HPO2:Hid (∀ (W:World) (vps:Value) (room:Int),room=r.measure-widS f (piecesF ws r.hyphen pa pq)-(if i=0 then r.indent else 0)→(∃ hd,PSt W w.heap.size (piecesF ws r.hyphen pa pq) vps hd)→Below w.heap.size w W→LinePost w f r ws i j (.returned (.agg (lcs 0 j vps room EE))) W):=(show ∀ W vps room,_ from fun W vps room a b c=>by rw [←hiz];exact HPOST.out W vps room a b c)
          have HFIN:Hid (r.measure-wl-r.indent=r.measure-widL f fl-(if i=0 then r.indent else 0)):=by show _=_;rw [if_pos hi0,HWE.out]
          clear hi0
          go_wp2_with fail
          go_still_tail 8,(by kernel_rfl)
          change wpList _ _ _ _ _ wr.drew
          have HB2:=Lib.hid (HB.out.below (Below.refl _ _).drew)
          have HP2:=Lib.hid (HP.out.below (Below.refl _ _).drew)
          have y3:=HB2.out.p9.cell 3
          have y3f:=HB2.out.p9.frozen 3
          have y3l:=HB2.out.p9.lt
          have HB3:=Lib.hid (HB2.out.set_ 3 (.int .i64 (r.measure-wl-r.indent)))
          have HP3:=Lib.hid (HP2.out.set_ (a:=⟨b9,3,none⟩) (by show b9 < b9+1;omega) (.int .i64 (r.measure-wl-r.indent)))
          clear x60 x61 x62 x63 x64 f60 f61 f62 f63 f64 x90 x91 x92 x94 x6l x3 x3l x3f
          generalize wr.drew=w7 at *
          go_upto_region 23 with fail
          generalize w7.setCell ⟨b9,3,none⟩ (.int .i64 (r.measure-wl-r.indent))=w8 at *
          have x60:=HB3.out.p6.cell 0
          have x61:=HB3.out.p6.cell 1
          have x62:=HB3.out.p6.cell 2
          have x63:=HB3.out.p6.cell 3
          have x64:=HB3.out.p6.cell 4
          have f60:=HB3.out.p6.frozen 0
          have f61:=HB3.out.p6.frozen 1
          have f62:=HB3.out.p6.frozen 2
          have f63:=HB3.out.p6.frozen 3
          have f64:=HB3.out.p6.frozen 4
          have x90:=HB3.out.p9.cell 0
          have x91:=HB3.out.p9.cell 1
          have x92:=HB3.out.p9.cell 2
          have x93:=HB3.out.p9.cell 3
          have x94:=HB3.out.p9.cell 4
          have x6l:=HB3.out.p6.lt
          have x9l:=HB3.out.p9.lt
          go_wp2_with fail
          have E5:=Lib.hid (setL5 HB3.out.p6 (.int .i64 0) (.int .i64 j) (.slice Av np cv) (.int .i64 (r.measure-wl-r.indent)) (.bool EE))
          have E6:=Lib.hid (LB.set6 (B:=0) HB3.out HP3.out (.int .i64 0) (.int .i64 j) (.slice Av np cv) (.int .i64 (r.measure-wl-r.indent)) (.bool EE))
          refine bodyPost_ret (v:=.agg (lcs 0 j (.slice Av np cv) (r.measure-wl-r.indent) EE)) (by simp [results,Tryz.results132,go_sem,E5.out.1,E5.out.2.1,E5.out.2.2.1,E5.out.2.2.2.1,E5.out.2.2.2.2]) rfl (HPO2.out _ _ _ (HWS.out _ HFIN.out) E6.out.1 E6.out.2)
        · have hiz:¬(i:Int)=0:=by omega
          have HFIN:Hid (r.measure-wl=r.measure-widL f fl-(if i=0 then r.indent else 0)):=by show _=_;rw [if_neg hi0,HWE.out];omega
          clear hi0
          go_wp2_with fail
          have E5:=Lib.hid (setL5 HB.out.p6 (.int .i64 i) (.int .i64 j) (.slice Av np cv) (.int .i64 (r.measure-wl)) (.bool EE))
          have E6:=Lib.hid (LB.set6 (B:=0) HB.out HP.out (.int .i64 i) (.int .i64 j) (.slice Av np cv) (.int .i64 (r.measure-wl)) (.bool EE))
          refine bodyPost_ret (v:=.agg (lcs i j (.slice Av np cv) (r.measure-wl) EE)) (by simp [results,Tryz.results132,go_sem,E5.out.1,E5.out.2.1,E5.out.2.2.1,E5.out.2.2.2.1,E5.out.2.2.2.2]) rfl (HPOST.out _ _ _ (HWS.out _ HFIN.out) E6.out.1 E6.out.2)
end Go.Proofs.YtbnganlfelgogaaGreat
