/- ways: the best ways to all places. -/
import Derived.Test.YtbnganlfelgogaaGreatVQrd
import Derived.RangeFuncFrom
import Derived.Test.YtbnganlfelgogaaGreatVRvs
set_option linter.unusedSimpArgs false
set_option linter.unusedVariables false
set_option maxRecDepth 100000
set_option maxHeartbeats 40000000
namespace Go.Proofs.YtbnganlfelgogaaGreat
open Go.RowKit Go.Shelf
attribute [local go_sem] Oper.semAt_some
structure WS (W w:World) (ob g n:Nat) (h:Nat→Nat × Int) (Ds:List Nat):Prop where
 B:Below w.heap.size w W
 R:WR W g n h
 O:Blk W ob 179 #[.slice (some ⟨g,0,none⟩) n n]
 nd:Ds.Nodup
 mks:∀ D,D ∈ Ds→w.heap.size≤D∧W.heap[D]?=some (.deferred (some []))
 lo:w.heap.size≤g∧w.heap.size≤ob∧g≠ob
theorem WS.below {W W' w:World} {ob g n:Nat} {h:Nat→Nat × Int} {Ds:List Nat} (s:WS W w ob g n h Ds) (hb:Below W.heap.size W W'):WS W' w ob g n h Ds:=
 ⟨s.B.trans (hb.mono s.B.size),Blk.below s.R hb (Blk.lt s.R),s.O.below hb s.O.lt,s.nd,fun D hD=>⟨(s.mks D hD).1,(hb.block D (Array.getElem?_eq_some_iff.1 (s.mks D hD).2).1).trans (s.mks D hD).2⟩,s.lo⟩
theorem WS.start {w w2:World} {g n:Nat} (hB:Below w.heap.size w w2) (hW:WR w2 g n (fun _=>(ML,-1))) (hg:w.heap.size≤g) (hn:0 < n) (t:Tb) :
 WS ((w2.setCell ⟨g,1,none⟩ (.int .i64 0)).alloc (.cells #[.slice (some ⟨g,0,none⟩) n n] 179)) w w2.heap.size g n (fwd t 0) []:=by
 have h1:=Blk.set_ hW 1 (.int .i64 0)
 have hl:=Blk.lt hW
 have hsz:(w2.setCell ⟨g,1,none⟩ (.int .i64 0)).heap.size=w2.heap.size:=by simp [World.setCell]
 have h2:=below_new (w2.setCell ⟨g,1,none⟩ (.int .i64 0)) (.cells #[.slice (some ⟨g,0,none⟩) n n] 179)
 have h3:=Blk.new (w2.setCell ⟨g,1,none⟩ (.int .i64 0)) 179 #[.slice (some ⟨g,0,none⟩) n n]
 rw [hsz] at h3
 have h4:=hB.setCell (p:=⟨g,1,none⟩) hg (.int .i64 0)
 have e:(wcl (fun _=>(ML,-1)) n).toArray.setIfInBounds 1 (.int .i64 0)=(wcl (fwd t 0) n).toArray:=by
  have hw:=wcl_set (fun _=>(ML,-1)) (0,-1) n 0 hn
  have hg0:=(wcl_get (fun _=>(ML,(-1:Int))) n 0 hn).1
  have hs:(wcl (fun _=>(ML,(-1:Int))) n).set (0*2) (.int .i64 (-1))=wcl (fun _=>(ML,-1)) n:=by
   apply List.ext_getElem?
   intro j
   by_cases hj:j=0*2
   · subst hj
     rw [List.getElem?_set_self (by rw [wcl_len];omega),hg0]
   · rw [List.getElem?_set_ne (fun e=>hj e.symm)]
  rw [hs] at hw
  have h5:wcl (fun i=>if i=0 then ((0:Nat),(-1:Int)) else (ML,-1)) n=wcl (fwd t 0) n:=wcl_congr n (fun j _=>by rw [fwd_start])
  rw [h5] at hw
  simpa using hw
 rw [e] at h1
 exact ⟨h4.trans (h2.mono (by rw [hsz];exact hB.size)),Blk.below h1 h2 (by rw [hsz];exact hl),h3,List.nodup_nil,fun D hD=>(by cases hD),⟨hg,hB.size,by omega⟩⟩
theorem WS.put {W w:World} {ob g n:Nat} {h:Nat→Nat × Int} {Ds:List Nat} (s:WS W w ob g n h Ds) {j:Nat} (hj:j < n) (x:Nat × Int) :
 WS ((W.setCell ⟨g,j*2,none⟩ (.int .i64 x.2)).setCell ⟨g,j*2+1,none⟩ (.int .i64 (x.1:Int))) w ob g n (fun i=>if i=j then x else h i) Ds:=by
 have ho:∀ k,k≠g→((W.setCell ⟨g,j*2,none⟩ (.int .i64 x.2)).setCell ⟨g,j*2+1,none⟩ (.int .i64 (x.1:Int))).heap[k]?=W.heap[k]?:=fun k hk=>(Below.heap_setCell _ _ _ _ hk).trans (Below.heap_setCell _ _ _ _ hk)
 refine ⟨(s.B.setCell (p:=⟨g,j*2,none⟩) s.lo.1 _).setCell (p:=⟨g,j*2+1,none⟩) s.lo.1 _,s.R.put hj x,(ho ob (fun e=>s.lo.2.2 e.symm)).trans s.O,s.nd,fun D hD=>⟨(s.mks D hD).1,(ho D (fun e=>?_)).trans (s.mks D hD).2⟩,s.lo⟩
 have h1:=(s.mks D hD).2
 have h2:W.heap[g]?=_:=s.R
 rw [e,h2] at h1
 cases h1
def WaPost (w:World) (t:Tb) (n:Nat) (e:Ending) (w':World):Prop:=∃ g,e=.returned (.slice (some ⟨g,0,none⟩) n n)∧WR w' g n (fwd t n)∧w.heap.size≤g∧Below w.heap.size w w'
theorem ways_any (f:Fnt) (v:Value) (r:Rls) (ws:List PWord) (vw vp:Value) (pb:Nat) (w:World) (h:PA w pb f v r ws vw vp) (hok:POk f r ws) :
 Calls Tryz.prog 130 #[.pointer (some ⟨pb,0,none⟩)] w (WaPost w (tab f r ws) (places ws).length):=by
 have hm:=hok.m
 have hpos:=places_pos ws
 have HOK:=Lib.hid hok
 have HTB:=Lib.hid (tab_ok hok.ru hm)
 obtain ⟨Ap,cp,rfl,-,-⟩:=h.L.shape
 have HA:=Lib.hid h
 have z12:=h.P.cell 12
 have zl:=h.P.lt
 have hb1:=below_new w (.cells #[.int .i64 (-1),.int .i64 1000000000000000] 182)
 have k1:=Blk.new w 182 #[.int .i64 (-1),.int .i64 1000000000000000]
 have HRP:=Lib.hid (fun n (hn:n≤1000000) W hx hy=>repeatW_any (-1) 1000000000000000 n w.heap.size 0 1 W hx hy hn)
 clear h hok
 generalize hN:(places ws).length=N at *
 have HN:=Lib.hid hN
 clear hN
 refine (callsIn_wide (n:=10)).1 ?_
 refine callsIn_of_wp_marks Tryz.func130 rfl trivial ?_ rfl
 simp only [Tryz.ntmps130,List.size_toArray,List.length_cons,List.length_nil,Nat.reduceAdd,Nat.reduceSub,Array.replicate_succ,Array.replicate_zero,List.push_toArray,List.append_toArray,List.nil_append,List.cons_append]
 refine wpIn_wide.2 ?_
 go_wp2_with fail
 have hx1:=k1.cell 0
 have hy1:=k1.cell 1
 refine (HRP.out N (by omega) _ hx1 hy1).mono ?_
 rintro e w2 ⟨rfl,hrow,hb2⟩
 have hML:((ML:Nat):Int)=1000000000000000:=rfl
 rw [←hML,rp_wcl (-1) ML N] at hrow
 have HB2:=Lib.hid (hb1.trans (hb2.mono (by simp)))
 have HW2:Hid (WR w2 (w.alloc (.cells #[.int .i64 (-1),.int .i64 1000000000000000] 182)).heap.size N (fun _=>(ML,-1))):=hrow
 have hgz:w.heap.size < (w.alloc (.cells #[.int .i64 (-1),.int .i64 1000000000000000] 182)).heap.size:=by simp
 generalize (w.alloc (.cells #[.int .i64 (-1),.int .i64 1000000000000000] 182)).heap.size=g at *
 clear hrow hb2 hx1 hy1 hb1 k1 HRP z12 zl
 have hW2c:=(WR.cells HW2.out (j:=0) hpos)
 have c1:=hW2c.2
 have c1f:=Blk.frozen HW2.out 1
 have c1l:=Blk.lt HW2.out
 clear hW2c
 have hNz:(0:Int) < (N:Int):=by omega
 go_wp2_with fail
 have HS0:Hid (WS ((w2.setCell ⟨g,1,none⟩ (.int .i64 0)).alloc (.cells #[.slice (some ⟨g,0,none⟩) N N] 179)) w w2.heap.size g N (fwd (tab f r ws) 0) []):=WS.start HB2.out HW2.out (by omega) hpos _
 generalize ((w2.setCell ⟨g,1,none⟩ (.int .i64 0)).alloc (.cells #[.slice (some ⟨g,0,none⟩) N N] 179))=W3 at *
 generalize w2.heap.size=ob at *
 clear HW2 HB2 c1 c1f c1l hgz
 refine wp_loop_ghost_k (fun gg a' wr=>∃ (u4 u5 u6 u20 u21 u22 u23 u24 u25 u26 u27 u28 u29 u30 u31 u32 u33 u34 u35 u36 u37 u38 u39 u40 u41 u42 u43 u44 u45 u46 u47 u48 u49 u50 u51 u52 u53 u54 u55 u56:Value) (dl:List Deferred),(∃ (k:Nat) (Ds:List Nat),k≤N∧N-k≤gg∧u20=.int .i64 (k:Int)∧dl=Ds.map mrk∧Hid (WS wr w ob g N (fwd (tab f r ws) k) Ds))∧a'={ tmps:=#[.pointer (some ⟨pb,0,none⟩),undef,.slice none 0 0,.pointer (some ⟨ob,0,none⟩),u4,u5,u6,.agg #[.int .i64 (-1),.int .i64 1000000000000000],.slice (some ⟨w.heap.size,0,none⟩) 1 1,.pointer (some ⟨pb,0,none⟩),.pointer (some ⟨pb,0,none⟩),.pointer (some ⟨pb,12,none⟩),.slice Ap N cp,.int .i64 (N:Int),.slice (some ⟨g,0,none⟩) N N,.slice (some ⟨g,0,none⟩) N N,.pointer (some ⟨g,0,none⟩),.pointer (some ⟨g,1,none⟩),.slice (some ⟨g,0,none⟩) N N,.int .i64 (N:Int),u20,u21,u22,u23,u24,u25,u26,u27,u28,u29,u30,u31,u32,u33,u34,u35,u36,u37,u38,u39,u40,u41,u42,u43,u44,u45,u46,u47,u48,u49,u50,u51,u52,u53,u54,u55,u56,undef],defers:=dl }) N ?_ ?_
 · (repeat apply Exists.intro)
   refine ⟨?_,rfl⟩
   exact ⟨0,[],by omega,by omega,rfl,rfl,HS0.out⟩
 intro gk _ wr hinv
 obtain ⟨u4,u5,u6,u20,u21,u22,u23,u24,u25,u26,u27,u28,u29,u30,u31,u32,u33,u34,u35,u36,u37,u38,u39,u40,u41,u42,u43,u44,u45,u46,u47,u48,u49,u50,u51,u52,u53,u54,u55,u56,dl,hrel,ha⟩:=hinv
 subst ha
 intro _ _ _ _
 obtain ⟨k,Ds,hk,hgk,rfl,rfl,HS⟩:=hrel
 have o0:=HS.out.O.cell 0
 have ol:=HS.out.O.lt
 by_cases hlt:k < N
 · have hltz:(k:Int) < (N:Int):=by omega
   have hwc:=HS.out.R.cells hlt
   have w1:=hwc.1
   have w2':=hwc.2
   have wl:=Blk.lt HS.out.R
   clear hwc
   by_cases hml:(fwd (tab f r ws) k k).1=ML
   · have HF:Hid (fwd (tab f r ws) (k+1)=fwd (tab f r ws) k):=by show _=_;funext j;exact fwd_ml hml j
     have hmz:(((fwd (tab f r ws) k k).1:Nat):Int)=1000000000000000:=by rw [hml];exact hML
     clear hml
     generalize (fwd (tab f r ws) k k).1=dk at *
     go_wp2_with fail
     go_roundg (N-(k+1))
     case measure=>omega
     case rel=>exact ⟨k+1,Ds,by omega,by omega,by go_num,rfl,by rw [HF.out];exact HS.out.below (below_new wr _)⟩
   · have hmlt:(fwd (tab f r ws) k k).1 < ML:=Nat.lt_of_le_of_ne (fwd_le_ML _ _ _) hml
     have hmz:¬(((fwd (tab f r ws) k k).1:Nat):Int)=1000000000000000:=by rw [←hML];omega
     have HMLT:=Lib.hid hmlt
     clear hml hmlt
     go_wp2_with ((go_at_call 113;(with_reducible refine (steps_any _ _ _).mono ?_);rintro e w5 ⟨rfl,rfl⟩))
     have hb3:Below wr.heap.size wr (((wr.alloc (.cells #[.int .i64 (k:Int)] 3)).alloc (.cells #[.pointer (some ⟨pb,0,none⟩)] 133)).alloc (.cells #[.int .i64 (k:Int)] 3)):=((below_new wr _).alloc (by simp) _).alloc (by simp;omega) _
     have HSW:Hid (SW w (((wr.alloc (.cells #[.int .i64 (k:Int)] 3)).alloc (.cells #[.pointer (some ⟨pb,0,none⟩)] 133)).alloc (.cells #[.int .i64 (k:Int)] 3)) (wr.heap.size+1+1) (wr.heap.size+1) k pb):=by
      refine ⟨HS.out.B.trans (hb3.mono HS.out.B.size),?_,?_,by simp,by simp⟩ <;> simp [go_sem]
     generalize hW0:(((wr.alloc (.cells #[.int .i64 (k:Int)] 3)).alloc (.cells #[.pointer (some ⟨pb,0,none⟩)] 133)).alloc (.cells #[.int .i64 (k:Int)] 3))=W0 at *
     refine (wpIn_wide (n:=10)).1 ?_
     refine wpIn_rangeFunc_ownH rfl (by omega:1≤10) (gf:=149) (lb:=#[.pointer (some ⟨wr.heap.size+1+1,0,none⟩),.pointer (some ⟨wr.heap.size+1,0,none⟩)]) rfl trivial (enters_of Tryz.func149 (by kernel_rfl) rfl)
      (steps_stops f v r ws _ _ pb k (wr.heap.size+1+1) (wr.heap.size+1) w W0 HA.out HOK.out (by rw [HN.out];exact hlt) HSW.out 9 (by omega)) kpS_t ?hKb (Below.refl _ _) (fun _=>rfl)
      (fun pre W=>WS W w ob g N (prt (tab f r ws) k (pre.map Subtype.val)) Ds∧W.cell? ⟨wr.heap.size,0,none⟩=some (.int .i64 (k:Int))∧W0.heap.size≤W.heap.size) (fun _ _ _=>False) ?hI ?hIx ?h0 ?Ax ?hAx ?assign ?body ?done ?stop
     case hKb=>
      intro W l o o' hl ho hc hw
      have hwz:=HS.out.B.size
      have hz0:=hb3.size
      have hsz:=HSW.out.bx
      have hsz2:=HSW.out.bp
      exact ⟨belowK_b (w:=w) (Nat.le_refl _) W l o o' (by omega) ho hc hw,World.putObj_heap_other (by omega),World.putObj_heap_other (by omega)⟩
     case h0=>
      rw [List.map_nil,prt_nil]
      exact ⟨HS.out.below hb3,by rw [←hW0];simp [go_sem],Nat.le_refl _⟩
     case hIx=>exact fun _ _ _ _ _ hs _ _=>hs
     case stop=>
      rintro D c pre W _ _ hs _
      exact hs.elim
     case hI=>
      intro s W W' row hs hg hr
      have hwz:=HS.out.B.size
      have hz0:=hb3.size
      have hgl:=Blk.lt HS.out.R
      have hol:=HS.out.O.lt
      have hfl:=HSW.out.bp
      have hne:∀ q,q < W0.heap.size→some q≠row:=fun q hq e=>by have:=(hr q e.symm).1;omega
      have hz1:=hs.1.B.size
      refine ⟨⟨hs.1.B.grown hg hz1 (fun q e=>by have:=(hr q e).1;omega),Blk.grown hs.1.R hg (hne g (by omega)),hs.1.O.grown hg (hne ob (by omega)),hs.1.nd,fun D hD=>?_,hs.1.lo⟩,?_,Nat.le_trans hs.2.2 hg.size⟩
      · have h1:=hs.1.mks D hD
        have h2:=(Array.getElem?_eq_some_iff.1 (HS.out.mks D hD).2).1
        exact ⟨h1.1,(hg.block D (Array.getElem?_eq_some_iff.1 h1.2).1 (hne D (by omega))).trans h1.2⟩
      · exact hg.cell hs.2.1 (hne wr.heap.size (by omega))
     case done=>
      rintro D xs W hD hxs ⟨hws,hc4,-⟩ hK
      have hDs:D ∉ Ds:=fun hm=>by
       have h2:=(Array.getElem?_eq_some_iff.1 (HS.out.mks D hm).2).1
       have:=hb3.size
       omega
      have HF:Hid (∀ j,j < N→prt (tab f r ws) k (xs.map Subtype.val) j=fwd (tab f r ws) (k+1) j):=(show ∀ j,_ from fun j hj=>by
       rw [hxs,HN.out]
       exact prt_end HTB.out hlt j hj)
      have HWS:Hid (WS W w ob g N (fwd (tab f r ws) (k+1)) (D :: Ds)):=⟨hws.B,(show Blk W g 182 _ from by rw [←wcl_congr N HF.out];exact hws.R),hws.O,List.nodup_cons.2 ⟨hDs,hws.nd⟩,fun D' hD'=>(by
       rcases List.mem_cons.1 hD' with e | e
       · subst e;exact ⟨by have:=HS.out.B.size;have:=hb3.size;omega,hK⟩
       · exact hws.mks D' e),hws.lo⟩
      clear hws hc4 hxs HF
      go_wp2_with fail
      go_roundg (N-(k+1))
      case measure=>omega
      case rel=>exact ⟨k+1,D :: Ds,by omega,by omega,by go_num,rfl,HWS.out⟩
     case Ax=>
      exact fun x a' W=>∃ Bx,Blk W Bx 172 #[.int .i64 (k:Int),.int .i64 (x.1:Int),.int .i64 (((tab f r ws k x.1).getD 0:Nat):Int)]∧a'={ tmps:=#[.pointer (some ⟨pb,0,none⟩),undef,.slice none 0 0,.pointer (some ⟨ob,0,none⟩),.pointer (some ⟨wr.heap.size,0,none⟩),.pointer (some ⟨Bx,0,none⟩),u6,.agg #[.int .i64 (-1),.int .i64 1000000000000000],.slice (some ⟨w.heap.size,0,none⟩) 1 1,.pointer (some ⟨pb,0,none⟩),.pointer (some ⟨pb,0,none⟩),.pointer (some ⟨pb,12,none⟩),.slice Ap N cp,.int .i64 (N:Int),.slice (some ⟨g,0,none⟩) N N,.slice (some ⟨g,0,none⟩) N N,.pointer (some ⟨g,0,none⟩),.pointer (some ⟨g,1,none⟩),.slice (some ⟨g,0,none⟩) N N,.int .i64 (N:Int),.int .i64 (k:Int),.bool true,.int .i64 (k:Int),.slice (some ⟨g,0,none⟩) N N,.int .i64 (k:Int),.pointer (some ⟨g,k*2,none⟩),.pointer (some ⟨g,k*2+1,none⟩),.int .i64 ((fwd (tab f r ws) k k).1:Int),.bool false,.pointer (some ⟨pb,0,none⟩),.int .i64 (k:Int),.func (.func 149) #[] #[.pointer (some ⟨wr.heap.size+1+1,0,none⟩),.pointer (some ⟨wr.heap.size+1,0,none⟩)],.agg #[.int .i64 (k:Int),.int .i64 (x.1:Int),.int .i64 (((tab f r ws k x.1).getD 0:Nat):Int)],u33,u34,u35,u36,u37,u38,u39,u40,u41,u42,u43,u44,u45,u46,u47,u48,u49,u50,u51,u52,u53,u54,u55,u56,undef],defers:=[] }
     case hAx=>
      rintro x a' _ X Y row ⟨Bx,h2,h3⟩ hg hr
      refine ⟨Bx,Blk.grown h2 hg (fun e=>?_),h3⟩
      obtain ⟨_,o,ho,hc⟩:=hr Bx e.symm
      have h4:X.heap[Bx]?=_:=h2
      rw [h4] at ho
      cases ho
      cases hc
     case assign=>
      rintro l pre x W K ⟨hws,hc4,hwl⟩ hK
      have hwz:=HS.out.B.size
      have hz0:=hb3.size
      have hz1:=hws.B.size
      gi_wp2
      have hsz:=HSW.out.bx
      have hsz2:=HSW.out.bp
      have hbn:=below_new W (.cells #[.int .i64 (k:Int),.int .i64 (x.1:Int),.int .i64 (((tab f r ws k x.1).getD 0:Nat):Int)] 172)
      have hne:∀ q,q < W.heap.size→(W.alloc (.cells #[.int .i64 (k:Int),.int .i64 (x.1:Int),.int .i64 (((tab f r ws k x.1).getD 0:Nat):Int)] 172)).heap[q]?=W.heap[q]?:=fun q hq=>hbn.block q hq
      exact hK _ _ ((KeepsOthers.alloc _ _).from _) ⟨hbn.mono hz1,hne _ (by omega),hne _ (by omega)⟩ ⟨hws.below hbn,(hbn.cell (p:=⟨wr.heap.size,0,none⟩) (by show wr.heap.size < _;omega)).trans hc4,by have:=hbn.size;omega⟩ ⟨W.heap.size,Blk.new W _ _,rfl⟩
     case body=>
      rintro l pre x a' W hl ⟨rl,hrl⟩ ⟨hws,hc4,hwl⟩ ⟨Bx,hbx,rfl⟩ hlen
      obtain ⟨j,hj⟩:=x
      obtain ⟨d,hd⟩:=Option.isSome_iff_exists.1 hj
      have hgd:(tab f r ws k j).getD 0=d:=by rw [hd];rfl
      have hup:=HTB.out.up hd
      have hdm:DMX=400200000:=rfl
      have hpk:prt (tab f r ws) k (pre.map Subtype.val) k=fwd (tab f r ws) k k:=prt_k HTB.out
      have hck:=hws.R.cells hlt
      have hcj:=hws.R.cells (j:=j) (by omega)
      rw [hpk] at hck
      have hle:(fwd (tab f r ws) k k).1 < 1000000000000000:=HMLT.out
      have HPS:=Lib.hid (prt_step (pre:=pre.map Subtype.val) hd HMLT.out)
      have HST:=Lib.hid (fun hn=>prt_stay (pre:=pre.map Subtype.val) hd HMLT.out hn)
      have HWS:=Lib.hid hws
      have x1:=hbx.cell 1
      have x2:=hbx.cell 2
      have xl:=hbx.lt
      have fz0:=Blk.frozen hws.R (j*2)
      have fz1:=Blk.frozen hws.R (j*2+1)
      have gl0:=Blk.lt hws.R
      have oc:=hws.O.cell 0
      have ocl:=hws.O.lt
      dsimp only at x1 x2
      simp only [hgd] at x2 ⊢
      have hc0:=hck.2
      have hc1:=hcj.1
      have hc2:=hcj.2
      have hbl:wr.heap.size < W.heap.size:=by have:=HSW.out.bp;omega
      clear hck hcj hws hbx hpk hd
      generalize hdk:(fwd (tab f r ws) k k).1=dk at *
      generalize hpj:(prt (tab f r ws) k (pre.map Subtype.val) j).1=pj at *
      have hjz:(j:Int) < (N:Int):=by omega
      have hmx:Tryz.prog.follows .mixedOrders=true:=by kernel_rfl
      gi_wp2
      refine quiet_round hmx (by kernel_rfl) (by kernel_rfl) ?_
      repeat (go_big_quiet_step (fail))
      refine wpQuiet_nil ?_
      rintro _ ⟨nq,rfl⟩
      by_cases hn:dk+d < pj
      · have hnz:((dk:Int)+(d:Int)) < (pj:Int):=by omega
        rw [if_pos hn] at HPS
        clear HST hn
        gi_wp2
        have hb1:=below_drewN W nq
        have hwz:=HS.out.B.size
        have hz1:=HWS.out.B.size
        have HW1:=HWS.out.below hb1
        have HW2:=HW1.put (j:=j) (by omega) (dk+d,(k:Int))
        have hcast:(((dk+d:Nat)):Int)=(dk:Int)+(d:Int):=by omega
        have hgl:g < wr.heap.size:=Blk.lt HS.out.R
        have ho:∀ q,q≠g→(((W.drewN nq).setCell ⟨g,j*2,none⟩ (.int .i64 (k:Int))).setCell ⟨g,j*2+1,none⟩ (.int .i64 ((dk:Int)+(d:Int)))).heap[q]?=W.heap[q]?:=fun q hq=>((Below.heap_setCell _ _ _ _ hq).trans (Below.heap_setCell _ _ _ _ hq)).trans rfl
        dsimp only at HW2
        rw [hcast] at HW2
        refine ⟨((((⟨Nat.le_refl _,fun _ _ h _=>h⟩:KeepsOthers W (W.drewN nq)).trans (KeepsOthers.setCell _ _ _)).trans (KeepsOthers.setCell _ _ _))).from _,⟨?_,ho _ (by omega),ho _ (by omega)⟩,?_,?_,?_⟩
        · exact ((hb1.mono hz1).setCell (p:=⟨g,j*2,none⟩) HWS.out.lo.1 _).setCell (p:=⟨g,j*2+1,none⟩) HWS.out.lo.1 _
        · show WS _ w ob g N (prt (tab f r ws) k ((pre++[(⟨j,hj⟩:Al f r ws k)]).map Subtype.val)) Ds
          rw [List.map_append,List.map_cons,List.map_nil,prt_snoc,←HPS.out]
          exact HW2
        · exact (cell_blk (ho _ (by omega))).trans hc4
        · simp only [World.setCell,Array.size_modify]
          exact hwl
      · have hnz:¬((dk:Int)+(d:Int)) < (pj:Int):=by omega
        have HS1:=Lib.hid (HST.out hn)
        clear HST hn HPS
        gi_wp2
        have hb1:=below_drewN W nq
        have hwz:=HS.out.B.size
        have hz1:=HWS.out.B.size
        refine ⟨⟨Nat.le_refl _,fun _ _ _ h _=>h⟩,⟨hb1.mono hz1,rfl,rfl⟩,?_,hc4,hwl⟩
        show WS _ w ob g N (prt (tab f r ws) k ((pre++[(⟨j,hj⟩:Al f r ws k)]).map Subtype.val)) Ds
        rw [List.map_append,List.map_cons,List.map_nil,HS1.out]
        exact HWS.out.below hb1
 · have hltz:¬(k:Int) < (N:Int):=by omega
   have hke:k=N:=by omega
   subst hke
   clear hlt hltz
   go_wp2_with fail
   refine leaves_marks (by simp) Ds _ HS.out.nd (fun D hD=>(HS.out.mks D hD).2) (fun W' hW'=>?_)
   have hgD:g ∉ Ds:=fun hm=>by
    have h1:=(HS.out.mks g hm).2
    have h2:wr.heap[g]?=_:=HS.out.R
    rw [h2] at h1
    cases h1
   exact ⟨_,results_tmp rfl _ _ _,g,rfl,(hW'.2.2.2.2 g hgD).trans HS.out.R,HS.out.lo.1,HS.out.B.trans (hW'.below (fun D hD=>(HS.out.mks D hD).1))⟩
end Go.Proofs.YtbnganlfelgogaaGreat
namespace Go.Proofs.YtbnganlfelgogaaGreat
open Go.RowKit
theorem IO.push {W':World} {B n:Nat} {zs:List Int} {x:Int} {v':Value} (h:W'.ownsRow B 3 1 v' (n+1) (zv zs++[.int .i64 x])) (hn:zs.length=n):IO W' B (zs++[x]) v':=by
 show World.ownsRow _ _ _ _ _ _ _
 rw [List.length_append,List.length_singleton,hn,zv_app]
 exact h
theorem wpList_app1 {ops:Array Oper} {rest:List Oper} {o:Oper} {a:Act} {w:World} {Q:Exit→Act→World→Prop} (hgd:o.guard=none) (s x:Operand)
 (ho:o.op=.call { callee:=.builtin .append,args:=#[s,x],argTypes:=#[34,34] }) (base:Nat) (v:Value) (zs:List Int) (y:Int) (b c:Nat) (hs:a.eval s=v) (hx:a.eval x=.slice (some ⟨b,0,none⟩) 1 c)
 (hown:IO w base zs v) (hc:w.cell? ⟨b,0,none⟩=some (.int .i64 y)) (hn:zs.length≤1000000) (hbase:base≤w.heap.size)
 (h:∀ v' w',IO w' base (zs++[y]) v'→Below base w w'→w.grownBy w' v.ownBlock→wpList Tryz.prog ops Q rest (a.put o.dst v') w'):wpList Tryz.prog ops Q (o :: rest) a w:=by
 obtain ⟨i3,hi3,hz3,hy3,hx3⟩:=info_parts info3
 refine wpList_append_lies w hgd s x 34 ho base 3 i3 _ 1 8 Tryz.underlying34 hi3 hz3 hy3 hx3 rfl (by omega) v zs.length _ hs hown ⟨b,0,none⟩ 1 c [.int .i64 y] hx rfl ?_ (by simp [Value.oneCell']) (by omega) (by simp only [maxLen];omega) (by omega) hbase _ rfl ?_
 · intro j u hu
   cases j with
   | zero=>simp only [List.getElem?_cons_zero] at hu;rw [←hu];exact hc
   | succ j=>simp at hu
 · intro g cap w' h1 h2 h3 h4
   exact h _ _ (IO.push h1 rfl) ((Below.refl base w).grown h2 hbase (fun t ht=>(World.ownsRow.lt hown t ht).1)) h2
def lbs (t:Tb) (N:Nat):Nat→List Int
 | 0=>[]
 | k+1=>lbs t N k++[((fwd t N k).1:Int)]
theorem lbs_len (t:Tb) (N:Nat):∀ k,(lbs t N k).length=k
 | 0=>rfl
 | k+1=>by simp [lbs,lbs_len t N k]
theorem lbs_get (t:Tb) (N:Nat):∀ k j,j < k→gz (lbs t N k) j=((fwd t N j).1:Int)
 | 0,j,h=>by omega
 | k+1,j,h=>by
  unfold gz lbs
  rw [List.getD_eq_getElem?_getD]
  by_cases e:j < k
  · rw [List.getElem?_append_left (by rw [lbs_len];exact e),←List.getD_eq_getElem?_getD]
    exact lbs_get t N k j e
  · obtain rfl:j=k:=by omega
    rw [List.getElem?_append_right (by rw [lbs_len];omega),lbs_len,Nat.sub_self]
    rfl
def ints (b:List Nat):List Int:=b.map fun (m:Nat)=>(m:Int)
structure BkS (t:Tb) (N at_:Nat) (coll:List Int) (b:List Nat) (c:Nat):Prop where
 lt:at_ < N
 ml:dist t at_ < ML
 p:Path t at_ b (N-1) c
 s:dist t at_+c=dist t (N-1)
 e:coll=(ints b).reverse
theorem BkS.start {t:Tb} {N:Nat} (hN:0 < N) (h:dist t (N-1) < ML):BkS t N (N-1) [] [] 0:=⟨by omega,h,Path.nil t _,rfl,rfl⟩
theorem BkS.step {t:Tb} {N at_ D c:Nat} {coll:List Int} {b:List Nat} (ht:TbOk t N D) (h:BkS t N at_ coll b c) (h0:0 < at_) :
 ∃ i d,(fwd t N at_).2=((i:Nat):Int)∧i < at_∧BkS t N i (coll++[(at_:Int)]) (at_ :: b) (d+c):=by
 obtain ⟨i,d,h1,h2,h3,h4,h5⟩:=dist_by ht (Nat.le_of_lt h.lt) (by omega) h.ml
 refine ⟨i,d,h1,h2,⟨by have:=h.lt;omega,h4,Path.cons h3 h.p,?_,?_⟩⟩
 · have:=h.s;omega
 · rw [h.e]
   show _=(ints (at_ :: b)).reverse
   simp [ints]
def BsPost (w:World) (t:Tb) (N:Nat) (e:Ending) (w':World):Prop:=∃ bs vb vl,e=.returned (.tuple #[vb,vl])∧IV w' bs vb∧IV w' (lbs t N N) vl∧Below w.heap.size w w'∧
 ((dist t (N-1) < ML∧∃ b,bs=ints b∧Path t 0 b (N-1) (dist t (N-1)))∨(dist t (N-1)=ML∧bs=[]))
theorem best_any (f:Fnt) (v:Value) (r:Rls) (ws:List PWord) (vw vp:Value) (pb:Nat) (w:World) (h:PA w pb f v r ws vw vp) (hok:POk f r ws) :
 Calls Tryz.prog 86 #[.pointer (some ⟨pb,0,none⟩)] w (BsPost w (tab f r ws) (places ws).length):=by
 have hm:=hok.m
 have hpos:=places_pos ws
 have HTB:=Lib.hid (tab_ok hok.ru hm)
 have HW:=Lib.hid (ways_any f v r ws vw vp pb w h hok)
 have HLA:Hid (∀ W,Below w.heap.size w W→Calls Tryz.prog 87 #[.pointer (some ⟨pb,0,none⟩)] W fun e w'=>e=.returned (.int .i64 ((places ws).length-1:Nat))∧w'=W):=(show ∀ W,_ from fun W hW=>last_any f v r ws vw vp pb W (h.step hW) hm)
 clear h hok
 generalize hN:(places ws).length=N at *
 clear hN
 generalize tab f r ws=t at *
 obtain ⟨i3,hi3,hz3,hy3,hx3⟩:=info_parts info3
 go_enter Tryz.func86,Tryz.ntmps86
 go_wp2_with fail
 refine HW.out.mono ?_
 rintro e w1 ⟨g,rfl,hR,hg,hB1⟩
 have HB1:=Lib.hid hB1
 have HR1:Hid (WR w1 g N (fwd t N)):=hR
 have hg1:=Blk.lt hR
 clear hB1 hR HW
 go_wp2_with fail
 go_loopg [12,3] N (fun gg s12 s3 wr=>∃ k:Nat,k≤N∧N-k≤gg∧s12=.int .i64 k∧Hid (Below w1.heap.size w1 wr)∧Hid (IO wr w1.heap.size (lbs t N k) s3))
 case atStart=>exact ⟨0,by omega,by omega,rfl,Below.refl _ _,World.ownsRow_nil _ _ _ _⟩
 case round=>
  obtain ⟨k,hk,hgk,rfl,HB,HO⟩:=hrel
  have HRW:Hid (WR wr g N (fwd t N)):=Blk.below HR1.out HB.out hg1
  have hgl:=Blk.lt HRW.out
  have HBW:=Lib.hid (HB1.out.trans (HB.out.mono HB1.out.size))
  by_cases hlt:k < N
  · have hltz:(k:Int) < (N:Int):=by omega
    have hc:=WR.cells HRW.out hlt
    have c0:=hc.1
    have c1:=hc.2
    have hlen:=lbs_len t N k
    have HL1:Hid (lbs t N (k+1)=lbs t N k++[((fwd t N k).1:Int)]):=rfl
    clear hc
    generalize (fwd t N k).1=dk at *
    generalize (fwd t N k).2=ek at *
    generalize lbs t N k=ls at *
    have hb2:=(below_new wr (.cells #[.int .i64 ek,.int .i64 (dk:Int)] 182)).trans ((below_new (wr.alloc (.cells #[.int .i64 ek,.int .i64 (dk:Int)] 182)) (.cells #[.int .i64 (dk:Int)] 3)).mono (by simp))
    have hcl:=(Blk.new (wr.alloc (.cells #[.int .i64 ek,.int .i64 (dk:Int)] 182)) 3 #[.int .i64 (dk:Int)]).cell 0
    have hbz:=HB.out.size
    have hbs:w1.heap.size≤((wr.alloc (.cells #[.int .i64 ek,.int .i64 (dk:Int)] 182)).alloc (.cells #[.int .i64 (dk:Int)] 3)).heap.size:=by simp;omega
    have hsz1:(wr.alloc (.cells #[.int .i64 ek,.int .i64 (dk:Int)] 182)).heap.size=wr.heap.size+1:=by simp
    rw [hsz1] at hcl
    have HO2:=Lib.hid (HO.out.below hb2)
    have HB2:=Lib.hid (HB.out.trans (hb2.mono hbz))
    clear hb2 hsz1
    go_wp2_with (first
     | (at_builtin
        refine wpList_app1 rfl _ _ (by rfl) w1.heap.size _ ls (dk:Int) _ 1 (by rfl) (by rfl) HO2.out hcl (by omega) hbs ?_
        intro v' w' hio hbw hgw
        have HO3:=Lib.hid hio
        have HB3:=Lib.hid (HB2.out.trans hbw)
        clear hio hbw hgw))
    go_roundg (N-(k+1))
    case measure=>omega
    case rel=>exact ⟨k+1,by omega,by omega,by go_num,HB3.out,by show IO _ _ _ _;rw [HL1.out];exact HO3.out⟩
  · have hltz:¬(k:Int) < (N:Int):=by omega
    have hke:k=N:=by omega
    have HO2:Hid (IO wr w1.heap.size (lbs t N N) u3):=by rw [hke] at HO;exact HO.out
    clear hlt HO hke
    have hc:=WR.cells HRW.out (j:=N-1) (by omega)
    have c1:=hc.2
    have HD:Hid ((fwd t N (N-1)).1=dist t (N-1)):=fwd_dist HTB.out (by omega)
    rw [HD.out] at c1
    have hiv:=HO2.out.iv
    clear hc HD
    have HLAW:=Lib.hid (HLA.out wr HBW.out)
    obtain ⟨q,hq⟩:∃ q,N-1=q:=⟨_,rfl⟩
    have hqz:(q:Int) < (N:Int):=by omega
    have HQ:=Lib.hid hq
    rw [hq] at c1 HLAW
    by_cases hml:dist t q < ML
    · have hmz:((dist t q:Nat):Int) < 1000000000000000:=by have:ML=1000000000000000:=rfl;omega
      have HBK:Hid (BkS t N q [] [] 0):=by show BkS _ _ _ _ _ _;rw [←hq];exact BkS.start hpos (by rw [hq];exact hml)
      have HPO:Hid (∀ (coll:List Int) (b:List Nat) (c:Nat) vb vl W,BkS t N 0 coll b c→IV W coll.reverse vb→IV W (lbs t N N) vl→Below w.heap.size w W→BsPost w t N (.returned (.tuple #[vb,vl])) W):=(show ∀ coll b c vb vl W,_ from fun coll b c vb vl W h0 h1 h2 h3=>⟨coll.reverse,vb,vl,rfl,h1,h2,h3,.inl ⟨by rw [hq];exact hml,b,by rw [h0.e,List.reverse_reverse],by
       have h4:=h0.s
       rw [dist_zero,Nat.zero_add] at h4
       rw [←h4]
       exact h0.p⟩⟩)
      clear hml hq
      generalize dist t q=dl at *
      go_wp2_with (first
       | (go_at_call 87;(with_reducible refine HLAW.out.mono ?_);rintro e w' ⟨rfl,hw'⟩;have hw'':=hw'.symm;subst hw''))
      obtain ⟨w2,hw2⟩:∃ x,x=wr:=⟨_,rfl⟩
      subst hw2
      go_loopg [7,2] q (fun gg s7 s2 wr=>∃ (at_:Nat) (coll:List Int) (b:List Nat) (c:Nat),at_≤gg∧s7=.int .i64 (at_:Int)∧Hid (BkS t N at_ coll b c)∧Hid (Below w2.heap.size w2 wr)∧Hid (IO wr w2.heap.size coll s2)∧coll.length≤N)
      case atStart=>exact ⟨q,[],[],0,by omega,rfl,HBK.out,Below.refl _ _,World.ownsRow_nil _ _ _ _,by simp⟩
      case round=>
       obtain ⟨at_,coll,b,c,hat,rfl,HBK,HBX,HOX,hcl⟩:=hrel
       by_cases hgt:0 < at_
       · have hgz:(0:Int) < (at_:Int):=by omega
         have HRX:=Lib.hid (Blk.below HRW.out HBX.out hgl)
         obtain ⟨i,d,hi1,hi2,hbk⟩:=BkS.step HTB.out HBK.out hgt
         have hal:=HBK.out.lt
         have hc:=WR.cells HRX.out hal
         have x0:=hc.1
         rw [hi1] at x0
         have HBK2:=Lib.hid hbk
         have haz:(at_:Int) < (N:Int):=by omega
         have hbz:=HBX.out.size
         have hrl:=Blk.lt HRX.out
         have hbn:=below_new wr (.cells #[.int .i64 (at_:Int)] 3)
         have hcx:=(Blk.new wr 3 #[.int .i64 (at_:Int)]).cell 0
         have HOX2:=Lib.hid (HOX.out.below hbn)
         have hbs:w2.heap.size≤(wr.alloc (.cells #[.int .i64 (at_:Int)] 3)).heap.size:=by have:=hbn.size;omega
         have HBX2:=Lib.hid (HBX.out.trans (hbn.mono hbz))
         have hcn:coll.length < N:=by
          have h1:=congrArg List.length HBK.out.e
          have h2:=HBK.out.p.len HTB.out
          rw [List.length_reverse,ints,List.length_map] at h1
          omega
         clear hbk hi1 hc
         go_wp2_with (first
          | (at_builtin
             refine wpList_app1 rfl _ _ (by rfl) w2.heap.size _ coll (at_:Int) _ 1 (by rfl) (by rfl) HOX2.out hcx (by omega) hbs ?_
             intro v' w' hio hbw hgw
             have HO3:=Lib.hid hio
             have HB3:=Lib.hid (HBX2.out.trans hbw)
             have y0:w'.cell? ⟨g,at_*2,none⟩=some (.int .i64 ((i:Nat):Int)):=(hbw.cell (p:=⟨g,at_*2,none⟩) (by omega)).trans ((hbn.cell (p:=⟨g,at_*2,none⟩) hrl).trans x0)
             have y0l:g < w'.heap.size:=by have:=hbw.size;have:=hbn.size;omega
             clear hio hbw hgw))
         go_roundg (i)
         case measure=>omega
         case rel=>exact ⟨i,coll++[(at_:Int)],at_ :: b,d+c,by omega,rfl,HBK2.out,HB3.out,HO3.out,by rw [List.length_append,List.length_singleton];omega⟩
       · have hgz:¬(0:Int) < (at_:Int):=by omega
         obtain rfl:at_=0:=by omega
         have HRV:=Lib.hid (rev_any coll _ _ wr HOX.out)
         clear hgt
         go_wp2_with (first
          | (go_at_call 120;(with_reducible refine HRV.out.mono ?_);rintro e w5 ⟨rfl,hio5,hgr5,hsz5⟩))
         have HBX5:=HBX.out.grown hgr5 HBX.out.size (fun t ht=>(World.ownsRow.lt HOX.out t ht).1)
         have HB5:=Lib.hid (HBW.out.trans (HBX5.mono HBW.out.size))
         go_ret2
         exact HPO.out coll b c _ _ _ HBK.out hio5.iv (HO2.out.iv.below HBX5) HB5.out
    · have hme:dist t q=ML:=by have:=dist_le_ML t q;omega
      have hML:((ML:Nat):Int)=1000000000000000:=rfl
      rw [hme,hML] at c1
      have HPO:Hid (∀ vb vl W,IV W [] vb→IV W (lbs t N N) vl→Below w.heap.size w W→BsPost w t N (.returned (.tuple #[vb,vl])) W):=(show ∀ vb vl W,_ from fun vb vl W h1 h2 h3=>⟨[],vb,vl,rfl,h1,h2,h3,.inr ⟨by rw [hq];exact hme,rfl⟩⟩)
      clear hml hme hq hML
      go_wp2_with (first
       | (go_at_call 87;(with_reducible refine HLAW.out.mono ?_);rintro e w' ⟨rfl,hw'⟩;have hw'':=hw'.symm;subst hw''))
      go_ret2
      exact HPO.out _ _ _ (IV.nil _) hiv HBW.out
end Go.Proofs.YtbnganlfelgogaaGreat
