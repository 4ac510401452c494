/- slices.AppendSeq of the allowed lines from a place. -/
import Derived.Test.YtbnganlfelgogaaGreatVBst
import Derived.Test.YtbnganlfelgogaaGreatVRvs
import Derived.Maps.OwnIn
set_option linter.unusedSimpArgs false
set_option linter.unusedVariables false
set_option maxRecDepth 100000
set_option maxHeartbeats 40000000
namespace Go.Proofs.YtbnganlfelgogaaGreat
open Go.RowKit Go.Shelf
attribute [local go_sem] Oper.semAt_some
def stl (t:Tb) (i:Nat) (js:List Nat):List (Nat × Nat × Nat):=js.map fun j=>(i,j,(t i j).getD 0)
def stc (l:List (Nat × Nat × Nat)):List Value:=l.flatMap fun p=>[.int .i64 (p.1:Int),.int .i64 (p.2.1:Int),.int .i64 (p.2.2:Int)]
theorem stc_app (a b:List (Nat × Nat × Nat)):stc (a++b)=stc a++stc b:=by simp [stc]
theorem stc_len:∀ l:List (Nat × Nat × Nat),(stc l).length=l.length*3
 | []=>rfl
 | p :: l=>by
  have:=stc_len l
  have e:stc (p :: l)=[.int .i64 (p.1:Int),.int .i64 (p.2.1:Int),.int .i64 (p.2.2:Int)]++stc l:=rfl
  rw [e,List.length_append,this]
  simp only [List.length_cons,List.length_nil]
  omega
def SO (W:World) (B:Nat) (l:List (Nat × Nat × Nat)) (v:Value):Prop:=W.ownsRow B 172 3 v l.length (stc l)
theorem SO.below {W W':World} {B:Nat} {l:List (Nat × Nat × Nat)} {v:Value} (h:SO W B l v) (hb:Below W.heap.size W W'):SO W' B l v:=World.ownsRow.kept h (grown_of_below hb none) (Classical.em _)
theorem SO.shape {W:World} {B:Nat} {l:List (Nat × Nat × Nat)} {v:Value} (h:SO W B l v):∃ A c,v=.slice A l.length c:=by
 rcases h.2 with ⟨rfl,h0⟩ | ⟨g,cap,cur,rfl,_⟩
 · exact ⟨none,0,by rw [h0]⟩
 · exact ⟨_,cap,rfl⟩
theorem keeps_of_grown {W W':World} {row:Option Nat} (hg:W.grownBy W' row) (hr:∀ r,row=some r→∃ o,W.heap[r]?=some o∧o.isCells=true):KeepsOthers W W':=
 ⟨hg.size,fun k o hk ho=>(hg.block k (Array.getElem?_eq_some_iff.1 hk).1 (fun e=>by
  obtain ⟨o',h1,h2⟩:=hr k e.symm
  rw [hk] at h1
  injection h1 with h1
  rw [h1,h2] at ho
  cases ho)).trans hk⟩
theorem own_cells {W:World} {B sz n:Nat} {t:TypeId} {v:Value} {xs:List Value} (h:W.ownsRow B t sz v n xs):∀ r,v.ownBlock=some r→∃ o,W.heap[r]?=some o∧o.isCells=true:=fun r hr=>by
 rcases h.2 with ⟨rfl,_⟩ | ⟨g,cap,cur,rfl,_,hh,_⟩
 · cases hr
 · injection hr with hr
   rw [←hr]
   exact ⟨_,hh,rfl⟩
theorem info87:(Tryz.prog.info? 172).map (fun i=>(i.zero,i.size,i.bytes))=some (some (.agg #[.int .i64 0,.int .i64 0,.int .i64 0]),3,24):=by kernel_rfl
def AqPost (t:Tb) (N i B:Nat) (st:List (Nat × Nat × Nat)) (w:World) (e:Ending) (w':World):Prop:=∃ v',e=.returned v'∧SO w' B (st++stl t i (stp t i (N-1-i))) v'∧Below B w w'
theorem appendSeq_any (f:Fnt) (v:Value) (r:Rls) (ws:List PWord) (vw vp:Value) (pb i bx bp B:Nat) (wm w:World) (st:List (Nat × Nat × Nat)) (vs:Value) (h:PA wm pb f v r ws vw vp) (hok:POk f r ws) (hi:i < (places ws).length) (hw:SW wm w bx bp i pb)
 (hB:wm.heap.size≤B) (hBw:B≤w.heap.size) (hs:SO w B st vs) (hn:st.length≤100000) (hne:∀ k,vs.ownBlock=some k→k≠bx∧k≠bp) :
 Calls Tryz.prog 117 #[vs,.func (.func 149) #[] #[.pointer (some ⟨bx,0,none⟩),.pointer (some ⟨bp,0,none⟩)]] w (AqPost (tab f r ws) (places ws).length i B st w):=by
 have hm:=hok.m
 have HA:=Lib.hid h
 have HOK:=Lib.hid hok
 have HSO:=Lib.hid hs
 have HSW:=Lib.hid hw
 have HNE:=Lib.hid hne
 obtain ⟨i87,hi87,hz87,hy87,hx87⟩:=info_parts info87
 obtain ⟨A,c,rfl⟩:=hs.shape
 clear h hok hs hw hne
 generalize hN:(places ws).length=N at *
 have HN:=Lib.hid hN
 clear hN
 refine (callsIn_wide (n:=10)).1 ?_
 refine callsIn_of_wp_marks Tryz.func117 rfl trivial ?_ rfl
 simp only [Tryz.ntmps117,List.size_toArray,List.length_cons,List.length_nil,Nat.reduceAdd,Nat.reduceSub,Array.replicate_succ,Array.replicate_zero,List.push_toArray,List.append_toArray,List.nil_append,List.cons_append]
 refine wpIn_wide.2 ?_
 go_wp2_with fail
 have hb0:=below_new w (.cells #[.slice A st.length c] 177)
 have HSW0:=Lib.hid (HSW.out.below hb0)
 have HSO0:=Lib.hid (HSO.out.below hb0)
 have hbk0:=Blk.new w 177 #[.slice A st.length c]
 have hbx:=HSW.out.bx
 have hbp:=HSW.out.bp
 have hsl:=HSO.out.lt
 generalize hW0:w.alloc (.cells #[.slice A st.length c] 177)=W0 at *
 have hW0s:W0.heap.size=w.heap.size+1:=by rw [←hW0];simp
 clear hW0
 refine (wpIn_wide (n:=10)).1 ?_
 refine wpIn_rangeFunc_ownH rfl (by omega:1≤10) (gf:=149) (lb:=#[.pointer (some ⟨bx,0,none⟩),.pointer (some ⟨bp,0,none⟩)]) rfl trivial (enters_of Tryz.func149 (by kernel_rfl) rfl)
  (steps_stops f v r ws _ _ pb i bx bp wm W0 HA.out HOK.out (by rw [HN.out];exact hi) HSW0.out 9 (by omega)) kpS_t ?hKb (Below.refl _ _) (fun _=>rfl)
  (fun pre W=>(∃ A' c',Blk W w.heap.size 177 #[.slice A' (st++stl (tab f r ws) i (pre.map Subtype.val)).length c']∧SO W B (st++stl (tab f r ws) i (pre.map Subtype.val)) (.slice A' (st++stl (tab f r ws) i (pre.map Subtype.val)).length c')∧
   (∀ k,(Value.slice A' (st++stl (tab f r ws) i (pre.map Subtype.val)).length c').ownBlock=some k→k≠bx∧k≠bp∧k≠w.heap.size))∧Below B w W∧W0.heap.size≤W.heap.size) (fun _ _ _=>False) ?hI ?hIx ?h0 ?Ax ?hAx ?assign ?body ?done ?stop
 case hKb=>
  intro W l o o' hl ho hc hw
  exact ⟨belowK_b (w:=wm) (Nat.le_refl _) W l o o' (by omega) ho hc hw,World.putObj_heap_other (by omega),World.putObj_heap_other (by omega)⟩
 case h0=>
  refine ⟨⟨A,c,?_,?_,?_⟩,hb0.mono hBw,Nat.le_refl _⟩
  · simpa [stl] using hbk0
  · simpa [stl] using HSO0.out
  · intro k hk
    have hk':(Value.slice A st.length c).ownBlock=some k:=by simpa [stl] using hk
    have h1:=HNE.out k hk'
    have h2:=hsl k hk'
    exact ⟨h1.1,h1.2,by omega⟩
 case hIx=>exact fun _ _ _ _ _ hs _ _=>hs
 case stop=>
  rintro D c pre W _ _ hs _
  exact hs.elim
 case hI=>
  rintro s W W' row ⟨⟨A',c',h1,h2,h3⟩,h4,h5⟩ hg hr
  have hne:∀ q,q < W0.heap.size→some q≠row:=fun q hq e=>by have:=(hr q e.symm).1;omega
  refine ⟨⟨A',c',h1.grown hg (hne _ (by omega)),World.ownsRow.kept h2 hg ?_,h3⟩,h4.grown hg (by omega) (fun q e=>by have:=(hr q e).1;omega),Nat.le_trans h5 hg.size⟩
  rcases hrow:row with _ | q
  · exact Classical.em _
  · refine .inr (fun e=>?_)
    obtain ⟨_,o,ho,hc⟩:=hr q hrow
    obtain ⟨o2,ho2,hc2⟩:=own_cells h2 q e
    rw [ho2] at ho
    injection ho with ho
    rw [←ho,hc2] at hc
    cases hc
 case done=>
  rintro D xs W hD hxs ⟨⟨A',c',h1,h2,h3⟩,h4,h5⟩ hK
  rw [hxs,HN.out] at h1 h2 h3
  obtain ⟨L,hL⟩:∃ L,(st++stl (tab f r ws) i (stp (tab f r ws) i (N-1-i))).length=L:=⟨_,rfl⟩
  rw [hL] at h1 h2 h3
  have x0:=h1.cell 0
  have xl:=h1.lt
  have HSO2:=Lib.hid h2
  have HB2:=Lib.hid h4
  clear h1 h2 h3
  go_wp2_with fail
  refine leaves_marks (by simp) [D] _ (by simp) (fun D' hD'=>by rw [List.mem_singleton.1 hD'];exact hK) (fun W' hW'=>?_)
  refine ⟨_,results_tmp rfl _ _ _,?_⟩
  refine ⟨_,rfl,World.ownsRow.kept (row:=some D) HSO2.out ⟨hW'.1,hW'.2.1,hW'.2.2.1,Nat.le_of_eq hW'.2.2.2.1.symm,fun q _ hq=>hW'.2.2.2.2 q (fun hm=>hq (by rw [List.mem_singleton.1 hm]))⟩ (.inr (fun e=>?_)),HB2.out.trans (hW'.below (fun D' hD'=>by rw [List.mem_singleton.1 hD'];omega))⟩
  obtain ⟨o,h1,h2⟩:=own_cells HSO2.out D e
  rw [hK] at h1
  injection h1 with h1
  rw [←h1] at h2
  cases h2
 case Ax=>
  exact fun x a' W=>∃ Bx,Blk W Bx 172 #[.int .i64 (i:Int),.int .i64 (x.1:Int),.int .i64 (((tab f r ws i x.1).getD 0:Nat):Int)]∧a'={ tmps:=#[.slice A st.length c,.func (.func 149) #[] #[.pointer (some ⟨bx,0,none⟩),.pointer (some ⟨bp,0,none⟩)],.pointer (some ⟨w.heap.size,0,none⟩),undef,.slice none 0 0,.pointer (some ⟨Bx,0,none⟩),.func (.func 149) #[] #[.pointer (some ⟨bx,0,none⟩),.pointer (some ⟨bp,0,none⟩)],.agg #[.int .i64 (i:Int),.int .i64 (x.1:Int),.int .i64 (((tab f r ws i x.1).getD 0:Nat):Int)],undef,undef,undef,undef,undef],defers:=[] }
 case hAx=>
  rintro x a' _ X Y row ⟨Bx,h2,h3⟩ hg hr
  refine ⟨Bx,Blk.grown h2 hg (fun e=>?_),h3⟩
  obtain ⟨_,o,ho,hc⟩:=hr Bx e.symm
  have h4:X.heap[Bx]?=_:=h2
  rw [h4] at ho
  cases ho
  cases hc
 case assign=>
  rintro l pre x W K ⟨⟨A',c',h1,h2,h3⟩,h4,h5⟩ hK
  gi_wp2
  have hbn:=below_new W (.cells #[.int .i64 (i:Int),.int .i64 (x.1:Int),.int .i64 (((tab f r ws i x.1).getD 0:Nat):Int)] 172)
  have hne:∀ q,q < W.heap.size→(W.alloc (.cells #[.int .i64 (i:Int),.int .i64 (x.1:Int),.int .i64 (((tab f r ws i x.1).getD 0:Nat):Int)] 172)).heap[q]?=W.heap[q]?:=fun q hq=>hbn.block q hq
  have hwm:=HSW.out.B.size
  exact hK _ _ ((KeepsOthers.alloc _ _).from _) ⟨hbn.mono (by omega),hne _ (by omega),hne _ (by omega)⟩ ⟨⟨A',c',h1.below hbn h1.lt,SO.below h2 hbn,h3⟩,h4.trans (hbn.mono (by omega)),by have:=hbn.size;omega⟩ ⟨W.heap.size,Blk.new W _ _,rfl⟩
 case body=>
  rintro l pre x a' W hl ⟨rl,hrl⟩ ⟨⟨A',c',h1,h2,h3⟩,h4,h5⟩ ⟨Bx,hbxx,rfl⟩ hlen
  obtain ⟨j,hj⟩:=x
  obtain ⟨d,hd⟩:=Option.isSome_iff_exists.1 hj
  have hgd:(tab f r ws i j).getD 0=d:=by rw [hd];rfl
  have hlp:(stl (tab f r ws) i (pre.map Subtype.val)).length=pre.length:=by simp [stl]
  have HGOAL:Hid (stl (tab f r ws) i ((pre++[(⟨j,hj⟩:Al f r ws i)]).map Subtype.val)=stl (tab f r ws) i (pre.map Subtype.val)++[(i,j,d)]):=by
   show _=_
   rw [List.map_append,List.map_cons,List.map_nil,←hgd]
   simp [stl]
  have hlen2:pre.length < N:=by rw [←HN.out];exact hlen
  obtain ⟨l0,hl0⟩:∃ l0,st++stl (tab f r ws) i (pre.map Subtype.val)=l0:=⟨_,rfl⟩
  have HL0:=Lib.hid hl0
  have hll:l0.length≤100300:=by rw [←hl0,List.length_append,hlp];omega
  rw [hl0] at h1 h2 h3
  have HSOL:Hid (W.ownsRow B 172 3 (.slice A' l0.length c') l0.length (stc l0)):=h2
  obtain ⟨L,hL⟩:∃ L,l0.length=L:=⟨_,rfl⟩
  rw [hL] at h1 h3 hll HSOL
  have HL:=Lib.hid hL
  have HK3:=Lib.hid h3
  have HB4:=Lib.hid h4
  have HBK:=Lib.hid h1
  have HOC:=Lib.hid (own_cells h2)
  have HOL:=Lib.hid h2.lt
  have x0:=hbxx.cell 0
  have x1:=hbxx.cell 1
  have x2:=hbxx.cell 2
  have xl:=hbxx.lt
  have oc:=h1.cell 0
  have ocl:=h1.lt
  have ofz:=Blk.frozen h1 0
  dsimp only at x0 x1 x2
  simp only [hgd] at x2 ⊢
  rw [hL] at HOC HOL
  clear h1 h2 h3 h4 hbxx hd hgd hlp hl0 hL
  have hb5:=below_new W (.cells #[.int .i64 (i:Int),.int .i64 (j:Int),.int .i64 (d:Int)] 172)
  have hnews:∀ (q:Nat) (u:Value),([.int .i64 (i:Int),.int .i64 (j:Int),.int .i64 (d:Int)]:List Value)[q]?=some u→(W.alloc (.cells #[.int .i64 (i:Int),.int .i64 (j:Int),.int .i64 (d:Int)] 172)).cell? ((⟨W.heap.size,0,none⟩:Addr).add q)=some u:=World.news_of_block (w:=W.alloc (.cells #[.int .i64 (i:Int),.int .i64 (j:Int),.int .i64 (d:Int)] 172)) (heap_alloc_new W _)
  have hbase:B≤(W.alloc (.cells #[.int .i64 (i:Int),.int .i64 (j:Int),.int .i64 (d:Int)] 172)).heap.size:=by have:=hb5.size;omega
  have HS5:=Lib.hid (World.ownsRow.kept (row:=none) HSOL.out (grown_of_below hb5 none) (Classical.em _))
  have HBK5:=Lib.hid (HBK.out.below hb5 ocl)
  have oc5:=HBK5.out.cell 0
  have hsz5:(W.alloc (.cells #[.int .i64 (i:Int),.int .i64 (j:Int),.int .i64 (d:Int)] 172)).heap.size=W.heap.size+1:=by simp
  have HN5:=Lib.hid hsz5
  have HB5:=Lib.hid hb5
  clear hb5 hsz5
  gi_wp2_with (first
   | (gi_at_builtin
      refine wpListIn_append_own_at _ rfl _ _ 177 (by rfl) B 172 i87 _ 3 24 Tryz.underlying177 hi87 hz87 hy87 hx87 rfl (by omega) _ L _ (by rfl) HS5.out ⟨W.heap.size,0,none⟩ 1 1 [.int .i64 (i:Int),.int .i64 (j:Int),.int .i64 (d:Int)] (by rfl) (by rfl) hnews (by simp [Value.oneCell']) (by simp only [maxLen];omega) (by omega) hbase ?_
      intro v' W6 hown hgrow hnil hat
      have hso6:SO W6 B (l0++[(i,j,d)]) v':=by
       show World.ownsRow _ _ _ _ _ _ _
       rw [List.length_append,stc_app,HL.out]
       exact hown
      obtain ⟨A6,c6,rfl⟩:=hso6.shape
      have hbk6:=HBK5.out.grown hgrow (fun e=>(HK3.out _ e.symm).2.2 rfl)
      have b6:=hbk6.cell 0
      have b6l:=hbk6.lt
      have b6f:=Blk.frozen hbk6 0
      have HSO6:=Lib.hid hso6
      have HBK6:=Lib.hid hbk6
      have HGR:=Lib.hid hgrow
      have HAT:=Lib.hid hat
      clear hown hgrow hnil hat hso6 hbk6))
  have hgs:=grown_setCell W6 w.heap.size 0 (.slice A6 (l0.length+1) c6)
  have hWb:W.heap.size≤W6.heap.size:=by have h1:=HGR.out.size;have h2:=HN5.out;omega
  have hown:∀ k,(Value.slice A6 (l0.length+1) c6).ownBlock=some k→k≠bx∧k≠bp∧k≠w.heap.size:=fun k hk=>by
   have hk':(Value.slice A6 (l0++[(i,j,d)]).length c6).ownBlock=some k:=by rw [List.length_append];exact hk
   rcases HAT.out with e | e
   · rw [hk'] at e
     exact HK3.out k e.symm
   · rw [hk'] at e
     injection e with e
     have:=HN5.out
     omega
  have hwm:=HSW.out.B.size
  have hbe:∀ q,q < W.heap.size→q≠w.heap.size→some q≠(Value.slice A' L c').ownBlock→(W6.setCell ⟨w.heap.size,0,none⟩ (.slice A6 (l0.length+1) c6)).heap[q]?=W.heap[q]?:=fun q h1 h2 h3=>
   (Below.heap_setCell _ _ _ _ h2).trans ((HGR.out.block q (by have:=HN5.out;omega) h3).trans (HB5.out.block q h1))
  have hlk:∀ k,(Value.slice A' L c').ownBlock=some k→B≤k:=fun k hk=>(HOL.out k hk).1
  refine ⟨((((KeepsOthers.alloc W _).trans (keeps_of_grown HGR.out (fun r hr=>?_))).trans (KeepsOthers.setCell _ _ _))).from _,⟨?_,?_,?_⟩,⟨A6,c6,?_,?_,?_⟩,?_,?_⟩
  · obtain ⟨o,h1,h2⟩:=HOC.out r hr
    exact ⟨o,(HB5.out.block r (Array.getElem?_eq_some_iff.1 h1).1).trans h1,h2⟩
  · exact (((HB5.out.mono (by omega)).grown HGR.out (by have:=HN5.out;omega) (fun t ht=>by have:=hlk t ht;omega))).setCell (p:=⟨w.heap.size,0,none⟩) (by show _≤w.heap.size;omega) _
  · exact hbe bx (by omega) (by omega) (fun e=>(HK3.out bx e.symm).1 rfl)
  · exact hbe bp (by omega) (by omega) (fun e=>(HK3.out bp e.symm).2.1 rfl)
  · have h1:=HBK6.out.set_ 0 (.slice A6 (l0.length+1) c6)
    rw [HGOAL.out,←List.append_assoc,HL0.out,List.length_append]
    simpa using h1
  · rw [HGOAL.out,←List.append_assoc,HL0.out]
    exact World.ownsRow.kept HSO6.out hgs (.inr (fun e=>(hown _ (by rw [List.length_append] at e;exact e)).2.2 rfl))
  · rw [HGOAL.out,←List.append_assoc,HL0.out,List.length_append]
    exact hown
  · exact ((HB4.out.trans (HB5.out.mono (by omega))).grown HGR.out (by have:=HN5.out;omega) hlk).setCell (p:=⟨w.heap.size,0,none⟩) hBw _
  · simp only [World.setCell,Array.size_modify]
    omega
end Go.Proofs.YtbnganlfelgogaaGreat
