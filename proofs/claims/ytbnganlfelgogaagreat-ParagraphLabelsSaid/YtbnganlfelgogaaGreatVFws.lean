/- Fewest: the least number of lines. -/
import Derived.Test.YtbnganlfelgogaaGreatVFwp
import Derived.Test.YtbnganlfelgogaaGreatVBrl
set_option linter.unusedSimpArgs false
set_option linter.unusedVariables false
set_option maxRecDepth 100000
set_option maxHeartbeats 40000000
namespace Go.Proofs.YtbnganlfelgogaaGreat
open Go.RowKit Go.Shelf
attribute [local go_sem] Oper.semAt_some
def fwE (f:Fnt) (r:Rls) (ws:List PWord):Int × Int:=
 if paErr f r ws≠0 then (0,paErr f r ws) else match hop (tab f r ws) ((places ws).length-1) ((places ws).length-1) with | none=>(0,12) | some m=>((m:Int),0)
def FwPost (f:Fnt) (r:Rls) (ws:List PWord) (w:World) (e:Ending) (w':World):Prop:=e=.returned (.tuple #[.int .i64 (fwE f r ws).1,.int .i64 (fwE f r ws).2])∧Below w.heap.size w w'
theorem lit_inj {k:IntKind} {a b:Int} (h:(DataW.lit (Lit.int k a):DataW Unit)=.lit (.int k b)):a=b:=by
 injection h with h
 injection h
theorem fewest_any (f:Fnt) (v:Value) (r:Rls) (ws:List PWord) (vw:Value) (w:World) (hv:SoV w f.sorts v) (hn:f.name.size≤9223372036854775807) (hw:WoV w ws vw) :
 Calls Tryz.prog 70 #[.agg (fcs f v),.agg (rcs r),vw] w (FwPost f r ws w):=by
 have HT:=Lib.hid (UB.start (r:=r) hv hw)
 have HOP:=Lib.hid (fun W (h1:SoV W f.sorts v) (h2:WoV W ws vw)=>open_any f v r ws vw W h1 hn h2)
 have HPO:Hid (paErr f r ws=0→POk f r ws):=paErr_ok
 have HLA:=Lib.hid (fun pb vp W (h1:PA W pb f v r ws vw vp) (h2:(places ws).length≤300)=>last_any f v r ws vw vp pb W h1 h2)
 have HE:Hid (fwE f r ws=if paErr f r ws≠0 then (0,paErr f r ws) else match hop (tab f r ws) ((places ws).length-1) ((places ws).length-1) with | none=>(0,12) | some m=>((m:Int),0)):=rfl
 have H0:Hid (∀ W x y,fwE f r ws=(x,y)→Below w.heap.size w W→FwPost f r ws w (.returned (.tuple #[.int .i64 x,.int .i64 y])) W):=(show ∀ W x y,_ from fun W x y h hb=>⟨by rw [h],hb⟩)
 obtain ⟨Av,cv,rfl⟩:=hv.shape
 obtain ⟨Aw,cw,rfl,-⟩:=hw.shape
 clear hv hw hn
 have g0:=HT.out.T.F.cell 0
 have g1:=HT.out.T.F.cell 1
 have g2:=HT.out.T.F.cell 2
 have q0:=HT.out.T.R.cell 0
 have q1:=HT.out.T.R.cell 1
 have q2:=HT.out.T.R.cell 2
 have q3:=HT.out.T.R.cell 3
 have q4:=HT.out.T.R.cell 4
 have q5:=HT.out.T.R.cell 5
 have q6:=HT.out.T.R.cell 6
 have q7:=HT.out.T.R.cell 7
 have hmm:=@run_makeMap Tryz.prog
 refine (callsIn_wide (n:=10)).1 ?_
 refine callsIn_of_wp_marks Tryz.func70 rfl trivial ?_ rfl
 simp only [Tryz.ntmps70,List.size_toArray,List.length_cons,List.length_nil,Nat.reduceAdd,Nat.reduceSub,Array.replicate_succ,Array.replicate_zero,List.push_toArray,List.append_toArray,List.nil_append,List.cons_append]
 refine wpIn_wide.2 ?_
 go_wp2_with fail
 generalize (w.alloc (.cells (fcs f (.slice Av f.sorts.length cv)) 24)).alloc (.cells (rcs r) 26)=W0 at *
 refine (HOP.out _ HT.out.T.S HT.out.V).mono ?_
 rintro e W1 ⟨hb1,⟨hpe,rfl⟩ | ⟨hpe,pb,vp,rfl,hpb,hpa⟩⟩
 · have hpb:=bne_t hpe
   have HF:Hid (fwE f r ws=(0,paErr f r ws)):=by show _=_;rw [HE.out,if_pos hpe]
   have HB1:=Lib.hid (HT.out.T.B.trans (hb1.mono HT.out.T.B.size))
   clear hpe hb1
   go_wp2_with fail
   refine ⟨_,results_tmp2 rfl _ _ _,?_⟩
   exact H0.out _ _ _ HF.out HB1.out
 have HB1:=Lib.hid (HT.out.T.B.trans (hb1.mono HT.out.T.B.size))
 have HOK:=Lib.hid (HPO.out hpe)
 have HE2:Hid (fwE f r ws=match hop (tab f r ws) ((places ws).length-1) ((places ws).length-1) with | none=>(0,12) | some m=>((m:Int),0)):=by show _=_;rw [HE.out,if_neg (fun h=>h hpe)]
 obtain ⟨Ap,cp,rfl,-,-⟩:=hpa.L.shape
 have HA:=Lib.hid hpa
 have z12:=hpa.P.cell 12
 have zl:=hpa.P.lt
 have hm:=HOK.out.m
 have hpos:=places_pos ws
 have HTB:=Lib.hid (tab_ok HOK.out.ru hm)
 clear hpe hb1 hpa HOP HPO HE g0 g1 g2 q0 q1 q2 q3 q4 q5 q6 q7
 generalize hN:(places ws).length=N at *
 have HN:=Lib.hid hN
 clear hN
 have HBm:=Lib.hid (below_new W1 (.map #[] 0))
 have hown0:=World.ownsMap_made (H:=Unit) W1 Tryz.prog 3 (plainElem Tryz.prog 3)
 have hk0:keyOf Tryz.prog 3 (.int .i64 0)=some (.int .i64 0):=keyInt 0 (by omega)
 have hp0:plainElem (H:=Unit) Tryz.prog 3 (.int .i64 0)=some (.lit (.int .i64 0),[]):=plainElem_int Tryz.underlying3 (by decide)
 go_wp2_with (first
  | ((with_reducible refine at_ins ?_);refine wpList_insert_own _ rfl _ _ _ 186 rfl 3 3 law3 Tryz.underlying186 _ W1.heap.size 0 _ rfl hown0 (by decide) _ _ _ rfl rfl hk0 _ _ hp0 ?_
     intro W2 hown2 hgrow2
     have hbw:Below W1.heap.size W1 W2:=(below_new W1 (.map #[] 0)).grown hgrow2 (by simp) (fun k hk=>by injection hk with hk;omega)
     have HS2:=Lib.hid (HopS.start (N:=N) (t:=tab f r ws) hown2)
     have hmlt:=hown2.lt
     have HA2:=Lib.hid (HA.out.step hbw)
     have HB2:=Lib.hid hbw
     have z12':=HA2.out.P.cell 12
     have zl':=HA2.out.P.lt
     have HSZ:Hid (w.heap.size≤W1.heap.size):=HB1.out.size
     clear hgrow2 hown2 hbw))
 have HS0:Hid (FS (W2.alloc (.cells #[.map (some W1.heap.size)] 186)) W1 W2.heap.size W1.heap.size N (hop (tab f r ws) 0) 1 []):=by
  have hbn:=below_new W2 (.cells #[.map (some W1.heap.size)] 186)
  have h0:=HB2.out.size
  exact ⟨HB2.out.trans (hbn.mono h0),HS2.out.below hbn,Blk.new W2 186 _,List.nodup_nil,fun D hD=>(by cases hD),⟨Nat.le_refl _,h0,by have:=HS2.out.lt;omega⟩⟩
 clear z12' zl' HA2 HB2 HS2 HBm hown0 z12 zl hk0 hp0 hmlt
 generalize W2.alloc (.cells #[.map (some W1.heap.size)] 186)=W3 at *
 generalize W2.heap.size=ob at *
 generalize hmb:W1.heap.size=mb at *
 refine wp_loop_ghost_k (fun gg a' wr=>∃ (u11 u12 u13 u14 u15 u16 u36 u37 u38 u39 u40 u41 u42 u43 u44 u45 u46 u47 u48 u49 u51 u52 u53 u54 u55 u56 u57 u58 u59 u60 u61 u62 u63 u64 u65 u66 u67 u68 u69 u70 u71:Value) (dl:List Deferred),(∃ (k:Nat) (Ds:List Nat),k≤N∧N-k≤gg∧u36=.int .i64 (k:Int)∧dl=Ds.map mrk∧Hid (FS wr W1 ob mb N (hop (tab f r ws) k) (1+k*300) Ds))∧a'={ tmps:=#[.agg #[.string f.name,.int .i64 f.body,.slice Av f.sorts.length cv],.agg #[.int .i64 r.measure,.int .i64 r.indent,.int .i64 r.least,.int .i64 r.most,.int .i64 r.gap,.int .i64 r.hyphen,.int .i64 r.single,.int .i64 r.double],.slice Aw ws.length cw,.pointer (some ⟨w.heap.size,0,none⟩),.pointer (some ⟨w.heap.size+1,0,none⟩),undef,.int .i64 0,.int .i64 0,.pointer (some ⟨pb,0,none⟩),.int .i64 0,.pointer (some ⟨ob,0,none⟩),u11,u12,u13,u14,u15,u16,undef,undef,.tuple #[.pointer (some ⟨pb,0,none⟩),.int .i64 0],.agg #[.string f.name,.int .i64 f.body,.slice Av f.sorts.length cv],.agg #[.int .i64 r.measure,.int .i64 r.indent,.int .i64 r.least,.int .i64 r.most,.int .i64 r.gap,.int .i64 r.hyphen,.int .i64 r.single,.int .i64 r.double],.slice Aw ws.length cw,.tuple #[.pointer (some ⟨pb,0,none⟩),.int .i64 0],.pointer (some ⟨pb,0,none⟩),.int .i64 0,.int .i64 0,.bool false,undef,.map (some mb),.map (some mb),.pointer (some ⟨pb,0,none⟩),.pointer (some ⟨pb,0,none⟩),.pointer (some ⟨pb,12,none⟩),.slice Ap N cp,.int .i64 (N:Int),u36,u37,u38,u39,u40,u41,u42,u43,u44,u45,u46,u47,u48,u49,undef,u51,u52,u53,u54,u55,u56,u57,u58,u59,u60,u61,u62,u63,u64,u65,u66,u67,u68,u69,u70,u71,undef,undef,undef,undef,undef,undef,undef,undef,undef,undef],defers:=dl }) N ?_ ?_
 · (repeat apply Exists.intro)
   refine ⟨?_,rfl⟩
   exact ⟨0,[],by omega,by omega,rfl,rfl,HS0.out⟩
 intro gk _ wr hinv
 obtain ⟨u11,u12,u13,u14,u15,u16,u36,u37,u38,u39,u40,u41,u42,u43,u44,u45,u46,u47,u48,u49,u51,u52,u53,u54,u55,u56,u57,u58,u59,u60,u61,u62,u63,u64,u65,u66,u67,u68,u69,u70,u71,dl,hrel,ha⟩:=hinv
 subst ha
 intro _ _ _ _
 obtain ⟨k,Ds,hk,hgk,rfl,rfl,HS⟩:=hrel
 have o0:=HS.out.O.cell 0
 have ol:=HS.out.O.lt
 by_cases hlt:k < N
 · have hltz:(k:Int) < (N:Int):=by omega
   obtain ⟨D,hown,hisM,hfc⟩:=HS.out.M
   have hkey:=keyInt k (by omega)
   have hfk:=hfc k hlt
   cases hhk:hop (tab f r ws) k k with
   | none=>
    rw [hhk] at hfk
    have Hhas:Hid (Maps.has D (.int .i64 (k:Int))=false):=hfk.1
    have HF:Hid (hop (tab f r ws) (k+1)=hop (tab f r ws) k):=by show _=_;funext j;exact hop_not hhk j
    clear hfc hfk hhk
    go_wp2_with (first
     | (at_lookup;refine wpList_lookup_own_ok_int _ rfl _ _ 186 rfl 3 3 .i64 law3 Tryz.underlying186 Tryz.underlying3 (zero3 _) mb _ D rfl hown _ _ rfl hkey ?_;intro c hat hwc;rw [Hhas.out];clear hat hwc))
    go_roundg (N-(k+1))
    case measure=>omega
    case rel=>exact ⟨k+1,Ds,by omega,by omega,by go_num,rfl,by
     rw [HF.out]
     exact (HS.out.below (below_new wr _)).mono (by omega)⟩
   | some m=>
    rw [hhk] at hfk
    have Hhas:Hid (Maps.has D (.int .i64 (k:Int))=true):=hfk.1
    have HAT:Hid (D.atKey (.int .i64 (k:Int)) (.lit (.int .i64 0))=.lit (.int .i64 (m:Int))):=hfk.2 m rfl
    have HHK:=Lib.hid hhk
    have hmN:=hop_lt HTB.out hlt hhk
    clear hfc hfk hhk
    go_wp2_with (first
     | (at_lookup;refine wpList_lookup_own_ok_int _ rfl _ _ 186 rfl 3 3 .i64 law3 Tryz.underlying186 Tryz.underlying3 (zero3 _) mb _ D rfl hown _ _ rfl hkey ?_;intro c hat hwc;rw [Hhas.out];rw [HAT.out] at hat;have hce:=lit_inj hat;subst hce;clear hat hwc)
     | (go_at_call 113;(with_reducible refine (steps_any _ _ _).mono ?_);rintro e w5 ⟨rfl,rfl⟩))
    have hb3:Below wr.heap.size wr (((wr.alloc (.cells #[.int .i64 (m:Int)] 3)).alloc (.cells #[.pointer (some ⟨pb,0,none⟩)] 133)).alloc (.cells #[.int .i64 (k:Int)] 3)):=((below_new wr _).alloc (by simp) _).alloc (by simp;omega) _
    have HSW:Hid (SW W1 (((wr.alloc (.cells #[.int .i64 (m:Int)] 3)).alloc (.cells #[.pointer (some ⟨pb,0,none⟩)] 133)).alloc (.cells #[.int .i64 (k:Int)] 3)) (wr.heap.size+1+1) (wr.heap.size+1) k pb):=by
     refine ⟨HS.out.B.trans (hb3.mono HS.out.B.size),?_,?_,by simp,by simp⟩ <;> simp [go_sem]
    generalize hW0:(((wr.alloc (.cells #[.int .i64 (m:Int)] 3)).alloc (.cells #[.pointer (some ⟨pb,0,none⟩)] 133)).alloc (.cells #[.int .i64 (k:Int)] 3))=W0 at *
    refine (wpIn_wide (n:=10)).1 ?_
    refine wpIn_rangeFunc_ownH rfl (by omega:1≤10) (gf:=149) (lb:=#[.pointer (some ⟨wr.heap.size+1+1,0,none⟩),.pointer (some ⟨wr.heap.size+1,0,none⟩)]) rfl trivial (enters_of Tryz.func149 (by kernel_rfl) rfl)
     (steps_stops f _ r ws _ _ pb k (wr.heap.size+1+1) (wr.heap.size+1) W1 W0 HA.out HOK.out (by rw [HN.out];exact hlt) HSW.out 9 (by omega)) kpS_t ?hKb (Below.refl _ _) (fun _=>rfl)
     (fun pre W=>FS W W1 ob mb N (hpt (tab f r ws) k (pre.map Subtype.val)) (1+k*300+pre.length) Ds∧W.cell? ⟨wr.heap.size,0,none⟩=some (.int .i64 (m:Int))∧W0.heap.size≤W.heap.size) (fun _ _ _=>False) ?hI ?hIx ?h0 ?Ax ?hAx ?assign ?body ?done ?stop
    case hKb=>
     intro W l o o' hl ho hc hw
     have hwz:=HS.out.B.size
     have hz0:=hb3.size
     have hsz:=HSW.out.bx
     have hsz2:=HSW.out.bp
     exact ⟨belowK_b (w:=W1) (Nat.le_refl _) W l o o' (by omega) ho hc hw,World.putObj_heap_other (by omega),World.putObj_heap_other (by omega)⟩
    case h0=>
     rw [List.map_nil,hpt_nil]
     exact ⟨HS.out.below hb3,by rw [←hW0];simp [go_sem],Nat.le_refl _⟩
    case hIx=>exact fun _ _ _ _ _ hs _ _=>hs
    case stop=>
     rintro D c pre W _ _ hs _
     exact hs.elim
    case hI=>
     intro s W W' row hs hg hr
     have hwz:=HS.out.B.size
     have hz0:=hb3.size
     have hgl:=HS.out.M.lt
     have hol:=HS.out.O.lt
     have hfl:=HSW.out.bp
     have hne:∀ q,q < W0.heap.size→some q≠row:=fun q hq e=>by have:=(hr q e.symm).1;omega
     have hz1:=hs.1.B.size
     refine ⟨⟨hs.1.B.grown hg hz1 (fun q e=>by have:=(hr q e).1;omega),hs.1.M.kept hg (hne mb (by omega)),hs.1.O.grown hg (hne ob (by omega)),hs.1.nd,fun D hD=>?_,hs.1.lo⟩,?_,Nat.le_trans hs.2.2 hg.size⟩
     · have h1:=hs.1.mks D hD
       have h2:=(Array.getElem?_eq_some_iff.1 (HS.out.mks D hD).2).1
       exact ⟨h1.1,(hg.block D (Array.getElem?_eq_some_iff.1 h1.2).1 (hne D (by omega))).trans h1.2⟩
     · exact hg.cell hs.2.1 (hne wr.heap.size (by omega))
    case done=>
     rintro D xs W hD hxs ⟨hws,hc4,-⟩ hK
     have hDs:D ∉ Ds:=fun hm=>by
      have h2:=(Array.getElem?_eq_some_iff.1 (HS.out.mks D hm).2).1
      have:=hb3.size
      omega
     have hxl:xs.length≤300:=by
      have h1:=congrArg List.length hxs
      rw [List.length_map] at h1
      have h2:=stp_len (tab f r ws) k ((places ws).length-1-k)
      have:=HN.out
      omega
     have HWS:Hid (FS W W1 ob mb N (hop (tab f r ws) (k+1)) (1+(k+1)*300) (D :: Ds)):=by
      have h1:=(hws.congr (Q:=hop (tab f r ws) (k+1)) (fun j hj=>by rw [hxs,HN.out];exact hpt_end HTB.out hlt j hj)).mono (c':=1+(k+1)*300) (by omega)
      exact ⟨h1.B,h1.M,h1.O,List.nodup_cons.2 ⟨hDs,h1.nd⟩,fun D' hD'=>(by
       rcases List.mem_cons.1 hD' with e | e
       · subst e;exact ⟨by have:=HS.out.B.size;have:=hb3.size;omega,hK⟩
       · exact h1.mks D' e),h1.lo⟩
     clear hws hc4 hxs hxl
     go_wp2_with fail
     go_roundg (N-(k+1))
     case measure=>omega
     case rel=>exact ⟨k+1,D :: Ds,by omega,by omega,by go_num,rfl,HWS.out⟩
    case Ax=>
     exact fun x a' W=>∃ Bx,Blk W Bx 172 #[.int .i64 (k:Int),.int .i64 (x.1:Int),.int .i64 (((tab f r ws k x.1).getD 0:Nat):Int)]∧a'={ tmps:=#[.agg #[.string f.name,.int .i64 f.body,.slice Av f.sorts.length cv],.agg #[.int .i64 r.measure,.int .i64 r.indent,.int .i64 r.least,.int .i64 r.most,.int .i64 r.gap,.int .i64 r.hyphen,.int .i64 r.single,.int .i64 r.double],.slice Aw ws.length cw,.pointer (some ⟨w.heap.size,0,none⟩),.pointer (some ⟨w.heap.size+1,0,none⟩),undef,.int .i64 0,.int .i64 0,.pointer (some ⟨pb,0,none⟩),.int .i64 0,.pointer (some ⟨ob,0,none⟩),.int .i64 (k:Int),.pointer (some ⟨wr.heap.size,0,none⟩),.bool true,.pointer (some ⟨Bx,0,none⟩),u15,u16,undef,undef,.tuple #[.pointer (some ⟨pb,0,none⟩),.int .i64 0],.agg #[.string f.name,.int .i64 f.body,.slice Av f.sorts.length cv],.agg #[.int .i64 r.measure,.int .i64 r.indent,.int .i64 r.least,.int .i64 r.most,.int .i64 r.gap,.int .i64 r.hyphen,.int .i64 r.single,.int .i64 r.double],.slice Aw ws.length cw,.tuple #[.pointer (some ⟨pb,0,none⟩),.int .i64 0],.pointer (some ⟨pb,0,none⟩),.int .i64 0,.int .i64 0,.bool false,undef,.map (some mb),.map (some mb),.pointer (some ⟨pb,0,none⟩),.pointer (some ⟨pb,0,none⟩),.pointer (some ⟨pb,12,none⟩),.slice Ap N cp,.int .i64 (N:Int),.int .i64 (k:Int),.bool true,.int .i64 (k:Int),.tuple #[.int .i64 (m:Int),.bool true],.map (some mb),.int .i64 (k:Int),.tuple #[.int .i64 (m:Int),.bool true],.int .i64 (m:Int),.bool true,.bool true,.bool false,.pointer (some ⟨pb,0,none⟩),.int .i64 (k:Int),.func (.func 149) #[] #[.pointer (some ⟨wr.heap.size+1+1,0,none⟩),.pointer (some ⟨wr.heap.size+1,0,none⟩)],.agg #[.int .i64 (k:Int),.int .i64 (x.1:Int),.int .i64 (((tab f r ws k x.1).getD 0:Nat):Int)],u51,u52,u53,u54,u55,u56,u57,u58,u59,u60,u61,u62,u63,u64,u65,u66,u67,u68,u69,u70,u71,undef,undef,undef,undef,undef,undef,undef,undef,undef,undef],defers:=[] }
    case hAx=>
     rintro x a' _ X Y row ⟨Bx,h2,h3⟩ hg hr
     refine ⟨Bx,Blk.grown h2 hg (fun e=>?_),h3⟩
     obtain ⟨_,o,ho,hc⟩:=hr Bx e.symm
     have h4:X.heap[Bx]?=_:=h2
     rw [h4] at ho
     cases ho
     cases hc
    case assign=>
     rintro l pre x W K ⟨hws,hc4,hwl⟩ hK
     have hwz:=HS.out.B.size
     have hz0:=hb3.size
     have hz1:=hws.B.size
     gi_wp2
     have hsz:=HSW.out.bx
     have hsz2:=HSW.out.bp
     have hbn:=below_new W (.cells #[.int .i64 (k:Int),.int .i64 (x.1:Int),.int .i64 (((tab f r ws k x.1).getD 0:Nat):Int)] 172)
     have hne:∀ q,q < W.heap.size→(W.alloc (.cells #[.int .i64 (k:Int),.int .i64 (x.1:Int),.int .i64 (((tab f r ws k x.1).getD 0:Nat):Int)] 172)).heap[q]?=W.heap[q]?:=fun q hq=>hbn.block q hq
     exact hK _ _ ((KeepsOthers.alloc _ _).from _) ⟨hbn.mono hz1,hne _ (by omega),hne _ (by omega)⟩ ⟨hws.below hbn,(hbn.cell (p:=⟨wr.heap.size,0,none⟩) (by show wr.heap.size < _;omega)).trans hc4,by have:=hbn.size;omega⟩ ⟨W.heap.size,Blk.new W _ _,rfl⟩
    case body=>
     rintro l pre x a' W hl ⟨rl,hrl⟩ ⟨hws,hc4,hwl⟩ ⟨Bx,hbx,rfl⟩ hlen
     obtain ⟨j,hj⟩:=x
     have hlen2:pre.length < N:=by rw [←HN.out];exact hlen
     obtain ⟨d,hd⟩:=Option.isSome_iff_exists.1 hj
     have hgd:(tab f r ws k j).getD 0=d:=by rw [hd];rfl
     have hup:=HTB.out.up hd
     have HWS:=Lib.hid hws
     obtain ⟨D2,hown2,hisM2,hfc2⟩:=hws.M
     have hkey2:=keyInt j (by omega)
     have hfj:=hfc2 j hup.2.1
     have x1:=hbx.cell 1
     have xl:=hbx.lt
     have oc:=hws.O.cell 0
     have ocl:=hws.O.lt
     dsimp only at x1
     have hbl:wr.heap.size < W.heap.size:=by have:=HSW.out.bp;omega
     have HNW:=Lib.hid (fun hp=>hpt_new (pre:=pre.map Subtype.val) hd HHK.out hp)
     have HLE:=Lib.hid (fun x hp=>hpt_less (x:=x) (pre:=pre.map Subtype.val) hd HHK.out hp)
     have HST:=Lib.hid (fun x hp hn=>hpt_stay (x:=x) (pre:=pre.map Subtype.val) hd HHK.out hp hn)
     have HFC:=Lib.hid hfc2
     have HIM:=Lib.hid hisM2
     simp only [hgd]
     clear hws hbx hd hfc2 hisM2
     have hpv:plainElem (H:=Unit) Tryz.prog 3 (.int .i64 ((m:Int)+1))=some (.lit (.int .i64 ((m:Int)+1)),[]):=plainElem_int Tryz.underlying3 (by simp [Lit.wf,IntKind.min,IntKind.max,IntKind.signed,IntKind.bits];omega)
     have HOW:=Lib.hid hown2
     have HPUT:Hid (∀ W2,W2.ownsMap Tryz.prog 3 (plainElem Tryz.prog 3) mb (1+k*300+pre.length+1) (D2.put (.int .i64 (j:Int)) (.lit (.int .i64 ((m:Int)+1))))→W.grownBy W2 (some mb)→hop (tab f r ws) (k+1) j=some (m+1)→
      ownPostG W0.heap.size (KpS W1.heap.size (wr.heap.size+1+1) (wr.heap.size+1)) (fun pre W=>FS W W1 ob mb N (hpt (tab f r ws) k (pre.map Subtype.val)) (1+k*300+pre.length) Ds∧W.cell? ⟨wr.heap.size,0,none⟩=some (.int .i64 (m:Int))∧W0.heap.size≤W.heap.size) (fun _ _ _=>False) (pre++[⟨j,hj⟩]) W .normal ⟨#[],[]⟩ W2):=(show ∀ W2,_ from fun W2 ho hg hh=>by
      have hcast:(((m+1:Nat)):Int)=(m:Int)+1:=by omega
      have hz1:=HWS.out.B.size
      have hgm:mb < wr.heap.size:=HS.out.M.lt
      have hsz:=HSW.out.bx
      have hp1:=HWS.out.put (j:=j) (m:=m+1) HIM.out HFC.out (by rw [hcast];exact ho) hg
      have hne:∀ q,q < W.heap.size→q≠mb→W2.heap[q]?=W.heap[q]?:=fun q hq hn=>hg.block q hq (fun e=>hn (by injection e))
      have hb2:Below W1.heap.size W W2:=(Below.refl W1.heap.size W).grown hg hz1 (fun t ht=>by injection ht with ht;rw [←ht];exact HWS.out.lo.1)
      refine ⟨⟨hg.size,fun q o hq ho hc=>(hne q (Array.getElem?_eq_some_iff.1 ho).1 (by have:=hb3.size;omega)).trans ho⟩,⟨hb2,hne _ (by omega) (by omega),hne _ (by omega) (by omega)⟩,?_,?_,Nat.le_trans hwl hg.size⟩
      · show FS _ W1 ob mb N (hpt (tab f r ws) k ((pre++[(⟨j,hj⟩:Al f r ws k)]).map Subtype.val)) (1+k*300+(pre++[(⟨j,hj⟩:Al f r ws k)]).length) Ds
        rw [List.map_append,List.map_cons,List.map_nil,hpt_snoc,hh,List.length_append]
        exact hp1
      · exact (cell_blk (hne _ (by omega) (by omega))).trans hc4)
     cases hpj:hpt (tab f r ws) k (pre.map Subtype.val) j with
     | none=>
      rw [hpj] at hfj
      have Hhas2:Hid (Maps.has D2 (.int .i64 (j:Int))=false):=hfj.1
      have HN2:=Lib.hid (HNW.out hpj)
      clear HNW HLE HST hpj hfj
      gi_wp2_with (first
       | (gi_at_lookup;refine wpListIn_lookup_own_ok_int _ rfl _ _ 186 rfl 3 3 .i64 law3 Tryz.underlying186 Tryz.underlying3 (zero3 _) mb _ D2 rfl hown2 _ _ rfl hkey2 ?_;intro c hat hwc;rw [Hhas2.out];clear hat hwc)
       | (gi_at_mapUpdate;refine wpListIn_mapUpdate_own _ rfl _ _ _ 186 rfl 3 3 law3 Tryz.underlying186 _ mb _ D2 rfl hown2 (by simp only [maxLen];omega) _ _ _ rfl rfl hkey2 _ [] hpv ?_;intro W2 hown3 hgrow3))
      exact HPUT.out _ hown3 hgrow3 HN2.out
     | some x=>
      rw [hpj] at hfj
      have Hhas2:Hid (Maps.has D2 (.int .i64 (j:Int))=true):=hfj.1
      have HAT2:Hid (D2.atKey (.int .i64 (j:Int)) (.lit (.int .i64 0))=.lit (.int .i64 (x:Int))):=hfj.2 x rfl
      have HL2:=Lib.hid (HLE.out x hpj)
      have HS2:=Lib.hid (HST.out x hpj)
      clear HNW HLE HST hpj hfj
      by_cases hmx:m+1 < x
      · have hmz:(m:Int)+1 < (x:Int):=by omega
        have HN2:Hid (hop (tab f r ws) (k+1) j=some (m+1)):=by show _=_;rw [HL2.out,if_pos hmx]
        clear hmx
        gi_wp2_with (first
         | (gi_at_lookup;refine wpListIn_lookup_own_ok_int _ rfl _ _ 186 rfl 3 3 .i64 law3 Tryz.underlying186 Tryz.underlying3 (zero3 _) mb _ D2 rfl hown2 _ _ rfl hkey2 ?_;intro c hat hwc;rw [Hhas2.out];rw [HAT2.out] at hat;have hce:=lit_inj hat;subst hce;clear hat hwc)
         | (gi_at_mapUpdate;refine wpListIn_mapUpdate_own _ rfl _ _ _ 186 rfl 3 3 law3 Tryz.underlying186 _ mb _ D2 rfl hown2 (by simp only [maxLen];omega) _ _ _ rfl rfl hkey2 _ [] hpv ?_;intro W2 hown3 hgrow3))
        exact HPUT.out _ hown3 hgrow3 HN2.out
      · have hmz:¬(m:Int)+1 < (x:Int):=by omega
        have HN2:=Lib.hid (HS2.out hmx)
        clear hmx
        gi_wp2_with (first
         | (gi_at_lookup;refine wpListIn_lookup_own_ok_int _ rfl _ _ 186 rfl 3 3 .i64 law3 Tryz.underlying186 Tryz.underlying3 (zero3 _) mb _ D2 rfl hown2 _ _ rfl hkey2 ?_;intro c hat hwc;rw [Hhas2.out];rw [HAT2.out] at hat;have hce:=lit_inj hat;subst hce;clear hat hwc))
        refine ⟨KeepsFrom.refl _ _,⟨Below.refl _ _,rfl,rfl⟩,?_,hc4,hwl⟩
        show FS _ W1 ob mb N (hpt (tab f r ws) k ((pre++[(⟨j,hj⟩:Al f r ws k)]).map Subtype.val)) (1+k*300+(pre++[(⟨j,hj⟩:Al f r ws k)]).length) Ds
        rw [List.map_append,List.map_cons,List.map_nil,HN2.out,List.length_append]
        exact HWS.out.mono (by omega)
 · have hltz:¬(k:Int) < (N:Int):=by omega
   have hke:k=N:=by omega
   have HK:Hid (∀ j,j < N→hop (tab f r ws) k j=hop (tab f r ws) j j):=(show ∀ j,_ from fun j hj=>hop_stay HTB.out k (by omega))
   clear hlt hke
   obtain ⟨D,hown,hisM,hfc⟩:=HS.out.M
   have hf2:=hfc (N-1) (by omega)
   rw [HK.out (N-1) (by omega)] at hf2
   have hkey:=keyInt (N-1) (by omega)
   have HLC:Hid (∀ q,Calls Tryz.prog 87 #[.pointer (some ⟨pb,0,none⟩)] (wr.drewN q) fun e w'=>e=.returned (.int .i64 ((N-1:Nat):Int))∧w'=wr.drewN q):=(show ∀ q,_ from fun q=>HLA.out pb _ _ ((HA.out.step HS.out.B).step (below_drewN wr q)) hm)
   obtain ⟨q,hq⟩:∃ q,N-1=q:=⟨_,rfl⟩
   rw [hq] at hf2 hkey HLC HE2
   clear hfc
   have hrun:∃ (c:Int),(∀ m,hop (tab f r ws) q q=some m→c=(m:Int))∧∀ p,(Instr.lookup 186 (.map (some mb)) (.int .i64 (q:Int)) true).run Tryz.prog (wr.drewN p)=.ok (.tuple #[.int .i64 c,.bool (hop (tab f r ws) q q).isSome]) (wr.drewN p):=by
    have h1:∀ p,∃ c:Int,D.atKey (.int .i64 (q:Int)) (.lit (.int .i64 0))=.lit (.int .i64 c)∧(Instr.lookup 186 (.map (some mb)) (.int .i64 (q:Int)) true).run Tryz.prog (wr.drewN p)=.ok (.tuple #[.int .i64 c,.bool (Maps.has D (.int .i64 (q:Int)))]) (wr.drewN p):=fun p=>by
     have ho:(wr.drewN p).ownsMap Tryz.prog 3 (plainElem Tryz.prog 3) mb (1+k*300) D:=hown.kept (row:=none) ⟨rfl,rfl,rfl,Nat.le_refl _,fun _ _ _=>rfl⟩ (by simp)
     obtain ⟨v,ps,h1,h2⟩:=ho.look_ok law3 Tryz.underlying186 (zero3 _) (plainElem_int (a:=0) Tryz.underlying3 (by decide)) hkey
     obtain ⟨c,rfl,hc,-⟩:=plainElem_int_inv Tryz.underlying3 h2
     exact ⟨c,congrArg Prod.fst hc,h1⟩
    obtain ⟨c,hc,-⟩:=h1 0
    refine ⟨c,fun m hm=>?_,fun p=>?_⟩
    · have:=hf2.2 m hm
      rw [hc] at this
      exact lit_inj this
    · obtain ⟨c',hc',h2⟩:=h1 p
      rw [hc] at hc'
      rw [lit_inj hc',←hf2.1]
      exact h2
   obtain ⟨c,hc,hrun⟩:=hrun
   go_wp2_with fail
   go_quiet (first
    | (go_at_call 87;exact Calls.quiet_of_same (HLC.out _)))
   have HF2:=Lib.hid (HS.out.below (below_drewN wr nq))
   generalize wr.drewN nq=W4 at *
   cases hh:hop (tab f r ws) q q with
   | none=>
    have HF:Hid (fwE f r ws=(0,12)):=by show _=_;rw [HE2.out,hh]
    clear hrun hf2 hc hh HE2
    go_wp2_with fail
    refine leaves_marks (by simp) Ds _ HF2.out.nd (fun D hD=>(HF2.out.mks D hD).2) (fun W' hW'=>?_)
    refine ⟨_,results_tmp2 rfl _ _ _,?_⟩
    exact H0.out _ _ _ HF.out (HB1.out.trans ((HF2.out.B.trans ((hW'.below (fun D hD=>(HF2.out.mks D hD).1)))).mono HB1.out.size))
   | some m=>
    have HF:Hid (fwE f r ws=((m:Int),0)):=by show _=_;rw [HE2.out,hh]
    have hcm:=hc m hh
    subst hcm
    clear hrun hf2 hc hh HE2
    go_wp2_with fail
    refine leaves_marks (by simp) Ds _ HF2.out.nd (fun D hD=>(HF2.out.mks D hD).2) (fun W' hW'=>?_)
    refine ⟨_,results_tmp2 rfl _ _ _,?_⟩
    exact H0.out _ _ _ HF.out (HB1.out.trans ((HF2.out.B.trans ((hW'.below (fun D hD=>(HF2.out.mks D hD).1)))).mono HB1.out.size))
end Go.Proofs.YtbnganlfelgogaaGreat
