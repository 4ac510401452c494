/- WordsOf: the words of a line. -/
import Derived.Test.YtbnganlfelgogaaGreatVRnr
import Derived.Test.YtbnganlfelgogaaGreatVRgd
import Derived.Test.YtbnganlfelgogaaGreatVPst
import Derived.Test.YtbnganlfelgogaaGreatVQrd
import Derived.Test.YtbnganlfelgogaaGreatVAsq
import Derived.Test.YtbnganlfelgogaaGreatVSal
set_option linter.unusedSimpArgs false
set_option linter.unusedVariables false
set_option maxRecDepth 100000
set_option maxHeartbeats 40000000
namespace Go.Proofs.YtbnganlfelgogaaGreat
open Go.RowKit Go.Shelf Go.Sort
attribute [local go_sem] Oper.semAt_some
theorem runsF_any (f:Fnt) (Av:Option Addr) (cv:Nat) (As:Option Addr) (ns cs:Nat) (A:Option Addr) (m c:Nat) (w:World):Calls Tryz.prog 122 #[.agg (xfs f (.slice Av f.sorts.length cv) (.slice As ns cs)),.slice A m c] w fun e w'=>
 e=.returned (.func (.func 153) #[] #[.pointer (some ⟨w.heap.size+1,0,none⟩),.pointer (some ⟨w.heap.size,0,none⟩)])∧w'=(w.alloc (.cells (xfs f (.slice Av f.sorts.length cv) (.slice As ns cs)) 189)).alloc (.cells #[.slice A m c] 34):=by
 go_enter Tryz.func122,Tryz.ntmps122
 go_wp2_with fail
 go_ret
 exact ⟨rfl,rfl⟩
theorem own_away {w:World} {B:Nat} {e:TypeId} {sz n:Nat} {v:Value} {xs:List Value} {row:Option Nat} (h:w.ownsRow B e sz v n xs) (hne:∀ r,row=some r→r < B∨∃ o:Obj,w.heap[r]?=some o∧o.isCells=false):v.ownBlock=none∨v.ownBlock≠row:=by
 rcases h.2 with ⟨rfl,_⟩ | ⟨g,cap,cur,rfl,hB,hg,_⟩
 · exact .inl rfl
 · refine .inr fun e=>?_
   rw [ownBlock_some] at e
   rcases hne g e.symm with h1 | ⟨o,h1,h2⟩
   · omega
   · rw [hg] at h1
     injection h1 with h1
     rw [←h1] at h2
     cases h2
theorem PSt.away {W W':World} {B:Nat} {pss:List (List Int)} {vo:Value} {hd:List Value} {row:Option Nat} (h:PSt W B pss vo hd) (hg:W.grownBy W' row) (hne:∀ r,row=some r→r < B∨∃ o:Obj,W.heap[r]?=some o∧o.isCells=false):PSt W' B pss vo hd:=
 ⟨h.row.kept hg (own_away h.row hne),h.len,fun i hi=>(h.pc i hi).kept hg (own_away (h.pc i hi) hne),h.sep⟩
structure WI (w W:World) (f:Fnt) (zs:List Int) (ob bx:Nat) (vo:Value) (hd:List Value) (pre:List (Nat × Nat)):Prop where
 B:Below w.heap.size w W
 O:Blk W ob 86 #[vo]
 P:PSt W (bx+1) (wdsOf (spB f) zs pre) vo hd
 lt:bx < W.heap.size
theorem WI.below {w W W':World} {f:Fnt} {zs:List Int} {ob bx:Nat} {vo:Value} {hd:List Value} {pre:List (Nat × Nat)} (h:WI w W f zs ob bx vo hd pre) (hb:Below W.heap.size W W'):WI w W' f zs ob bx vo hd pre:=
 ⟨h.B.trans (hb.mono h.B.size),h.O.below hb h.O.lt,h.P.below hb,Nat.lt_of_lt_of_le h.lt hb.size⟩
def WofPost (f:Fnt) (me:Int) (zs:List Int) (w:World) (e:Ending) (w':World):Prop:=Below w.heap.size w w'∧
 ((rdE f me zs≠0∧e=.returned (.tuple #[.slice none 0 0,.int .i64 (rdE f me zs)]))∨(rdE f me zs=0∧∃ v hd,e=.returned (.tuple #[v,.int .i64 0])∧PSt w' w.heap.size (wdsOf (spB f) zs (runsL (spB f) zs)) v hd))
theorem wordsOf_any (f:Fnt) (v:Value) (me:Int) (zs:List Int) (vz:Value) (w:World) (hv:SoV w f.sorts v) (hz:IV w zs vz) (hn:f.name.size≤9223372036854775807) (hm:zs.length≤1000000) (hf:f.sorts.length≤100000) :
 Calls Tryz.prog 75 #[.agg (fcs f v),.agg #[.int .i64 me,vz]] w (WofPost f me zs w):=by
 have hb0:=below_new w (.cells (fcs f v) 24)
 have hb1:=below_new (w.alloc (.cells (fcs f v) 24)) (.cells #[.int .i64 me,vz] 83)
 have hF:=Blk.new w 24 (fcs f v)
 have hL:=Blk.new (w.alloc (.cells (fcs f v) 24)) 83 #[.int .i64 me,vz]
 rw [World.size_alloc] at hL
 have HF:=Lib.hid (hF.below hb1 hF.lt)
 have HL:=Lib.hid hL
 have HB:=Lib.hid (hb0.trans (hb1.mono hb0.size))
 have HV:=Lib.hid ((hv.below hb0).below hb1)
 have HZ:=Lib.hid ((hz.below hb0).below hb1)
 have HC:=Lib.hid (readL_any f v me zs vz _ HV.out HZ.out hn hm hf)
 have HERR:Hid (∀ W x,x=rdE f me zs∧rdE f me zs≠0→Below w.heap.size w W→WofPost f me zs w (.returned (.tuple #[.slice none 0 0,.int .i64 x])) W):=(show ∀ W x,_ from fun W x h1 h2=>by obtain ⟨rfl,h0⟩:=h1;exact ⟨h2,.inl ⟨h0,rfl⟩⟩)
 obtain ⟨Av,cv,rfl⟩:=hv.shape
 obtain ⟨Az,_,_,cz,rfl,-⟩:=hz.open
 have c0:=HF.out.cell 0
 have c1:=HF.out.cell 1
 have c2:=HF.out.cell 2
 have d0:=HL.out.cell 0
 have d1:=HL.out.cell 1
 clear hb0 hb1 hF hL hv hz HF
 refine (callsIn_wide (n:=10)).1 ?_
 refine callsIn_of_wp_marks Tryz.func75 rfl trivial ?_ rfl
 simp only [Tryz.ntmps75,List.size_toArray,List.length_cons,List.length_nil,Nat.reduceAdd,Nat.reduceSub,Array.replicate_succ,Array.replicate_zero,List.push_toArray,List.append_toArray,List.nil_append,List.cons_append]
 refine wpIn_wide.2 ?_
 go_upto_region 1 with fail
 generalize (w.alloc (.cells (fcs f (.slice Av f.sorts.length cv)) 24)).alloc (.cells #[.int .i64 me,.slice Az zs.length cz] 83)=W0 at *
 go_wp2_with fail
 refine HC.out.mono ?_
 rintro e W1 ⟨hb1,hans⟩
 have HB1:=Lib.hid (HB.out.trans (hb1.mono HB.out.size))
 have HL1:=Lib.hid (HL.out.below hb1 HL.out.lt)
 have HV1:=Lib.hid (HV.out.below hb1)
 have HZ1:=Lib.hid (HZ.out.below hb1)
 clear hb1 c0 c1 c2 d0 d1 HC HL HV HZ HB
 rcases hans with ⟨hne,rfl⟩ | ⟨hfe,vs,rfl,hvs⟩
 · have hbn:=bne_t hne
   have HWHY:Hid ((fnErr f).2=rdE f me zs∧rdE f me zs≠0):=(show _∧_ from by unfold rdE;rw [if_pos hne];exact ⟨rfl,hne⟩)
   have HB2:=Lib.hid (HB1.out.alloc HB1.out.size (.cells zf4 189))
   generalize (fnErr f).2=fe at *
   clear hne
   go_wp2_with fail
   refine leaves_marks (by simp) [] _ (by simp) (fun D' h=>by cases h) (fun W' hW'=>?_)
   refine ⟨_,results_tmp2 rfl _ _ _,?_⟩
   exact HERR.out _ _ HWHY.out (HB2.out.trans (hW'.below (fun D h=>by cases h)))
 · obtain ⟨As,_,_,cs,rfl,-⟩:=hvs.open
   have HRE:Hid (rdE f me zs=lnsE f me zs):=(show _=_ from by unfold rdE;rw [if_neg (fun h=>h hfe)])
   have hbx:=below_new W1 (.cells (xfs f (.slice Av f.sorts.length cv) (.slice As (spl f.sorts f.sorts.length).length cs)) 189)
   have HB2:=Lib.hid (HB1.out.trans (hbx.mono HB1.out.size))
   have HX2:=Lib.hid (Blk.new W1 189 (xfs f (.slice Av f.sorts.length cv) (.slice As (spl f.sorts f.sorts.length).length cs)))
   have HL2:=Lib.hid (HL1.out.below hbx HL1.out.lt)
   have HV2:=Lib.hid (HV1.out.below hbx)
   have HZ2:=Lib.hid (HZ1.out.below hbx)
   clear hbx HB1 HL1 HV1 HZ1 hvs
   generalize (spl f.sorts f.sorts.length).length=ns at *
   by_cases h0:lnsE f me zs=0
   · obtain ⟨-,hz300,hinf⟩:=lns_in h0
     have HIN:=Lib.hid hinf
     have HR0:Hid (rdE f me zs=0):=HRE.out.trans h0
     have hfew:=(fnErr_few hfe).2
     have hbn:=bne_f h0
     rw [h0] at hbn ⊢
     clear h0 HRE HERR hinf
     go_upto_region 5 with fail
     have x0:=HX2.out.cell 0
     have x1:=HX2.out.cell 1
     have x2:=HX2.out.cell 2
     have x3:=HX2.out.cell 3
     have xl:=HX2.out.lt
     have l1:=HL2.out.cell 1
     have ll:=HL2.out.lt
     have hobx:(W1.alloc (.cells (xfs f (.slice Av f.sorts.length cv) (.slice As ns cs)) 189)).heap.size=W1.heap.size+1:=by simp
     generalize W1.alloc (.cells (xfs f (.slice Av f.sorts.length cv) (.slice As ns cs)) 189)=W2 at *
     generalize W1.heap.size=xb at *
     obtain ⟨b,off,hb,hzs,hA⟩:∃ b off,b < W2.heap.size∧ZsAt W2 b off zs∧(0 < zs.length→Az=some ⟨b,off,none⟩):=by
      obtain ⟨A',b',off',c',e,hA',hz',-,-⟩:=(HZ2.out).open
      injection e with e1 e2 e3
      subst e1
      by_cases h0:0 < zs.length
      · obtain ⟨h1,h2⟩:=hA' h0
        exact ⟨b',off',h2,hz',fun _=>h1⟩
      · refine ⟨0,0,?_,fun j hj=>absurd hj (by omega),fun h=>absurd h h0⟩
        have:=HX2.out.lt
        omega
     have hcz:zs.length≤cz∧cz≤9223372036854775807:=by
      obtain ⟨A',b',off',c',e,_,_,h1,h2⟩:=(HZ2.out).open
      injection e with e1 e2 e3
      subst e3
      exact ⟨h1,h2⟩
     have HCZ:=Lib.hid hcz
     have HBB:=Lib.hid hb
     have HZS:=Lib.hid hzs
     have HAZ:=Lib.hid hA
     clear hcz hb hzs hA
     have hbo:=below_new W2 (.cells #[.slice none 0 0] 86)
     have HBO:=Lib.hid hbo
     have HO3:=Lib.hid (Blk.new W2 86 #[.slice none 0 0])
     have HX3:=Lib.hid (HX2.out.below hbo xl)
     have HL3:=Lib.hid (HL2.out.below hbo ll)
     clear hbo x0 x1 x2 x3 xl l1 ll HX2 HL2
     have x0:=HX3.out.cell 0
     have x1:=HX3.out.cell 1
     have x2:=HX3.out.cell 2
     have x3:=HX3.out.cell 3
     have xl:=HX3.out.lt
     have l1:=HL3.out.cell 1
     have ll:=HL3.out.lt
     have HSZ3:Hid ((W2.alloc (.cells #[.slice none 0 0] 86)).heap.size=W2.heap.size+1):=(show _=_ from by simp)
     have HOB:=Lib.hid hobx
     rw [hobx] at HO3
     clear hobx
     generalize W2.alloc (.cells #[.slice none 0 0] 86)=W3 at *
     go_wp2_with ((go_at_call 122;(with_reducible refine (runsF_any _ _ _ _ _ _ _ _ _ _).mono ?_);rintro e w4 ⟨rfl,rfl⟩))
     have hb4:Below W3.heap.size W3 ((W3.alloc (.cells (xfs f (.slice Av f.sorts.length cv) (.slice As ns cs)) 189)).alloc (.cells #[.slice Az zs.length cz] 34)):=(below_new W3 _).alloc (by simp) _
     have HRW:Hid (RW W2 ((W3.alloc (.cells (xfs f (.slice Av f.sorts.length cv) (.slice As ns cs)) 189)).alloc (.cells #[.slice Az zs.length cz] 34)) f (.slice Av f.sorts.length cv) (.slice As ns cs) zs b off cz (W3.heap.size+1) W3.heap.size 0):=(show RW _ _ _ _ _ _ _ _ _ _ _ _ from by
      have h1:=Blk.new W3 189 (xfs f (.slice Av f.sorts.length cv) (.slice As ns cs))
      have h2:=Blk.new (W3.alloc (.cells (xfs f (.slice Av f.sorts.length cv) (.slice As ns cs)) 189)) 34 #[.slice Az zs.length cz]
      rw [World.size_alloc] at h2
      exact ⟨HBO.out.trans (hb4.mono HBO.out.size),⟨Az,cz,h2,fun h=>⟨HAZ.out h,rfl⟩⟩,h1.below (below_new _ _) h1.lt⟩)
     have hW4e:((W3.alloc (.cells (xfs f (.slice Av f.sorts.length cv) (.slice As ns cs)) 189)).alloc (.cells #[.slice Az zs.length cz] 34)).heap.size=W3.heap.size+2:=by simp
     have hW4a:=Nat.le_of_eq hW4e
     have hW4b:=Nat.le_of_eq hW4e.symm
     clear hW4e
     generalize (W3.alloc (.cells (xfs f (.slice Av f.sorts.length cv) (.slice As ns cs)) 189)).alloc (.cells #[.slice Az zs.length cz] 34)=W4 at *
     have hb2s:=HB2.out.size
     have hob1:W2.heap.size≤xb+1:=Nat.le_of_eq HOB.out
     have hob2:xb+1≤W2.heap.size:=Nat.le_of_eq HOB.out.symm
     have hsz1:W3.heap.size≤W2.heap.size+1:=Nat.le_of_eq HSZ3.out
     have hsz2:W2.heap.size+1≤W3.heap.size:=Nat.le_of_eq HSZ3.out.symm
     refine (wpIn_wide (n:=10)).1 ?_
     refine range_box rfl (by omega:1≤10) (gf:=153) (lb:=#[.pointer (some ⟨W3.heap.size+1,0,none⟩),.pointer (some ⟨W3.heap.size,0,none⟩)]) rfl trivial (enters_of Tryz.func153 (by kernel_rfl) rfl)
      (runs_gives f _ _ zs b off cz (W3.heap.size+1) W3.heap.size W2 W4 HV2.out HBB.out HZS.out zs.length rfl HCZ.out.1 HCZ.out.2 HIN.out hm (by omega) HRW.out (by omega) (by omega) 9 (by omega)) kpR_t ?hKb (Below.refl _ _) (fun _=>rfl) (by omega)
      (fun pre W=>(∃ vo hd,WI w W f zs (xb+1) (W3.heap.size+1) vo hd (pre.map Subtype.val))∧W4.heap.size≤W.heap.size∧Below W2.heap.size W2 W) ?hI ?h0 ?Ax ?hAx ?assign ?body ?done
     case hKb=>
      intro W l o o' hl ho hc hw
      exact ⟨belowK_b (w:=W2) (Nat.le_refl _) W l o o' (by omega) ho hc hw,World.putObj_heap_other (by omega),World.putObj_heap_other (by omega)⟩
     case hI=>
      rintro s W W' row ⟨⟨vo,hd,h⟩,h4,h5⟩ hg hr
      have hge:∀ r,row=some r→W3.heap.size+1≤r:=fun r e=>by
       rcases hr r e with h | ⟨h,-⟩ <;> omega
      have hz:=h.B.size
      refine ⟨⟨vo,hd,⟨h.B.grown hg hz (fun q e=>by have:=hge q e;omega),h.O.grown hg (fun e=>by have:=hge (xb+1) e.symm;omega),h.P.away hg (fun r e=>?_),Nat.lt_of_lt_of_le h.lt hg.size⟩⟩,Nat.le_trans h4 hg.size,h5.grown hg (by omega) (fun q e=>by have:=hge q e;omega)⟩
      rcases hr r e with h | ⟨_,h⟩
      · left;omega
      · right;exact h
     case h0=>
      refine ⟨⟨_,[],⟨HB2.out.trans ((HBO.out.trans (hb4.mono HBO.out.size)).mono hb2s),HO3.out.below hb4 HO3.out.lt,PSt.nil _ _,by omega⟩⟩,Nat.le_refl _,HBO.out.trans (hb4.mono HBO.out.size)⟩
     case Ax=>
      exact fun x a' W=>∃ Bx,Blk W Bx 195 #[.bool (spB f (gz zs x.1.1)),.slice (some ⟨b,off+x.1.1,none⟩) x.1.2 (cz-x.1.1)]∧a'={ tmps:=#[.agg #[.string f.name,.int .i64 f.body,.slice Av f.sorts.length cv],.agg #[.int .i64 me,.slice Az zs.length cz],.pointer (some ⟨w.heap.size,0,none⟩),.pointer (some ⟨w.heap.size+1,0,none⟩),.slice none 0 0,.int .i64 0,.pointer (some ⟨xb,0,none⟩),.int .i64 0,.pointer (some ⟨xb+1,0,none⟩),.pointer (some ⟨Bx,0,none⟩),.tuple #[.agg #[.string f.name,.int .i64 f.body,.slice Av f.sorts.length cv,.slice As ns cs],.int .i64 0],.agg #[.string f.name,.int .i64 f.body,.slice Av f.sorts.length cv],.agg #[.int .i64 me,.slice Az zs.length cz],.tuple #[.agg #[.string f.name,.int .i64 f.body,.slice Av f.sorts.length cv,.slice As ns cs],.int .i64 0],.agg #[.string f.name,.int .i64 f.body,.slice Av f.sorts.length cv,.slice As ns cs],.int .i64 0,.int .i64 0,.bool false,undef,.agg #[.string f.name,.int .i64 f.body,.slice Av f.sorts.length cv,.slice As ns cs],.pointer (some ⟨w.heap.size+1,1,none⟩),.slice Az zs.length cz,.func (.func 153) #[] #[.pointer (some ⟨W3.heap.size+1,0,none⟩),.pointer (some ⟨W3.heap.size,0,none⟩)],.agg #[.bool (spB f (gz zs x.1.1)),.slice (some ⟨b,off+x.1.1,none⟩) x.1.2 (cz-x.1.1)],undef,undef,undef,undef,undef,undef,undef,undef,undef,undef],defers:=[] }
     case hAx=>
      rintro x a' _ X Y row ⟨Bx,h2,h3⟩ hg hr
      refine ⟨Bx,Blk.grown h2 hg (fun e=>?_),h3⟩
      obtain ⟨_,o,ho,hc⟩:=hr Bx e.symm
      have h4:X.heap[Bx]?=_:=h2
      rw [h4] at ho
      cases ho
      cases hc
     case assign=>
      rintro l pre x W K ⟨⟨vo,hd,hws⟩,hwl,hw3⟩ hK
      gi_wp2
      have hz1:=hws.B.size
      have hbn:=below_new W (.cells #[.bool (spB f (gz zs x.1.1)),.slice (some ⟨b,off+x.1.1,none⟩) x.1.2 (cz-x.1.1)] 195)
      have hne:∀ q,q < W.heap.size→(W.alloc (.cells #[.bool (spB f (gz zs x.1.1)),.slice (some ⟨b,off+x.1.1,none⟩) x.1.2 (cz-x.1.1)] 195)).heap[q]?=W.heap[q]?:=fun q hq=>hbn.block q hq
      exact hK _ _ ((KeepsOthers.alloc _ _).from _) ⟨hbn.mono (by omega),hne _ (by omega),hne _ (by omega)⟩ ⟨⟨vo,hd,hws.below hbn⟩,by have:=hbn.size;omega,hw3.trans (hbn.mono (by omega))⟩ ⟨W.heap.size,Blk.new W _ _,rfl⟩
     case body=>
      rintro l pre x a' W ⟨⟨vo,hd,hws⟩,hwl,hw3⟩ ⟨Bx,hbx,rfl⟩ hlen
      obtain ⟨⟨k,m⟩,hkm⟩:=x
      obtain ⟨hk0,hkm⟩:=hkm
      dsimp only at hk0 hkm
      have HWS:=Lib.hid hws
      have HW3:=Lib.hid hw3
      have x0:=hbx.cell 0
      have x1:=hbx.cell 1
      have xl:=hbx.lt
      dsimp only at x0 x1 ⊢
      have hsn:wdsOf (spB f) zs (pre.map Subtype.val++[(k,m)])=if spB f (gz zs k) then wdsOf (spB f) zs (pre.map Subtype.val) else wdsOf (spB f) zs (pre.map Subtype.val)++[rnW zs (k,m)]:=wdsOf_snoc (spB f) zs (pre.map Subtype.val) (k,m)
      have HSN:=Lib.hid hsn
      have hbx':Blk W Bx 195 #[.bool (spB f (gz zs k)),.slice (some ⟨b,off+k,none⟩) m (cz-k)]:=hbx
      have HBX:=Lib.hid hbx'
      clear hws hw3 hbx hsn hbx'
      generalize hsp:spB f (gz zs k)=sp at *
      clear hsp
      cases sp with
      | true=>
       have HEQ:Hid (wdsOf (spB f) zs (pre.map Subtype.val++[(k,m)])=wdsOf (spB f) zs (pre.map Subtype.val)):=(show _=_ from by rw [HSN.out];rfl)
       clear HSN
       gi_wp2
       refine ⟨KeepsFrom.refl _ _,⟨Below.refl _ _,rfl,rfl⟩,⟨vo,hd,⟨HWS.out.B,HWS.out.O,?_,HWS.out.lt⟩⟩,HW3.out⟩
       rw [HEQ.out]
       exact HWS.out.P
      | false=>
       have HEQ:Hid (wdsOf (spB f) zs (pre.map Subtype.val++[(k,m)])=wdsOf (spB f) zs (pre.map Subtype.val)++[rnW zs (k,m)]):=(show _=_ from by rw [HSN.out];rfl)
       clear HSN
       gi_wp2_with fail
       obtain ⟨i30,hi30,hz30,hy30,hx30⟩:=info_parts info30
       obtain ⟨Ao,co,rfl⟩:=HWS.out.P.shape
       have HLO:Hid ((wdsOf (spB f) zs (pre.map Subtype.val)).length≤300):=(show _≤_ from by
        have h1:(wdsOf (spB f) zs (pre.map Subtype.val)).length≤pre.length:=by
         unfold wdsOf
         rw [List.length_map]
         refine Nat.le_trans (List.length_filter_le _ _) ?_
         rw [List.length_map]
         exact Nat.le_refl _
        omega)
       obtain ⟨lo,hlo⟩:∃ lo,(wdsOf (spB f) zs (pre.map Subtype.val)).length=lo:=⟨_,rfl⟩
       have HLL:=Lib.hid hlo
       rw [hlo] at HWS HLO
       have hrl:(rnW zs (k,m)).length=m:=by unfold rnW;rw [List.length_take,List.length_drop];show min m (zs.length-k)=m;omega
       have HRL:=Lib.hid hrl
       have HK2:Hid (∀ W',Below W.heap.size W W'→(W'.cell? ⟨xb+1,0,none⟩=some (.slice Ao lo co)∧W'.cell? ⟨Bx,1,none⟩=some (.slice (some ⟨b,off+k,none⟩) m (cz-k)))):=(show ∀ W',_ from fun W' hW=>⟨(HWS.out.O.below hW HWS.out.O.lt).cell 0,(HBX.out.below hW HBX.out.lt).cell 1⟩)
       have HC4:Hid (∀ W',Below W.heap.size W W'→Calls Tryz.prog 104 #[.slice (some ⟨b,off+k,none⟩) m (cz-k)] W' (CloPost W' (rnW zs (k,m)))):=(show ∀ W',_ from fun W' hW=>by
        have hbW:=HW3.out.trans (hW.mono HW3.out.size)
        have:=cloneI_any (rnW zs (k,m)) (some ⟨b,off+k,none⟩) b (off+k) (cz-k) W' (fun _=>⟨rfl,by have:=hbW.size;have:=HBB.out;omega⟩) (fun j hj=>by
         rw [hrl] at hj
         have e:gz (rnW zs (k,m)) j=gz zs (k+j):=by
          unfold rnW gz
          rw [List.getD_eq_getElem?_getD,List.getD_eq_getElem?_getD,List.getElem?_take,if_pos hj,List.getElem?_drop]
         rw [e,Nat.add_assoc]
         exact (hbW.cell (p:=⟨b,off+(k+j),none⟩) HBB.out).trans (HZS.out (k+j) (by omega))) (by rw [hrl];omega)
        rwa [hrl] at this)
       have hbd:Below W.heap.size W W.drew:=(Below.refl _ _).drew
       have hS0:=HK2.out _ hbd
       clear x0 x1 xl hlo hrl
       refine split_round (fun W=>(W.cell? ⟨xb+1,0,none⟩=some (.slice Ao lo co)∧W.cell? ⟨Bx,1,none⟩=some (.slice (some ⟨b,off+k,none⟩) m (cz-k)))) 5 (by kernel_rfl) (by decide) (by kernel_rfl) (by rintro ⟨_,_,h⟩;exact absurd (And.left h) (by simp)) ?_
       refine wpG_take 5 0 (v:=?_) rfl (by kernel_rfl) (fun _ _ _ h=>h) (Or.inl ⟨by rfl,?_⟩) (by assumption) ?_
       rotate_left
       · intro w hSw;(try dsimp only at hSw);go_simp;(try with_reducible rfl)
       (try simp only [pz])
       refine wpG_take 5 1 (v:=?_) rfl (by kernel_rfl) (fun _ _ _ h=>h) (Or.inl ⟨by rfl,?_⟩) (by assumption) ?_
       rotate_left
       · intro w hSw;(try dsimp only at hSw);go_simp;(try with_reducible rfl)
       (try simp only [pz])
       refine wpG_take 5 2 (v:=?_) rfl (by kernel_rfl) (fun _ _ _ h=>h) (Or.inl ⟨by rfl,?_⟩) (by assumption) ?_
       rotate_left
       · intro w hSw;(try dsimp only at hSw);go_simp;(try with_reducible rfl)
       (try simp only [pz])
       refine wpG_one (i:=3) (by kernel_rfl) ?_
       refine wpOp_step rfl (fun K hK=>?_)
       go_simp
       go_at_call 104
       (with_reducible refine (HC4.out _ hbd).mono ?_)
       rintro e w4 ⟨vx,rfl,hio,hb4'⟩
       have hb4w:Below W.heap.size W w4:=hbd.trans (hb4'.mono hbd.size)
       have HB4:=Lib.hid hb4w
       obtain ⟨Ax,cx,rfl⟩:=hio.shape
       have HIO:Hid (IO w4 W.heap.size (rnW zs (k,m)) (.slice Ax (rnW zs (k,m)).length cx)):=(show IO _ _ _ _ from hio)
       have n4:=HK2.out w4 hb4w
       (try dsimp only)
       refine hK _ _ ⟨n4,?_⟩
       clear hK K hS0 hio hb4' hbd
       (try simp only [pz])
       generalize (rnW zs (k,m)).length=lx at *
       refine wpG_one (i:=4) (by kernel_rfl) ?_
       refine wpOp_step rfl (fun K hK=>?_)
       go_simp
       have hbn:=below_new w4 (.cells #[.slice Ax lx cx] 34)
       have hb5:=HB4.out.trans (hbn.mono HB4.out.size)
       have HB5:=Lib.hid hb5
       have n5:=HK2.out _ hb5
       have HP5:=Lib.hid (HWS.out.below hb5)
       refine hK _ _ ⟨n5,?_⟩
       clear hK K n4
       (try simp only [pz])
       have hnews:∀ j u,[Value.slice Ax lx cx][j]?=some u→(w4.alloc (.cells #[.slice Ax lx cx] 34)).cell? ((⟨w4.heap.size,0,none⟩:Addr).add j)=some u:=World.news_of_block (w:=w4.alloc (.cells #[.slice Ax lx cx] 34)) (heap_alloc_new w4 _)
       refine ⟨by kernel_rfl,?_⟩
       simp only [List.drop_succ_cons,List.drop_zero]
       have HBZ:Hid (W3.heap.size+1+1≤w4.heap.size):=(show _≤_ from by have:=HB4.out.size;have:=HWS.out.lt;omega)
       have hbz5:W3.heap.size+1+1≤(w4.alloc (.cells #[.slice Ax lx cx] 34)).heap.size:=by have:=HBZ.out;simp only [World.size_alloc];omega
       have HZ5:Hid (W3.heap.size+1+1≤W.heap.size):=(show _≤_ from HWS.out.lt)
       rw [←HLL.out] at n5
       have hll:(wdsOf (spB f) zs (pre.map Subtype.val)).length≤300:=by rw [HLL.out];exact HLO.out
       go_wp2_with ((at_builtin
                     refine wpList_append_lies _ rfl _ _ 86 (by rfl) (W3.heap.size+1+1) 34 i30 _ 1 24 Tryz.underlying86 hi30 hz30 hy30 hx30 rfl (by omega) _ lo hd (by rfl) (HLL.out ▸ HP5.out.P.row) ⟨w4.heap.size,0,none⟩ 1 1 [.slice Ax lx cx] (by rfl) (by rfl) hnews (by simp [Value.oneCell']) (by omega) (by simp only [maxLen];have:=HLO.out;omega) (by have:=HLO.out;omega) hbz5 _ rfl ?_
                     intro g6 cap6 w6 hown hgrow hat hlt6
                     have HOWN:=Lib.hid hown
                     have HGR:=Lib.hid hgrow
                     have HAT:=Lib.hid hat
                     have HO6:Hid (Blk w6 (xb+1) 86 #[.slice Ao lo co]):=(show Blk _ _ _ _ from HP5.out.O.grown hgrow (fun e=>by have:=(HP5.out.P.lt _ e.symm).1;omega))
                     have o6:=HO6.out.cell 0
                     have o6f:=Blk.frozen HO6.out 0
                     have o6l:=HO6.out.lt
                     clear n5 hnews hown hgrow hat hlt6))
       have hgr:=HGR.out
       have hlo6:∀ t,(Value.slice Ao lo co).ownBlock=some t→W3.heap.size+1+1≤t:=fun t ht=>(HP5.out.P.lt t ht).1
       have hwz:=HWS.out.B.size
       have h2z:=HW3.out.size
       have h5z:=HB5.out.size
       have hb6:Below W2.heap.size W w6:=(HB5.out.mono h2z).grown hgr (by omega) (fun t ht=>by have:=hlo6 t ht;omega)
       have hb7:Below W2.heap.size W (w6.setCell ⟨xb+1,0,none⟩ (.slice (some ⟨g6,0,none⟩) (lo+1) cap6)):=hb6.setCell (p:=⟨xb+1,0,none⟩) (by show W2.heap.size≤xb+1;omega) _
       have hsame:∀ q,q < W.heap.size→q≠xb+1→(∀ t,(Value.slice Ao lo co).ownBlock=some t→t≠q)→(w6.setCell ⟨xb+1,0,none⟩ (.slice (some ⟨g6,0,none⟩) (lo+1) cap6)).heap[q]?=W.heap[q]?:=fun q hq h1 h2=>
        (Below.heap_setCell _ _ _ _ (fun e=>h1 e)).trans ((hgr.block q (by omega) (fun e=>h2 q e.symm rfl)).trans (HB5.out.block q hq))
       have hpu:=HWS.out.P.push HZ5.out HB4.out HIO.out (by rw [HLL.out];exact HOWN.out) HGR.out
       refine ⟨⟨?_,fun q o hB hq ho=>?_⟩,⟨hb7,hsame _ (by omega) (by omega) (fun t ht=>by have:=hlo6 t ht;omega),hsame _ (by omega) (by omega) (fun t ht=>by have:=hlo6 t ht;omega)⟩,⟨_,hd++[.slice Ax lx cx],⟨?_,HO6.out.set_ 0 _,?_,?_⟩⟩,?_,HW3.out.trans hb7⟩
       · exact hb7.size
       · have hql:=(Array.getElem?_eq_some_iff.1 hq).1
         refine (hsame q hql (by omega) (fun t ht e=>?_)).trans hq
         subst e
         obtain ⟨o2,h1,h2⟩:=own_cells (HLL.out ▸ HP5.out.P.row) t ht
         rw [HB5.out.block t hql,hq] at h1
         injection h1 with h1
         rw [←h1,ho] at h2
         cases h2
       · exact HWS.out.B.trans (hb7.mono (by omega))
       · rw [HEQ.out]
         exact hpu.set_ (a:=⟨xb+1,0,none⟩) (by show xb+1 < _;omega) _
       · have:=hb7.size;have:=hb6.size;have:=HWS.out.lt;omega
       · have:=hb7.size;have:=hb6.size;omega
     case done=>
      rintro D xs W hD hxs ⟨⟨vo,hd,hws⟩,hwl,hw3⟩ hKD
      rw [hxs] at hws
      have o0:=hws.O.cell 0
      have ol:=hws.O.lt
      have HWS:=Lib.hid hws
      have HW3:=Lib.hid hw3
      obtain ⟨Ao,co,rfl⟩:=hws.P.shape
      clear hws hw3
      go_wp2_with fail
      refine leaves_marks (by simp) [D] _ (by simp) (fun D' hD'=>by rw [List.mem_singleton.1 hD'];exact hKD) (fun W' hW'=>?_)
      refine ⟨_,results_tmp2 rfl _ _ _,?_⟩
      have hgr:W.grownBy W' (some D):=⟨hW'.1,hW'.2.1,hW'.2.2.1,Nat.le_of_eq hW'.2.2.2.1.symm,fun q _ hq=>hW'.2.2.2.2 q (fun hm=>hq (by rw [List.mem_singleton.1 hm]))⟩
      have hwz:=HWS.out.B.size
      refine ⟨HWS.out.B.trans (hW'.below (fun D' hD'=>by rw [List.mem_singleton.1 hD'];omega)),.inr ⟨HR0.out,_,hd,rfl,?_⟩⟩
      exact (HWS.out.P.away hgr (fun r e=>.inr (by cases e;exact ⟨_,hKD,rfl⟩))).mono (by omega)
   · have hbn:=bne_t h0
     have HWHY:Hid (lnsE f me zs=rdE f me zs∧rdE f me zs≠0):=(show _∧_ from by rw [HRE.out];exact ⟨rfl,h0⟩)
     generalize lnsE f me zs=fe at *
     clear h0
     go_wp2_with fail
     refine leaves_marks (by simp) [] _ (by simp) (fun D' h=>by cases h) (fun W' hW'=>?_)
     refine ⟨_,results_tmp2 rfl _ _ _,?_⟩
     exact HERR.out _ _ HWHY.out (HB2.out.trans (hW'.below (fun D h=>by cases h)))
end Go.Proofs.YtbnganlfelgogaaGreat
namespace Go.Proofs.YtbnganlfelgogaaGreat
open Go.RowKit
def lapp (zs:List Int) (pss:List (List Int)):List (List Int):=pss.set (pss.length-1) (gl pss (pss.length-1)++zs)
theorem lapp_gl {zs:List Int} {l:List (List Int)} (hl:0 < l.length):(lapp zs l).length=l.length∧(∀ i,i < l.length-1→gl (lapp zs l) i=gl l i)∧gl (lapp zs l) (l.length-1)=gl l (l.length-1)++zs:=by
 unfold lapp
 refine ⟨List.length_set,fun i hi=>?_,?_⟩
 · rw [gl_set (by omega),if_neg (by omega)]
 · rw [gl_set (by omega),if_pos rfl]
theorem PSt.lapp {W W1 W3:World} {B:Nat} {pss:List (List Int)} {vo v v':Value} {hd:List Value} {zs:List Int} {g c:Nat} (h:PSt W B pss vo hd) (hn:0 < pss.length) (hB:B≤W.heap.size) (hvo:vo=.slice (some ⟨g,0,none⟩) pss.length c) (hv:v=hd.getD (pss.length-1) undef)
 (hb1:Below W.heap.size W W1) (hown:W3.ownsRow B 3 1 v' ((gl pss (pss.length-1)).length+zs.length) (zv (gl pss (pss.length-1))++zv zs)) (hg:W1.grownBy W3 v.ownBlock) (hat:v'.ownBlock=v.ownBlock∨v'.ownBlock=some W1.heap.size) :
 PSt (W3.setCell ⟨g,pss.length-1,none⟩ v') B (Go.Proofs.YtbnganlfelgogaaGreat.lapp zs pss) vo (hd.set (pss.length-1) v'):=by
 have h1:=h.below hb1
 have hz:=lapp_gl (zs:=zs) hn
 have hvb:∀ t,v.ownBlock=some t→t < W.heap.size:=fun t ht=>by
  have:=h.pc (pss.length-1) (by omega)
  rw [←hv] at this
  exact (this.lt t ht).2
 have hrow:W3.ownsRow B 34 1 vo pss.length hd:=h1.row.kept hg (by
  have:=own_ne h1.row (h1.pc (pss.length-1) (by omega)) (by decide)
  rwa [←hv] at this)
 have hpc:∀ i,i < pss.length-1→IO W3 B (gl pss i) (hd.getD i undef):=fun i hi=>(h1.pc i (by omega)).kept hg (by
  rcases hq:(hd.getD i undef).ownBlock with _ | t
  · left;rfl
  · right
    intro e
    have h3:=h1.sep i (pss.length-1) t hi (by omega) hq
    rw [←hv] at h3
    exact h3 e.symm)
 have hg1:g < W.heap.size:=by
  have:=(h.row.lt g (by rw [hvo];rfl)).2
  exact this
 have hne3:∀ (u:Value) (l:List Int),IO W3 B l u→IO (W3.setCell ⟨g,pss.length-1,none⟩ v') B l u:=fun u l hu=>by
  have h5:=own_ne hu hrow (by decide)
  refine ⟨hu.1,?_⟩
  rcases hu.2 with hz | ⟨g',cap,cur,rfl,a1,a2,rest⟩
  · exact .inl hz
  · refine .inr ⟨g',cap,cur,rfl,a1,(Below.heap_setCell _ _ _ _ ?_).trans a2,rest⟩
    intro e
    rcases h5 with h5 | h5
    · simp [Value.ownBlock] at h5
    · apply h5;rw [hvo];simpa [Value.ownBlock] using e
 have hnew:IO W3 B (gl (Go.Proofs.YtbnganlfelgogaaGreat.lapp zs pss) (pss.length-1)) v':=by
  show W3.ownsRow _ _ _ _ _ _
  rw [hz.2.2,List.length_append,zv_app]
  exact hown
 refine ⟨?_,by rw [List.length_set,h.len,hz.1],fun i hi=>?_,fun i j t hij hj ht=>?_⟩
 · rw [hz.1]
   subst hvo
   have hone:v'.oneCell'=true:=by
    rcases hown.2 with ⟨rfl,_⟩ | ⟨_,_,_,rfl,_⟩ <;> rfl
   exact (hrow.stored _ v').1
 · rw [hz.1] at hi
   by_cases e:i=pss.length-1
   · subst e
     rw [List.getD_eq_getElem?_getD,List.getElem?_set_self (by rw [h.len];omega)]
     exact hne3 _ _ hnew
   · rw [hz.2.1 i (by omega),List.getD_eq_getElem?_getD,List.getElem?_set_ne (fun h=>e h.symm),←List.getD_eq_getElem?_getD]
     exact hne3 _ _ (hpc i (by omega))
 · rw [hz.1] at hj
   rw [List.getD_eq_getElem?_getD,List.getElem?_set_ne (by omega),←List.getD_eq_getElem?_getD] at ht
   by_cases e:j=pss.length-1
   · subst e
     rw [List.getD_eq_getElem?_getD,List.getElem?_set_self (by rw [h.len];omega)]
     show v'.ownBlock≠_
     intro h2
     have h3:=(h.pc i (by omega)).lt t ht
     rcases hat with h4 | h4
     · have h5:=h.sep i (pss.length-1) t hij (by omega) ht
       rw [←hv] at h5
       exact h5 (h4 ▸ h2)
     · rw [h2] at h4
       have:=hb1.size
       injection h4 with h4
       omega
   · rw [List.getD_eq_getElem?_getD (l:=hd.set _ _),List.getElem?_set_ne (fun h=>e h.symm),←List.getD_eq_getElem?_getD]
     exact h.sep i j t hij (by omega) ht
def jnC (ws:List (List Int)) (br:Bool) (k:Nat):List Int:=if br=true∧k+1=ws.length then (gl ws k).take ((gl ws k).length-1) else gl ws k
def addW (pss:List (List Int)) (op:Bool) (ws:List (List Int)) (br:Bool):Nat→List (List Int)
 | 0=>pss
 | k+1=>if k=0∧op=true then lapp (jnC ws br k) (addW pss op ws br k) else addW pss op ws br k++[jnC ws br k]
theorem addW_len (pss:List (List Int)) (op:Bool) (ws:List (List Int)) (br:Bool):∀ k,(addW pss op ws br k).length≤pss.length+k∧pss.length≤(addW pss op ws br k).length
 | 0=>⟨Nat.le_refl _,Nat.le_refl _⟩
 | k+1=>by
  have h:=addW_len pss op ws br k
  unfold addW
  split
  · unfold lapp
    rw [List.length_set];omega
  · rw [List.length_append,List.length_singleton];omega
theorem IO.take {W:World} {B:Nat} {zs:List Int} {A:Option Addr} {c:Nat} (h:IO W B zs (.slice A zs.length c)) {m:Nat} (hm:m≤zs.length) (hA:0 < zs.length):IO W B (zs.take m) (.slice A m c):=by
 have hl:(zs.take m).length=m:=by rw [List.length_take];omega
 show World.ownsRow _ _ _ _ _ _ _
 rw [hl]
 obtain ⟨h1,h2⟩:=h
 rcases h2 with ⟨he,h0⟩ | ⟨g,cap,cur,he,hB,hh,h3,h4,h5,h6⟩
 · omega
 · injection he with e1 e2 e3
   subst e1 e3
   refine ⟨by rw [zv_len,hl],.inr ⟨g,c,cur,rfl,hB,hh,by omega,h4,h5,?_⟩⟩
   have h7:zv (zs.take m)=(zv zs).take (m*1):=by simp [zv,List.map_take]
   rw [h7,←h6,List.take_take]
   congr 1
   omega
end Go.Proofs.YtbnganlfelgogaaGreat
