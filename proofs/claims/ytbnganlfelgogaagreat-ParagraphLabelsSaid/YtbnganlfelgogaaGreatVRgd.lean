/- read: a fount and a line are checked. -/
import Derived.Test.YtbnganlfelgogaaGreatVRag
import Derived.Test.YtbnganlfelgogaaGreatVQrd
import Derived.Test.YtbnganlfelgogaaGreatVLnm
set_option linter.unusedSimpArgs false
set_option linter.unusedVariables false
set_option maxRecDepth 100000
set_option maxHeartbeats 40000000
namespace Go.Proofs.YtbnganlfelgogaaGreat
open Go.RowKit
@[reducible,go_sem] def zf4:Array Value:=#[.string ⟨#[]⟩,.int .i64 0,.slice none 0 0,.slice none 0 0]
def rdE (f:Fnt) (me:Int) (zs:List Int):Int:=if (fnErr f).2≠0 then (fnErr f).2 else lnsE f me zs
def RlPost (f:Fnt) (v:Value) (me:Int) (zs:List Int) (w:World) (e:Ending) (w':World):Prop:=Below w.heap.size w w'∧
 (((fnErr f).2≠0∧e=.returned (.tuple #[.agg zf4,.int .i64 (fnErr f).2]))∨
   ((fnErr f).2=0∧∃ vs,e=.returned (.tuple #[.agg (xfs f v vs),.int .i64 (lnsE f me zs)])∧IV w' (spl f.sorts f.sorts.length) vs))
theorem Blk.four {W:World} {g:Nat} {t:TypeId} {c0 c1 c2 c3:Value} (h:Blk W g t #[c0,c1,c2,c3]) (d0 d1 d2 d3:Value) :
 Blk ((((W.setCell ⟨g,0,none⟩ d0).setCell ⟨g,1,none⟩ d1).setCell ⟨g,2,none⟩ d2).setCell ⟨g,3,none⟩ d3) g t #[d0,d1,d2,d3]:=by
 have:=(((h.set_ 0 d0).set_ 1 d1).set_ 2 d2).set_ 3 d3
 simpa using this
theorem below_four {B:Nat} {W0 W:World} {g:Nat} (h:Below B W0 W) (hg:B≤g) (d0 d1 d2 d3:Value):Below B W0 ((((W.setCell ⟨g,0,none⟩ d0).setCell ⟨g,1,none⟩ d1).setCell ⟨g,2,none⟩ d2).setCell ⟨g,3,none⟩ d3):=
 (((h.setCell (p:=⟨g,0,none⟩) hg d0).setCell (p:=⟨g,1,none⟩) hg d1).setCell (p:=⟨g,2,none⟩) hg d2).setCell (p:=⟨g,3,none⟩) hg d3
theorem rd_res {W:World} {bR:Nat} {cs:Array Value} (hg:Blk W bR 189 cs) (hs:cs.size=4) (tmps:Array Value) (hp:tmps.getD 4 undef=.pointer (some ⟨bR,0,none⟩)) :
 (results Tryz.f121 tmps).run Tryz.prog W=.ok (.tuple #[.agg cs,tmps.getD 5 undef]) W:=by
 have h:Tryz.f121.results=#[.cell 4 189,.tmp 5]:=rfl
 have hi:(Tryz.prog.info? 189).map (·.size)=some cs.size:=by rw [hs];kernel_rfl
 have hp':tmps[4]?.getD undef=.pointer (some ⟨bR,0,none⟩):=by simpa using hp
 simp only [results,h]
 simp [Sem.run_bind,Result.andThen,hp',asAddr,run_loadVar_row W bR 189 189 cs (0,0) _ hg Tryz.underlying189 rfl hi]
structure RlW (w W:World) (f:Fnt) (v:Value) (me:Int) (zs:List Int) (vz:Value):Prop where
 B:Below w.heap.size w W
 S:SoV W f.sorts v
 Z:IV W zs vz
 F:Blk W w.heap.size 24 (fcs f v)
 L:Blk W (w.heap.size+1) 83 #[.int .i64 me,vz]
 R:Blk W (w.heap.size+2) 189 zf4
theorem RlW.step {w W W':World} {f:Fnt} {v:Value} {me:Int} {zs:List Int} {vz:Value} (h:RlW w W f v me zs vz) (hb:Below W.heap.size W W'):RlW w W' f v me zs vz:=
 ⟨h.B.trans (hb.mono h.B.size),h.S.below hb,h.Z.below hb,h.F.below hb h.F.lt,h.L.below hb h.L.lt,h.R.below hb h.R.lt⟩
theorem readL_any (f:Fnt) (v:Value) (me:Int) (zs:List Int) (vz:Value) (w:World) (hv:SoV w f.sorts v) (hz:IV w zs vz) (hn:f.name.size≤9223372036854775807) (hm:zs.length≤1000000) (hf:f.sorts.length≤100000) :
 Calls Tryz.prog 121 #[.agg (fcs f v),.agg #[.int .i64 me,vz]] w (RlPost f v me zs w):=by
 have hRW:RlW w (((w.alloc (.cells (fcs f v) 24)).alloc (.cells #[.int .i64 me,vz] 83)).alloc (.cells zf4 189)) f v me zs vz:=by
  have hb0:=below_new w (.cells (fcs f v) 24)
  have hb1:=below_new (w.alloc (.cells (fcs f v) 24)) (.cells #[.int .i64 me,vz] 83)
  have hb2:=below_new ((w.alloc (.cells (fcs f v) 24)).alloc (.cells #[.int .i64 me,vz] 83)) (.cells zf4 189)
  have hF:=Blk.new w 24 (fcs f v)
  have hL:=Blk.new (w.alloc (.cells (fcs f v) 24)) 83 #[.int .i64 me,vz]
  have hR:=Blk.new ((w.alloc (.cells (fcs f v) 24)).alloc (.cells #[.int .i64 me,vz] 83)) 189 zf4
  have e1:(w.alloc (.cells (fcs f v) 24)).heap.size=w.heap.size+1:=by simp
  have e2:((w.alloc (.cells (fcs f v) 24)).alloc (.cells #[.int .i64 me,vz] 83)).heap.size=w.heap.size+2:=by simp
  have hF1:=hF.below hb1 hF.lt
  have hF2:=hF1.below hb2 hF1.lt
  have hL2:=hL.below hb2 hL.lt
  rw [e1] at hL2
  rw [e2] at hR
  exact ⟨(hb0.trans (hb1.mono hb0.size)).trans (hb2.mono (hb0.trans (hb1.mono hb0.size)).size),((hv.below hb0).below hb1).below hb2,((hz.below hb0).below hb1).below hb2,hF2,hL2,hR⟩
 have HRW:=Lib.hid hRW
 obtain ⟨A,c,rfl⟩:=hv.shape
 obtain ⟨Az,_,_,cz,rfl,-⟩:=hz.open
 clear hRW hv hz
 have c0:=HRW.out.F.cell 0
 have c1:=HRW.out.F.cell 1
 have c2:=HRW.out.F.cell 2
 go_enter Tryz.func121,Tryz.ntmps121
 go_upto_region 1 with fail
 generalize ((w.alloc (.cells (fcs f (.slice A f.sorts.length c)) 24)).alloc (.cells #[.int .i64 me,.slice Az zs.length cz] 83)).alloc (.cells zf4 189)=W0 at *
 go_wp2_with fail
 refine (fountErr_any f _ W0 HRW.out.S hn).mono ?_
 rintro e W1 ⟨rfl,hb1⟩
 have HR1:=Lib.hid (HRW.out.step hb1)
 clear c0 c1 c2 hb1 HRW
 by_cases h0:(fnErr f).2=0
 · have hbn:=bne_f h0
   have HF0:=Lib.hid h0
   have d0:=HR1.out.F.cell 0
   have d1:=HR1.out.F.cell 1
   have d2:=HR1.out.F.cell 2
   rw [h0] at hbn ⊢
   clear h0
   go_wp2_with fail
   refine (faceOf_any f _ W1 HR1.out.S hf).mono ?_
   rintro e W2 ⟨vs,rfl,hio,hb2⟩
   obtain ⟨As,cs',rfl⟩:=hio.shape
   generalize (spl f.sorts f.sorts.length).length=ns at *
   have hbx:=below_new W2 (.cells (xfs f (.slice A f.sorts.length c) (.slice As ns cs')) 189)
   have HR3:=Lib.hid (HR1.out.step (hb2.trans (hbx.mono hb2.size)))
   have HX3:=Lib.hid (Blk.new W2 189 (xfs f (.slice A f.sorts.length c) (.slice As ns cs')))
   have HV3:=Lib.hid (hio.below hbx)
   have HLT:Hid (w.heap.size+2 < W1.heap.size):=HR1.out.R.lt
   clear d0 d1 d2 hio hb2 hbx HR1 hbn
   go_upto_region 5 with fail
   generalize W2.alloc (.cells (xfs f (.slice A f.sorts.length c) (.slice As ns cs')) 189)=W3 at *
   generalize W2.heap.size=xb at *
   have HKS:Hid (∀ W,Below W3.heap.size W3 W→(W.cell? ⟨xb,0,none⟩=some (.string f.name)∧W.cell? ⟨xb,1,none⟩=some (.int .i64 f.body)∧W.cell? ⟨xb,2,none⟩=some (.slice A f.sorts.length c)∧W.cell? ⟨xb,3,none⟩=some (.slice As ns cs')∧W.cell? ⟨w.heap.size+1,0,none⟩=some (.int .i64 me)∧W.cell? ⟨w.heap.size+1,1,none⟩=some (.slice Az zs.length cz))):=(show ∀ W,_ from fun W hW=>by
    have h1:=HX3.out.below hW HX3.out.lt
    have h2:=HR3.out.step hW
    exact ⟨h1.cell 0,h1.cell 1,h1.cell 2,h1.cell 3,h2.L.cell 0,h2.L.cell 1⟩)
   have HC5:Hid (∀ W,Below W3.heap.size W3 W→Calls Tryz.prog 125 #[.agg (xfs f (.slice A f.sorts.length c) (.slice As ns cs')),.agg #[.int .i64 me,.slice Az zs.length cz]] W (IntPost (lnsE f me zs) W)):=(show ∀ W,_ from fun W hW=>lineErr_any f _ (.slice As ns cs') me zs _ W (HR3.out.S.below hW) (HR3.out.Z.below hW) hm)
   have hbd:Below W3.heap.size W3 W3.drew:=(Below.refl _ _).drew
   have hS0:=HKS.out _ hbd
   refine wp_region_split (fun W=>(W.cell? ⟨xb,0,none⟩=some (.string f.name)∧W.cell? ⟨xb,1,none⟩=some (.int .i64 f.body)∧W.cell? ⟨xb,2,none⟩=some (.slice A f.sorts.length c)∧W.cell? ⟨xb,3,none⟩=some (.slice As ns cs')∧W.cell? ⟨w.heap.size+1,0,none⟩=some (.int .i64 me)∧W.cell? ⟨w.heap.size+1,1,none⟩=some (.slice Az zs.length cz))) 4 (by kernel_rfl) (by decide) ?_
   refine wpG_take 4 0 (v:=?_) rfl (by kernel_rfl) (fun _ _ _ h=>h) (Or.inl ⟨by rfl,?_⟩) (by assumption) ?_
   rotate_left
   · intro w hSw;(try dsimp only at hSw);go_simp;(try with_reducible rfl)
   (try simp only [pz])
   refine wpG_take 4 1 (v:=?_) rfl (by kernel_rfl) (fun _ _ _ h=>h) (Or.inl ⟨by rfl,?_⟩) (by assumption) ?_
   rotate_left
   · intro w hSw;(try dsimp only at hSw);go_simp;(try with_reducible rfl)
   (try simp only [pz])
   refine wpG_take 4 2 (v:=?_) rfl (by kernel_rfl) (fun _ _ _ h=>h) (Or.inl ⟨by rfl,?_⟩) (by assumption) ?_
   rotate_left
   · intro w hSw;(try dsimp only at hSw);go_simp;(try with_reducible rfl)
   (try simp only [pz])
   refine wpG_one (i:=3) (by kernel_rfl) ?_
   refine wpOp_step rfl (fun K hK=>?_)
   go_simp
   go_at_call 125
   (with_reducible refine (HC5.out _ hbd).mono ?_)
   rintro e w4 ⟨rfl,hb4'⟩
   have hb4:Below W3.heap.size W3 w4:=hbd.trans (hb4'.mono hbd.size)
   have n4:=HKS.out w4 hb4
   (try dsimp only)
   refine hK _ _ ⟨n4,?_⟩
   clear hK K
   (try simp only [pz])
   refine ⟨by kernel_rfl,?_⟩
   simp only [List.drop_succ_cons,List.drop_zero]
   have HR4:=Lib.hid (HR3.out.step hb4)
   have q0:=HR4.out.R.cell 0
   have q1:=HR4.out.R.cell 1
   have q2:=HR4.out.R.cell 2
   have q3:=HR4.out.R.cell 3
   have p0:=Blk.frozen HR4.out.R 0
   have p1:=Blk.frozen HR4.out.R 1
   have p2:=Blk.frozen HR4.out.R 2
   have p3:=Blk.frozen HR4.out.R 3
   have ql:=HR4.out.R.lt
   have HFIN:Hid (RlPost f (.slice A f.sorts.length c) me zs w (.returned (.tuple #[.agg (xfs f (.slice A f.sorts.length c) (.slice As ns cs')),.int .i64 (lnsE f me zs)])) ((((w4.setCell ⟨w.heap.size+2,0,none⟩ (.string f.name)).setCell ⟨w.heap.size+2,1,none⟩ (.int .i64 f.body)).setCell ⟨w.heap.size+2,2,none⟩ (.slice A f.sorts.length c)).setCell ⟨w.heap.size+2,3,none⟩ (.slice As ns cs'))):=(show RlPost _ _ _ _ _ _ _ from
    ⟨below_four HR4.out.B (by omega) _ _ _ _,.inr ⟨HF0.out,_,rfl,IO.iv (B:=W1.heap.size) (ownsRow_setCell_below (ownsRow_setCell_below (ownsRow_setCell_below (ownsRow_setCell_below (HV3.out.below hb4) HLT.out _) HLT.out _) HLT.out _) HLT.out _)⟩⟩)
   have HB4:=Lib.hid (HR4.out.R.four (.string f.name) (.int .i64 f.body) (.slice A f.sorts.length c) (.slice As ns cs'))
   clear n4 hS0 hbd hb4 hb4' HKS
   go_wp2_with fail
   refine bodyPost_ret (rd_res HB4.out rfl _ rfl) rfl ?_
   exact HFIN.out
 · have hbn:=bne_t h0
   have HF0:=Lib.hid h0
   have q0:=HR1.out.R.cell 0
   have q1:=HR1.out.R.cell 1
   have q2:=HR1.out.R.cell 2
   have q3:=HR1.out.R.cell 3
   have p0:=Blk.frozen HR1.out.R 0
   have p1:=Blk.frozen HR1.out.R 1
   have p2:=Blk.frozen HR1.out.R 2
   have p3:=Blk.frozen HR1.out.R 3
   have ql:=HR1.out.R.lt
   have HB4:=Lib.hid (HR1.out.R.four (.string ⟨#[]⟩) (.int .i64 0) (.slice none 0 0) (.slice none 0 0))
   have HFIN:Hid (∀ x,x=(fnErr f).2→RlPost f (.slice A f.sorts.length c) me zs w (.returned (.tuple #[.agg zf4,.int .i64 x])) ((((W1.setCell ⟨w.heap.size+2,0,none⟩ (.string ⟨#[]⟩)).setCell ⟨w.heap.size+2,1,none⟩ (.int .i64 0)).setCell ⟨w.heap.size+2,2,none⟩ (.slice none 0 0)).setCell ⟨w.heap.size+2,3,none⟩ (.slice none 0 0))):=(show ∀ x,_ from fun x e=>by
    subst e
    exact ⟨below_four HR1.out.B (by omega) _ _ _ _,.inl ⟨HF0.out,rfl⟩⟩)
   generalize hfe:(fnErr f).2=fe at *
   clear h0
   go_wp2_with fail
   refine bodyPost_ret (rd_res HB4.out rfl _ rfl) rfl ?_
   exact HFIN.out _ rfl
end Go.Proofs.YtbnganlfelgogaaGreat
namespace Go.Proofs.YtbnganlfelgogaaGreat
section
variable {P:Program} {ops:Array Oper} {n lr:Nat} {Q:Exit→Act→World→Prop}
theorem op_round {o:Oper} (hd:∀ c,o.op≠.defer c) {a:Act} {w:World} {K:Act→World→Prop} (h:o.wp P a w K Q):o.wpIn (Fence.wide.inRound lr) n P a w K Q:=by
 refine ⟨fun _ _=>trivial,?_⟩
 rw [Oper.semAt_plain _ _ _ hd]
 unfold Oper.wp at h
 generalize (execOp a.eval o).run P w=r at *
 cases r with
 | ok x w'=>
  cases x with
  | value u=>exact h
  | skip=>exact h
  | defer d=>exact h
  | enter f args=>exact ⟨fun e=>(by cases e),callsIn_wide.2 h⟩
  | row r args=>exact ⟨fun e=>(by cases e),fun c cs _=>by obtain ⟨v,w',r,s⟩:=h c cs;exact ⟨v,w',r,stepsIn_wide.2 s⟩⟩
  | _=>exact absurd h (by simp [Oper.upon])
 | halt x w'=>
  cases x with
  | panic v=>exact h
  | _=>exact absurd h (by simp [Oper.upon])
theorem wpOp_round (hd:∀ (i:Nat) (o:Oper),ops[i]?=some o→∀ c,o.op≠.defer c) (hL:¬LetsOut Q) {i:Nat} {K:Act→World→Prop} {a:Act} {w:World} (h:wpOp P ops Q i K a w):wpOpIn (Fence.wide.inRound lr) n P ops Q i K a w:=by
 unfold wpOp at h
 unfold wpOpIn
 split
 · rename_i ho;simp only [ho] at h;exact h
 · rename_i o ho
   simp only [ho] at h
   split
   · rename_i hw
     simp only [hw,if_true] at h
     exact op_round (hd i o ho) (h.resolve_right fun h=>hL h.2)
   · rename_i hw
     simp only [hw] at h
     exact ⟨fun _ _=>trivial,h⟩
theorem wpAny_round {md:Region.Mode} (hd:∀ (i:Nat) (o:Oper),ops[i]?=some o→∀ c,o.op≠.defer c) (hL:¬LetsOut Q):∀ (fuel:Nat) (listed:Array Bool) (a:Act) (w:World),wpAny P md ops Q fuel listed a w→wpAnyIn (Fence.wide.inRound lr) n P md ops Q fuel listed a w
 | 0,_,_,_,h=>h
 | fuel+1,_,_,_,h=>⟨h.1,fun i hi=>wpOp_round hd hL (wpOp_mono (fun a' w' h'=>wpAny_round hd hL fuel _ a' w' h') (h.2 i hi))⟩
theorem split_round {id:Nat} {a:Act} {w:World} {l:List Oper} (S:World→Prop) (k:Nat) (hm:P.follows .mixedOrders=true) (hn:k < l.length) (hd:noDefer l=true) (hL:¬LetsOut Q)
 (h:wpG P .any l.toArray Q S (TailD P .any l.toArray Q k) k (Array.replicate l.toArray.size false) a w.drew):(Code.region id l.toArray true).wpIn (Fence.wide.inRound lr) n P Q a w:=by
 refine wpIn_region_any hm (wpAny_round (noDefer_spec hd) hL _ _ _ _ ?_)
 have:=wpAny_of_wpG (Q:=Q) (g:=l.toArray.size-k) (fun listed a' w' hL=>by
  have:=wpAny_of_seq (ops:=l.toArray) (md:=.any) (Q':=Q) (l.drop k) k listed a' w' (fun j=>by simp [List.getElem?_drop]) (by simpa using hL.1) (by simpa using hL.2)
  simpa using this) _ _ _ _ h
 have e:k+(l.toArray.size-k)=l.toArray.size:=by simp;omega
 rw [e] at this
 exact this
end
end Go.Proofs.YtbnganlfelgogaaGreat
