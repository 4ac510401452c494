/- CheckBreaks: the demerits of right breaks. -/
import Derived.Test.YtbnganlfelgogaaGreatVLns
import Derived.Test.YtbnganlfelgogaaGreatVBst
import Derived.Test.YtbnganlfelgogaaGreatVRpw
import Derived.Test.YtbnganlfelgogaaGreatVLwd
set_option linter.unusedSimpArgs false
set_option linter.unusedVariables false
set_option maxRecDepth 100000
set_option maxHeartbeats 40000000
namespace Go.Proofs.YtbnganlfelgogaaGreat
open Go.RowKit
theorem scl_get (f:Fnt) (r:Rls) (ws:List PWord) (qs:List ((Nat × Nat) × Value)):∀ k q,qs[k]?=some q→
 (scl f r ws qs)[k*5]?=some (.int .i64 (q.1.1:Int))∧(scl f r ws qs)[k*5+1]?=some (.int .i64 (q.1.2:Int))∧(scl f r ws qs)[k*5+2]?=some q.2∧(scl f r ws qs)[k*5+3]?=some (.int .i64 (lineF f r ws q.1.1 q.1.2).room)∧(scl f r ws qs)[k*5+4]?=some (.bool (lineF f r ws q.1.1 q.1.2).ends):=by
 induction qs with
 | nil=>intro k q h;simp at h
 | cons a l ih=>
  intro k q h
  have e:scl f r ws (a :: l)=.int .i64 (a.1.1:Int) :: .int .i64 (a.1.2:Int) :: a.2 :: .int .i64 (lineF f r ws a.1.1 a.1.2).room :: .bool (lineF f r ws a.1.1 a.1.2).ends :: scl f r ws l:=rfl
  cases k with
  | zero=>
   have:a=q:=by simpa using h
   subst this
   rw [e]
   exact ⟨rfl,rfl,rfl,rfl,rfl⟩
  | succ k=>
   have:=ih k q (by simpa using h)
   rw [e,show (k+1)*5=k*5+1+1+1+1+1 from by omega]
   simpa using this
def sumD (f:Fnt) (r:Rls) (ws:List PWord) (ps:List (Nat × Nat)):Int:=(ps.map fun p=>demF f r (lineF f r ws p.1 p.2) (divB ws p.1) (divB ws p.2)).sum
theorem sumD_take {f:Fnt} {r:Rls} {ws:List PWord} {ps:List (Nat × Nat)} {k:Nat} (h:k < ps.length):sumD f r ws (ps.take (k+1))=sumD f r ws (ps.take k)+demF f r (lineF f r ws ps[k].1 ps[k].2) (divB ws ps[k].1) (divB ws ps[k].2):=by
 have happ:∀ a b:List (Nat × Nat),sumD f r ws (a++b)=sumD f r ws a+sumD f r ws b:=fun a b=>by unfold sumD;rw [List.map_append,List.sum_append]
 rw [List.take_succ_eq_append_getElem h,happ]
 simp [sumD]
theorem prs_len (bs:List Int):∀ n,(prs bs n).length=n
 | 0=>rfl
 | n+1=>by unfold prs;rw [List.length_append,prs_len bs n];rfl
theorem prs_get (bs:List Int):∀ n k,k < n→(prs bs n)[k]?=some ((befB bs k).toNat,(gz bs k).toNat)
 | 0,k,h=>by omega
 | n+1,k,h=>by
  unfold prs
  by_cases e:k < n
  · rw [List.getElem?_append_left (by rw [prs_len];exact e)]
    exact prs_get bs n k e
  · have e':k=n:=by omega
    subst e'
    rw [List.getElem?_append_right (by rw [prs_len];exact Nat.le_refl _),prs_len,Nat.sub_self]
    rfl
theorem lnErr_ok {f:Fnt} {r:Rls} {ws:List PWord} {bs:List Int} (h:lnErr f r ws bs=0):cpErr (((places ws).length-1:Nat):Int) bs=0∧∀ j,j < bs.length→allowB r (lineF f r ws (befB bs j).toNat (gz bs j).toNat)=true:=by
 unfold lnErr at h
 by_cases h1:cpErr (((places ws).length-1:Nat):Int) bs≠0
 · rw [if_pos h1] at h;exact absurd h h1
 rw [if_neg h1] at h
 refine ⟨Decidable.not_not.1 h1,fun j hj=>?_⟩
 have:=fstE_zero h j hj
 unfold alE at this
 by_cases h2:allowB r (lineF f r ws (befB bs j).toNat (gz bs j).toNat)=true
 · exact h2
 · rw [if_neg h2] at this;omega
def dmA (f:Fnt) (r:Rls) (ws:List PWord) (bs:List Int) (k:Nat):Int:=sumD f r ws ((prs bs bs.length).take k)
theorem dmA_step {f:Fnt} {r:Rls} {ws:List PWord} {bs:List Int} {k:Nat} (h:k < bs.length):dmA f r ws bs (k+1)=dmA f r ws bs k+demF f r (lineF f r ws (befB bs k).toNat (gz bs k).toNat) (divB ws (befB bs k).toNat) (divB ws (gz bs k).toNat):=by
 have hk:k < (prs bs bs.length).length:=by rw [prs_len];exact h
 have e:=prs_get bs bs.length k h
 rw [List.getElem?_eq_getElem hk] at e
 injection e with e
 unfold dmA
 rw [sumD_take hk,e]
theorem dmA_bound {f:Fnt} {r:Rls} {ws:List PWord} {bs:List Int} (hr:RuOk f r) (h:∀ j,j < bs.length→allowB r (lineF f r ws (befB bs j).toNat (gz bs j).toNat)=true):∀ k,k≤bs.length→0≤dmA f r ws bs k∧dmA f r ws bs k≤k*400200000
 | 0,_=>by simp [dmA,sumD]
 | k+1,hk=>by
  have h1:=dmA_bound hr h k (by omega)
  have h2:=dem_bound (da:=divB ws (befB bs k).toNat) (db:=divB ws (gz bs k).toNat) hr (h k (by omega))
  rw [dmA_step (by omega)]
  unfold DMX at h2
  omega
theorem SSt.shape {W:World} {B:Nat} {f:Fnt} {r:Rls} {ws:List PWord} {qs:List ((Nat × Nat) × Value)} {vo:Value} (h:SSt W B f r ws qs vo):∃ A c,vo=.slice A qs.length c:=by
 rcases h.row.2 with ⟨rfl,h0⟩ | ⟨g,cap,cur,rfl,_⟩
 · exact ⟨none,0,by rw [h0]⟩
 · exact ⟨_,_,rfl⟩
theorem SSt.at {W:World} {B:Nat} {f:Fnt} {r:Rls} {ws:List PWord} {qs:List ((Nat × Nat) × Value)} {A:Option Addr} {c k:Nat} {p:Nat × Nat} (h:SSt W B f r ws qs (.slice A qs.length c)) (hk:k < qs.length) (hp:(qs.map Prod.fst)[k]?=some p) :
 ∃ g Av cv,A=some ⟨g,0,none⟩∧g < W.heap.size∧W.cell? ⟨g,k*5,none⟩=some (.int .i64 (p.1:Int))∧W.cell? ⟨g,k*5+1,none⟩=some (.int .i64 (p.2:Int))∧W.cell? ⟨g,k*5+2,none⟩=some (.slice Av (lineF f r ws p.1 p.2).ps.length cv)∧
  W.cell? ⟨g,k*5+3,none⟩=some (.int .i64 (lineF f r ws p.1 p.2).room)∧W.cell? ⟨g,k*5+4,none⟩=some (.bool (lineF f r ws p.1 p.2).ends)∧LV W (lineF f r ws p.1 p.2).ps (.slice Av (lineF f r ws p.1 p.2).ps.length cv):=by
 obtain ⟨g,cap,hvo,hg1,hg2⟩:=h.row.form (by omega)
 injection hvo with hA hn hc
 subst hA hc
 have hq:qs[k]?=some qs[k]:=List.getElem?_eq_getElem hk
 have hp2:qs[k].1=p:=by
  rw [List.getElem?_map,hq] at hp
  simpa using hp
 obtain ⟨e0,e1,e2,e3,e4⟩:=scl_get f r ws qs k _ hq
 rw [hp2] at e0 e1 e3 e4
 obtain ⟨hd,hps⟩:=h.pc qs[k] (List.getElem_mem hk)
 rw [hp2] at hps
 have hlv:=hps.lv
 obtain ⟨Av,cv,hvs,-,-⟩:=hlv.shape
 rw [hvs] at hlv e2
 have hcell:=fun m (hm:k*5+m < qs.length*5)=>h.row.cellAt (k*5+m) hm
 refine ⟨g,Av,cv,rfl,hg2,?_,?_,?_,?_,?_,hlv⟩
 · rw [show k*5=k*5+0 from rfl,hcell 0 (by omega)];exact e0
 · rw [hcell 1 (by omega)];exact e1
 · rw [hcell 2 (by omega)];exact e2
 · rw [hcell 3 (by omega)];exact e3
 · rw [hcell 4 (by omega)];exact e4
def cbA (f:Fnt) (r:Rls) (ws:List PWord) (bs:List Int):Int × Int:=
 if paErr f r ws≠0 then (0,paErr f r ws) else if lnErr f r ws bs≠0 then (0,lnErr f r ws bs) else (dmA f r ws bs bs.length,0)
end Go.Proofs.YtbnganlfelgogaaGreat
namespace Go.Proofs.YtbnganlfelgogaaGreat
open Go.RowKit
theorem results_tmp4 {fn:Func} {t u v x:Tmp} (h:fn.results=#[.tmp t,.tmp u,.tmp v,.tmp x]) (tmps:Array Value) (P:Program) (w:World) :
 (results fn tmps).run P w=.ok (.tuple #[tmps.getD t undef,tmps.getD u undef,tmps.getD v undef,tmps.getD x undef]) w:=by
 simp [results,h]
def BtPost (f:Fnt) (r:Rls) (ws:List PWord) (w:World) (e:Ending) (w':World):Prop:=
 Below w.heap.size w w'∧((paErr f r ws≠0∧e=.returned (.tuple #[.slice none 0 0,.slice none 0 0,.int .i64 0,.int .i64 (paErr f r ws)]))∨
  (paErr f r ws=0∧dist (tab f r ws) ((places ws).length-1)=ML∧∃ vl,e=.returned (.tuple #[.slice none 0 0,vl,.int .i64 0,.int .i64 12])∧IV w' (lbs (tab f r ws) (places ws).length (places ws).length) vl)∨
  (paErr f r ws=0∧dist (tab f r ws) ((places ws).length-1) < ML∧∃ b vb vl,e=.returned (.tuple #[vb,vl,.int .i64 (dist (tab f r ws) ((places ws).length-1):Int),.int .i64 0])∧IV w' (ints b) vb∧IV w' (lbs (tab f r ws) (places ws).length (places ws).length) vl∧
   Path (tab f r ws) 0 b ((places ws).length-1) (dist (tab f r ws) ((places ws).length-1))))
theorem bestO_any (f:Fnt) (v:Value) (r:Rls) (ws:List PWord) (vw:Value) (w:World) (hv:SoV w f.sorts v) (hn:f.name.size≤9223372036854775807) (hw:WoV w ws vw) :
 Calls Tryz.prog 21 #[.agg (fcs f v),.agg (rcs r),vw] w (BtPost f r ws w):=by
 have HT:=Lib.hid (UB.start (r:=r) hv hw)
 have HOP:=Lib.hid (fun W (h1:SoV W f.sorts v) (h2:WoV W ws vw)=>open_any f v r ws vw W h1 hn h2)
 have HPO:Hid (paErr f r ws=0→POk f r ws):=paErr_ok
 have HBE:=Lib.hid (fun pb vp W (h1:PA W pb f v r ws vw vp) (h2:POk f r ws)=>best_any f v r ws vw vp pb W h1 h2)
 have HLA:=Lib.hid (fun pb vp W (h1:PA W pb f v r ws vw vp) (h2:(places ws).length≤300)=>last_any f v r ws vw vp pb W h1 h2)
 have H0:Hid (∀ W,paErr f r ws≠0→Below w.heap.size w W→BtPost f r ws w (.returned (.tuple #[.slice none 0 0,.slice none 0 0,.int .i64 0,.int .i64 (paErr f r ws)])) W):=(show ∀ W,_ from fun W h hb=>⟨hb,.inl ⟨h,rfl⟩⟩)
 have H1:Hid (∀ W vl,paErr f r ws=0→dist (tab f r ws) ((places ws).length-1)=ML→IV W (lbs (tab f r ws) (places ws).length (places ws).length) vl→Below w.heap.size w W→BtPost f r ws w (.returned (.tuple #[.slice none 0 0,vl,.int .i64 0,.int .i64 12])) W):=(show ∀ W vl,_ from fun W vl h h1 h2 hb=>⟨hb,.inr (.inl ⟨h,h1,vl,rfl,h2⟩)⟩)
 have H2:Hid (∀ W b vb vl,paErr f r ws=0→dist (tab f r ws) ((places ws).length-1) < ML→IV W (ints b) vb→IV W (lbs (tab f r ws) (places ws).length (places ws).length) vl→Path (tab f r ws) 0 b ((places ws).length-1) (dist (tab f r ws) ((places ws).length-1))→Below w.heap.size w W→
  BtPost f r ws w (.returned (.tuple #[vb,vl,.int .i64 (dist (tab f r ws) ((places ws).length-1):Int),.int .i64 0])) W):=(show ∀ W b vb vl,_ from fun W b vb vl h h1 h2 h3 h4 hb=>⟨hb,.inr (.inr ⟨h,h1,b,vb,vl,rfl,h2,h3,h4⟩)⟩)
 obtain ⟨Av,cv,rfl⟩:=hv.shape
 obtain ⟨Aw,cw,rfl,-⟩:=hw.shape
 clear hv hw hn
 have g0:=HT.out.T.F.cell 0
 have g1:=HT.out.T.F.cell 1
 have g2:=HT.out.T.F.cell 2
 have q0:=HT.out.T.R.cell 0
 have q1:=HT.out.T.R.cell 1
 have q2:=HT.out.T.R.cell 2
 have q3:=HT.out.T.R.cell 3
 have q4:=HT.out.T.R.cell 4
 have q5:=HT.out.T.R.cell 5
 have q6:=HT.out.T.R.cell 6
 have q7:=HT.out.T.R.cell 7
 go_enter Tryz.func21,Tryz.ntmps21
 go_wp2_with fail
 generalize (w.alloc (.cells (fcs f (.slice Av f.sorts.length cv)) 24)).alloc (.cells (rcs r) 26)=W0 at *
 refine (HOP.out _ HT.out.T.S HT.out.V).mono ?_
 rintro e W1 ⟨hb1,⟨hpe,rfl⟩ | ⟨hpe,pb,vp,rfl,hpb,hpa⟩⟩
 · have hpb:=bne_t hpe
   have HPE:=Lib.hid hpe
   have HB1:=Lib.hid (HT.out.T.B.trans (hb1.mono HT.out.T.B.size))
   clear hpe hb1
   go_wp2_with fail
   refine bodyPost_ret (results_tmp4 rfl _ _ _) rfl ?_
   exact H0.out _ HPE.out HB1.out
 have HB1:=Lib.hid (HT.out.T.B.trans (hb1.mono HT.out.T.B.size))
 have HOK:=Lib.hid (HPO.out hpe)
 have HPE:=Lib.hid hpe
 have HBC:=Lib.hid (HBE.out pb vp W1 hpa HOK.out)
 have HPA:=Lib.hid hpa
 have hm:=HOK.out.m
 have hpos:=places_pos ws
 clear hpe hb1 hpa HOP HBE g0 g1 g2 q0 q1 q2 q3 q4 q5 q6 q7
 generalize hN:(places ws).length=N at *
 have HN:=Lib.hid hN
 clear hN
 go_wp2_with fail
 refine HBC.out.mono ?_
 rintro e W2 ⟨bs,vb,vl,rfl,hvb,hvl,hb2,hor⟩
 have HB2:=Lib.hid (HB1.out.trans (hb2.mono HB1.out.size))
 have HLC:=Lib.hid (HLA.out pb vp W2 (HPA.out.step hb2) hm)
 obtain ⟨A,b0,o0,c0,rfl,hA,hz,-,-⟩:=hvl.open
 have hll:=lbs_len (tab f r ws) N N
 obtain ⟨rfl,hbl⟩:=hA (by omega)
 have hzq:=hz (N-1) (by omega)
 rw [lbs_get _ _ _ _ (by omega)] at hzq
 have hfd:(fwd (tab f r ws) N (N-1)).1=dist (tab f r ws) (N-1):=by
  have:=tab_ok (ws:=ws) HOK.out.ru (by rw [HN.out];exact hm)
  rw [HN.out] at this
  exact fwd_dist this (by omega)
 rw [hfd] at hzq
 have HVL:=Lib.hid hvl
 have HVB:=Lib.hid hvb
 rw [hll] at HVL
 rw [hll]
 clear hb2 hz hA hfd hvl hvb HBC HLA
 obtain ⟨q,hq⟩:∃ q,N-1=q:=⟨_,rfl⟩
 have hqz:(q:Int) < (N:Int):=by omega
 have hML:((ML:Nat):Int)=1000000000000000:=rfl
 rw [hq] at hzq HLC hor H1 H2
 rcases hor with ⟨hlt,b,hb,hp⟩ | ⟨heq,hb⟩
 · subst hb
   have hne:((((dist (tab f r ws) q:Nat):Int)) == 1000000000000000)=false:=by rw [←hML];exact beq_false_of_ne (by omega)
   have HF:=Lib.hid (H2.out W2 b _ _ HPE.out hlt HVB.out HVL.out hp HB2.out)
   clear hlt hp HVB HVL H0 H1 H2 hq hML
   generalize dist (tab f r ws) q=dl at *
   go_wp2_with (first
    | (go_at_call 87;(with_reducible refine HLC.out.mono ?_);rintro e w' ⟨rfl,hw'⟩;have hw'':=hw'.symm;subst hw''))
   refine bodyPost_ret (results_tmp4 rfl _ _ _) rfl ?_
   exact HF.out
 · subst hb
   have HF:=Lib.hid (H1.out W2 _ HPE.out heq HVL.out HB2.out)
   rw [heq,hML] at hzq
   clear HVB HVL H0 H1 H2 hq hML heq
   go_wp2_with (first
    | (go_at_call 87;(with_reducible refine HLC.out.mono ?_);rintro e w' ⟨rfl,hw'⟩;have hw'':=hw'.symm;subst hw''))
   refine bodyPost_ret (results_tmp4 rfl _ _ _) rfl ?_
   exact HF.out
end Go.Proofs.YtbnganlfelgogaaGreat
namespace Go.Proofs.YtbnganlfelgogaaGreat
open Go.RowKit
theorem info26:(Tryz.prog.info? 26).map (·.size)=some 8:=by kernel_rfl
theorem rules4_any (w:World):Calls Tryz.prog 83 #[] w fun e w'=>e=.returned (.agg (rcs rul4))∧Below w.heap.size w w':=by
 go_enter Tryz.func83,Tryz.ntmps83
 go_wp2_with fail
 exact bodyPost_ret (results_cell_row rfl _ _ w.heap.size 26 _ (0,0) _ rfl (Blk.new w 26 (rcs rul4)) Tryz.underlying26 rfl info26) rfl ⟨rfl,below_new w _⟩
theorem iv_of_blk {W:World} {g:Nat} {zs:List Int} (h:Blk W g 3 (zv zs).toArray) (hm:zs.length≤1000):IV W zs (.slice (some ⟨g,0,none⟩) zs.length zs.length):=
 IV.mk (b:=g) (off:=0) (fun _=>⟨rfl,h.lt⟩) (fun j hj=>by rw [Nat.zero_add,h.cell,List.getElem?_toArray,zv_get hj]) (Nat.le_refl _) (by omega)
theorem divided_any (w:World):Calls Tryz.prog 84 #[] w fun e w'=>∃ v,e=.returned v∧WoV w' div4 v∧Below w.heap.size w w':=by
 go_enter Tryz.func84,Tryz.ntmps84
 go_wp2_with fail
 have hb1:=below_new w (.cells #[.int .i64 0] 3)
 have k1:=Blk.new w 3 #[.int .i64 0]
 have s1:(w.alloc (.cells #[.int .i64 0] 3)).heap.size=w.heap.size+1:=by simp
 generalize w.alloc (.cells #[.int .i64 0] 3)=w1 at *
 have hb2:=below_new w1 (.cells #[.int .i64 0] 3)
 have k2:=Blk.new w1 3 #[.int .i64 0]
 have s2:(w1.alloc (.cells #[.int .i64 0] 3)).heap.size=w.heap.size+1+1:=by simp;omega
 rw [s1] at k2
 generalize w1.alloc (.cells #[.int .i64 0] 3)=w2 at *
 have hb3:=below_new w2 (.cells #[.int .i64 0,.int .i64 0] 3)
 have k3:=Blk.new w2 3 #[.int .i64 0,.int .i64 0]
 have s3:(w2.alloc (.cells #[.int .i64 0,.int .i64 0] 3)).heap.size=w.heap.size+1+1+1:=by simp;omega
 rw [s2] at k3
 generalize w2.alloc (.cells #[.int .i64 0,.int .i64 0] 3)=w3 at *
 have hb4:=below_new w3 (.cells #[.int .i64 1] 3)
 have k4:=Blk.new w3 3 #[.int .i64 1]
 have s4:(w3.alloc (.cells #[.int .i64 1] 3)).heap.size=w.heap.size+1+1+1+1:=by simp;omega
 rw [s3] at k4
 generalize w3.alloc (.cells #[.int .i64 1] 3)=w4 at *
 have hb5:=below_new w4 (.cells #[.int .i64 0] 3)
 have k5:=Blk.new w4 3 #[.int .i64 0]
 have s5:(w4.alloc (.cells #[.int .i64 0] 3)).heap.size=w.heap.size+1+1+1+1+1:=by simp;omega
 rw [s4] at k5
 generalize w4.alloc (.cells #[.int .i64 0] 3)=w5 at *
 have hb6:=below_new w5 (.cells #[.slice (some ⟨w.heap.size,0,none⟩) 1 1,.slice none 0 0,.slice (some ⟨w.heap.size+1,0,none⟩) 1 1,.slice none 0 0,.slice (some ⟨w.heap.size+1+1,0,none⟩) 2 2,.slice (some ⟨w.heap.size+1+1+1,0,none⟩) 1 1,.slice (some ⟨w.heap.size+1+1+1+1,0,none⟩) 1 1,.slice none 0 0] 40)
 have k6:=Blk.new w5 40 #[.slice (some ⟨w.heap.size,0,none⟩) 1 1,.slice none 0 0,.slice (some ⟨w.heap.size+1,0,none⟩) 1 1,.slice none 0 0,.slice (some ⟨w.heap.size+1+1,0,none⟩) 2 2,.slice (some ⟨w.heap.size+1+1+1,0,none⟩) 1 1,.slice (some ⟨w.heap.size+1+1+1+1,0,none⟩) 1 1,.slice none 0 0]
 rw [s5] at k6
 refine bodyPost_ret (results_tmp rfl _ _ _) rfl ⟨_,rfl,?_,?_⟩
 rotate_left
 · exact hb1.trans ((hb2.mono (by omega)).trans ((hb3.mono (by omega)).trans ((hb4.mono (by omega)).trans ((hb5.mono (by omega)).trans (hb6.mono (by omega))))))
 have h1:=((((k1.below hb2 (by omega)).below hb3 (by omega)).below hb4 (by omega)).below hb5 (by omega)).below hb6 (by omega)
 have h2:=(((k2.below hb3 (by omega)).below hb4 (by omega)).below hb5 (by omega)).below hb6 (by omega)
 have h3:=((k3.below hb4 (by omega)).below hb5 (by omega)).below hb6 (by omega)
 have h4:=(k4.below hb5 (by omega)).below hb6 (by omega)
 have h5:=k5.below hb6 (by omega)
 have e0:=fun i=>k6.cell i
 refine ⟨some ⟨w.heap.size+1+1+1+1+1,0,none⟩,w.heap.size+1+1+1+1+1,0,4,rfl,fun _=>⟨rfl,k6.lt⟩,?_,by decide,by decide⟩
 intro j hj
 have hj4:j=0∨j=1∨j=2∨j=3:=by have:div4.length=4:=rfl;omega
 rcases hj4 with rfl | rfl | rfl | rfl
 · exact ⟨_,_,e0 0,e0 1,iv_of_blk (zs:=[0]) h1 (by decide),IV.nil _⟩
 · exact ⟨_,_,e0 2,e0 3,iv_of_blk (zs:=[0]) h2 (by decide),IV.nil _⟩
 · exact ⟨_,_,e0 4,e0 5,iv_of_blk (zs:=[0,0]) h3 (by decide),iv_of_blk (zs:=[1]) h4 (by decide)⟩
 · exact ⟨_,_,e0 6,e0 7,iv_of_blk (zs:=[0]) h5 (by decide),IV.nil _⟩
end Go.Proofs.YtbnganlfelgogaaGreat
namespace Go.Proofs.YtbnganlfelgogaaGreat
open Go.RowKit
def Rm4Post (w:World) (e:Ending) (w':World):Prop:=∃ v,e=.returned (.agg (fcs rom4 v))∧SoV w' rom4.sorts v∧Below w.heap.size w w'
theorem rom4_sz:SzOk rom4.sorts:=fun j hj=>by
 have h:j < 6:=hj
 have hj6:j=0∨j=1∨j=2∨j=3∨j=4∨j=5:=by omega
 rcases hj6 with rfl | rfl | rfl | rfl | rfl | rfl <;> exact ⟨by decide,by decide⟩
theorem roman4_any (w:World):Calls Tryz.prog 82 #[] w (Rm4Post w):=by
 have hb0:=below_new w (.cells #[.string ⟨#[]⟩,.int .i64 0,.slice none 0 0] 24)
 have hk0:=Blk.new w 24 #[.string ⟨#[]⟩,.int .i64 0,.slice none 0 0]
 have HR:=Lib.hid (roman3_any (w.alloc (.cells #[.string ⟨#[]⟩,.int .i64 0,.slice none 0 0] 24)))
 have hs0:(w.alloc (.cells #[.string ⟨#[]⟩,.int .i64 0,.slice none 0 0] 24)).heap.size=w.heap.size+1:=by simp
 obtain ⟨i0,hi0,hz0,hz1,hz2⟩:=info_parts info128
 go_enter Tryz.func82,Tryz.ntmps82
 go_wp2_with fail
 refine HR.out.mono ?_
 rintro e w1 ⟨v,rfl,hso,hb1⟩
 obtain ⟨A,c,rfl⟩:=hso.shape
 have hl5:romS.length=5:=rfl
 rw [hs0] at hso
 have hw1s:w.heap.size+1≤w1.heap.size:=by have:=hb1.size;omega
 have HB1:=Lib.hid (hb0.trans (hb1.mono hb0.size))
 have HK0:=Lib.hid (hk0.below hb1 (by omega))
 have HSO:=Lib.hid hso
 clear hso hb1 hb0 hk0 HR hs0
 rw [hl5]
 have hb2:=below_new w1 (.cells #[.string ⟨#[114,111,109]⟩,.int .i64 10,.slice A 5 c] 24)
 have hk2:=Blk.new w1 24 #[.string ⟨#[114,111,109]⟩,.int .i64 10,.slice A 5 c]
 have hb3:=below_new (w1.alloc (.cells #[.string ⟨#[114,111,109]⟩,.int .i64 10,.slice A 5 c] 24)) (.cells #[.string ⟨#[104,121]⟩,.string ⟨#[45]⟩,.int .i64 1,.int .i64 100] 145)
 have hb23:=hb2.trans (hb3.mono hb2.size)
 have hk3:=hk2.below hb3 hk2.lt
 have hown3:((w1.alloc (.cells #[.string ⟨#[114,111,109]⟩,.int .i64 10,.slice A 5 c] 24)).alloc (.cells #[.string ⟨#[104,121]⟩,.string ⟨#[45]⟩,.int .i64 1,.int .i64 100] 145)).ownsRow (w.heap.size+1) 145 4 (.slice A 5 c) 5 (socl romS):=World.ownsRow.kept (row:=none) HSO.out (grown_of_below hb23 none) (Classical.em _)
 have hnews:∀ (j:Nat) (u:Value),([.string ⟨#[104,121]⟩,.string ⟨#[45]⟩,.int .i64 1,.int .i64 100]:List Value)[j]?=some u→((w1.alloc (.cells #[.string ⟨#[114,111,109]⟩,.int .i64 10,.slice A 5 c] 24)).alloc (.cells #[.string ⟨#[104,121]⟩,.string ⟨#[45]⟩,.int .i64 1,.int .i64 100] 145)).cell? ((⟨w1.heap.size+1,0,none⟩:Addr).add j)=some u:=by
  have:=World.news_of_block (w:=(w1.alloc (.cells #[.string ⟨#[114,111,109]⟩,.int .i64 10,.slice A 5 c] 24)).alloc (.cells #[.string ⟨#[104,121]⟩,.string ⟨#[45]⟩,.int .i64 1,.int .i64 100] 145)) (heap_alloc_new (w1.alloc (.cells #[.string ⟨#[114,111,109]⟩,.int .i64 10,.slice A 5 c] 24)) _)
  rw [World.size_alloc] at this
  exact this
 have hbase:w.heap.size+1≤((w1.alloc (.cells #[.string ⟨#[114,111,109]⟩,.int .i64 10,.slice A 5 c] 24)).alloc (.cells #[.string ⟨#[104,121]⟩,.string ⟨#[45]⟩,.int .i64 1,.int .i64 100] 145)).heap.size:=by have:=hb23.size;omega
 have HB3:=Lib.hid hb23
 have HK3:=Lib.hid hk3
 have HOL:=Lib.hid hown3.lt
 have HOW:=Lib.hid hown3
 clear hb2 hk2 hb3 hb23 hk3 hown3
 go_wp2_with ((at_builtin
               refine wpList_append_lies _ rfl _ _ 22 (by rfl) (w.heap.size+1) 145 i0 _ 4 48 Tryz.underlying22 hi0 hz0 hz1 hz2 rfl (by omega) _ 5 (socl romS) (by rfl) HOW.out ⟨w1.heap.size+1,0,none⟩ 1 1 [.string ⟨#[104,121]⟩,.string ⟨#[45]⟩,.int .i64 1,.int .i64 100] (by rfl) (by rfl) hnews (by simp [Value.oneCell']) (by omega) (by decide) (by omega) hbase _ rfl ?_
               intro g4 c4 w4 hown4 hgrow4 hat4 hlt4
               have HK4:=Lib.hid (HK3.out.grown hgrow4 (own_blk_ne HOW.out HK3.out (by decide)))
               have hz4:Blk w4 w.heap.size 24 #[.string ⟨#[]⟩,.int .i64 0,.slice none 0 0]:=(HK0.out.below HB3.out HK0.out.lt).grown hgrow4 (fun e=>by have:=(HOL.out w.heap.size e.symm).1;omega)
               have HZ4:=Lib.hid hz4
               have HO4:=Lib.hid hown4
               have HB4:=Lib.hid ((HB1.out.trans (HB3.out.mono HB1.out.size)).grown hgrow4 (by have:=HB1.out.size;have:=HB3.out.size;omega) (fun t ht=>by have:=(HOL.out t ht).1;omega))
               have a0:=HK4.out.cell 0
               have a1:=HK4.out.cell 1
               have a2:=HK4.out.cell 2
               have al:=HK4.out.lt
               have af:=Blk.frozen HK4.out 2
               have b0:=hz4.cell 0
               have b1:=hz4.cell 1
               have b2:=hz4.cell 2
               have bl:=hz4.lt
               have bf0:=Blk.frozen hz4 0
               have bf1:=Blk.frozen hz4 1
               have bf2:=Blk.frozen hz4 2
               clear hown4 hgrow4 hat4 hz4 hnews))
 have hne:w.heap.size≠w1.heap.size:=by omega
 have h1:Blk (w4.setCell ⟨w1.heap.size,2,none⟩ (.slice (some ⟨g4,0,none⟩) 6 c4)) w.heap.size 24 _:=(Below.heap_setCell _ _ _ _ hne).trans HZ4.out
 have h2:Blk ((((w4.setCell ⟨w1.heap.size,2,none⟩ (.slice (some ⟨g4,0,none⟩) 6 c4)).setCell ⟨w.heap.size,0,none⟩ (.string ⟨#[114,111,109]⟩)).setCell ⟨w.heap.size,1,none⟩ (.int .i64 10)).setCell ⟨w.heap.size,2,none⟩ (.slice (some ⟨g4,0,none⟩) 6 c4)) w.heap.size 24 (fcs rom4 (.slice (some ⟨g4,0,none⟩) 6 c4)):=by
  have:=((h1.set_ 0 (.string ⟨#[114,111,109]⟩)).set_ 1 (.int .i64 10)).set_ 2 (.slice (some ⟨g4,0,none⟩) 6 c4)
  exact this
 refine bodyPost_ret (results_cell_row rfl _ _ w.heap.size 24 _ (0,0) _ rfl h2 Tryz.underlying24 rfl info24) rfl ⟨_,rfl,?_,?_⟩
 · refine SoO.sov (B:=w.heap.size+1) ?_ rom4_sz
   have ho:SoO w4 (w.heap.size+1) rom4.sorts (.slice (some ⟨g4,0,none⟩) 6 c4):=HO4.out
   have ho2:SoO (w4.setCell ⟨w1.heap.size,2,none⟩ (.slice (some ⟨g4,0,none⟩) 6 c4)) (w.heap.size+1) rom4.sorts (.slice (some ⟨g4,0,none⟩) 6 c4):=World.ownsRow.kept ho (grown_setCell _ _ _ _) (.inr (fun e=>own_blk_ne ho HK4.out (by decide) e.symm))
   exact ownsRow_setCell_below (ownsRow_setCell_below (ownsRow_setCell_below ho2 (by show w.heap.size < _;omega) _) (by show w.heap.size < _;omega) _) (by show w.heap.size < _;omega) _
 · exact (((HB4.out.setCell (p:=⟨w1.heap.size,2,none⟩) (by show _≤w1.heap.size;omega) _).setCell (p:=⟨w.heap.size,0,none⟩) (Nat.le_refl _) _).setCell (p:=⟨w.heap.size,1,none⟩) (Nat.le_refl _) _).setCell (p:=⟨w.heap.size,2,none⟩) (Nat.le_refl _) _
end Go.Proofs.YtbnganlfelgogaaGreat
