/- Set: the lines at the best breaks, where a paragraph has no indent. -/
import Derived.Test.YtbnganlfelgogaaGreatVSal
import Derived.Test.YtbnganlfelgogaaGreatVBst
import Derived.Test.YtbnganlfelgogaaGreatVRdf
import Derived.Maps.OwnIn
set_option linter.unusedSimpArgs false
set_option linter.unusedVariables false
set_option maxRecDepth 100000
set_option maxHeartbeats 40000000
namespace Go.Proofs.YtbnganlfelgogaaGreat
open Go.RowKit
def CsdPost (f:Fnt) (v:Value) (r:Rls) (ws:List PWord) (vw:Value) (cs:List Int) (w:World) (e:Ending) (w':World):Prop:=
 Below w.heap.size w w'∧((caErr f cs≠0∧e=.returned (.tuple #[.pointer none,.int .i64 (caErr f cs)]))∨(caErr f cs=0∧paErr f r ws≠0∧e=.returned (.tuple #[.pointer none,.int .i64 (paErr f r ws)]))∨
  (caErr f cs=0∧paErr f r ws=0∧∃ pb vp,e=.returned (.tuple #[.pointer (some ⟨pb,0,none⟩),.int .i64 0])∧PA w' pb f v r ws vw vp))
theorem cased_any (f:Fnt) (v:Value) (r:Rls) (ws:List PWord) (vw:Value) (cs:List Int) (vc:Value) (w:World) (hv:SoV w f.sorts v) (hn:f.name.size≤9223372036854775807) (hw:WoV w ws vw) (hc:IV w cs vc) :
 Calls Tryz.prog 98 #[.agg (fcs f v),vc,.agg (rcs r),vw] w (CsdPost f v r ws vw cs w):=by
 have hb0:=below_new w (.cells (fcs f v) 24)
 have hb1:=below_new (w.alloc (.cells (fcs f v) 24)) (.cells (rcs r) 26)
 have hF:=Blk.new w 24 (fcs f v)
 have hR:=Blk.new (w.alloc (.cells (fcs f v) 24)) 26 (rcs r)
 rw [World.size_alloc] at hR
 have HF:=Lib.hid (hF.below hb1 hF.lt)
 have HR:=Lib.hid hR
 have HB:=Lib.hid (hb0.trans (hb1.mono hb0.size))
 have HV:=Lib.hid ((hv.below hb0).below hb1)
 have HW:=Lib.hid ((hw.below hb0).below hb1)
 have HC:=Lib.hid (checkCase_any f v cs vc _ HV.out hn ((hc.below hb0).below hb1))
 have HE0:Hid (∀ W x,x=caErr f cs→caErr f cs≠0→Below w.heap.size w W→CsdPost f v r ws vw cs w (.returned (.tuple #[.pointer none,.int .i64 x])) W):=(show ∀ W x,_ from fun W x e h0 h=>by subst e;exact ⟨h,.inl ⟨h0,rfl⟩⟩)
 have HE1:Hid (∀ e W W',caErr f cs=0→Below w.heap.size w W→OpPost f v r ws vw W e W'→CsdPost f v r ws vw cs w e W'):=(show ∀ e W W',_ from fun e W W' h0 h h2=>by
  obtain ⟨h3,h4⟩:=h2
  refine ⟨h.trans (h3.mono h.size),.inr ?_⟩
  rcases h4 with ⟨h5,rfl⟩ | ⟨h5,pb,vp,rfl,-,h6⟩
  · exact .inl ⟨h0,h5,rfl⟩
  · exact .inr ⟨h0,h5,pb,vp,rfl,h6⟩)
 obtain ⟨Av,cv,rfl⟩:=hv.shape
 obtain ⟨Aw,cw,rfl,-⟩:=hw.shape
 obtain ⟨Ac,_,_,cc,rfl,-⟩:=hc.open
 have f0:=HF.out.cell 0
 have f1:=HF.out.cell 1
 have f2:=HF.out.cell 2
 clear hb0 hb1 hF hR hv hw hc
 go_enter Tryz.func98,Tryz.ntmps98
 go_upto_region 1 with fail
 generalize (w.alloc (.cells (fcs f (.slice Av f.sorts.length cv)) 24)).alloc (.cells (rcs r) 26)=W0 at *
 go_wp2_with fail
 refine HC.out.mono ?_
 rintro e W1 ⟨rfl,hb1⟩
 have HB1:=Lib.hid (HB.out.trans (hb1.mono HB.out.size))
 have HF1:=Lib.hid (HF.out.below hb1 HF.out.lt)
 have HR1:=Lib.hid (HR.out.below hb1 HR.out.lt)
 have HV1:=Lib.hid (HV.out.below hb1)
 have HW1:=Lib.hid (HW.out.below hb1)
 clear hb1 f0 f1 f2 HC HF HR HV HW HB
 by_cases h0:caErr f cs=0
 · have hbn:=bne_f h0
   have H0:=Lib.hid h0
   rw [h0] at hbn ⊢
   clear h0
   have f0:=HF1.out.cell 0
   have f1:=HF1.out.cell 1
   have f2:=HF1.out.cell 2
   have r0:=HR1.out.cell 0
   have r1:=HR1.out.cell 1
   have r2:=HR1.out.cell 2
   have r3:=HR1.out.cell 3
   have r4:=HR1.out.cell 4
   have r5:=HR1.out.cell 5
   have r6:=HR1.out.cell 6
   have r7:=HR1.out.cell 7
   go_wp2_with fail
   refine (open_any f _ r ws _ W1 HV1.out hn HW1.out).mono ?_
   intro e W2 hop
   obtain ⟨A,er,rfl⟩:∃ A er,e=.returned (.tuple #[.pointer A,.int .i64 er]):=by
    rcases hop.2 with ⟨_,h⟩ | ⟨_,_,_,h,_⟩ <;> exact ⟨_,_,h⟩
   have HF2:=Lib.hid (HE1.out _ _ _ H0.out HB1.out hop)
   clear hop f0 f1 f2 r0 r1 r2 r3 r4 r5 r6 r7
   go_wp2_with fail
   refine bodyPost_ret (results_tmp2 rfl _ _ _) rfl ?_
   exact HF2.out
 · have hbn:=bne_t h0
   have HFN:=Lib.hid (fun x e=>HE0.out W1 x e h0 HB1.out)
   generalize caErr f cs=ce at *
   clear h0
   go_wp2_with fail
   refine bodyPost_ret (results_tmp2 rfl _ _ _) rfl ?_
   exact HFN.out _ rfl
def BbOk (t:Tb) (N:Nat) (bs:List Int):Prop:=(dist t (N-1) < ML∧∃ b,bs=ints b∧Path t 0 b (N-1) (dist t (N-1)))∨(dist t (N-1)=ML∧bs=[])
def SetPost (f:Fnt) (r:Rls) (ws:List PWord) (cs:List Int) (w:World) (e:Ending) (w':World):Prop:=
 (caErr f cs≠0∧Below w.heap.size w w'∧e=.returned (.tuple #[.slice none 0 0,.int .i64 0,.int .i64 (caErr f cs)]))∨(caErr f cs=0∧paErr f r ws≠0∧Below w.heap.size w w'∧e=.returned (.tuple #[.slice none 0 0,.int .i64 0,.int .i64 (paErr f r ws)]))∨
  (caErr f cs=0∧paErr f r ws=0∧∃ bs,BbOk (tab f r ws) (places ws).length bs∧((lnErr f r ws bs≠0∧Below w.heap.size w w'∧e=.returned (.tuple #[.slice none 0 0,.int .i64 0,.int .i64 14]))∨(lnErr f r ws bs=0∧SaPost f r ws (prs bs bs.length) cs w e w')))
theorem ln_ps {f:Fnt} {r:Rls} {ws:List PWord} {bs:List Int} (h:lnErr f r ws bs=0):∀ k,k < (prs bs bs.length).length→(lnA f r ws (prs bs bs.length) k).ps.length≤100000:=by
 intro k hk
 rw [prs_len] at hk
 have h1:∀ j,j < bs.length→alE f r ws bs j=0:=by
  unfold lnErr at h
  split at h
  · rename_i h0;exact absurd h h0
  · exact fstE_zero (g:=alE f r ws bs) h
 have h2:=h1 k hk
 unfold alE at h2
 split at h2
 · rename_i ha
   have e:lnA f r ws (prs bs bs.length) k=lineF f r ws (befB bs k).toNat (gz bs k).toNat:=by
    unfold lnA
    rw [List.getD_eq_getElem?_getD,prs_get bs bs.length k hk]
    rfl
   rw [e]
   unfold allowB at ha
   split at ha
   · cases ha
   · split at ha
     · cases ha
     · rename_i h3
       omega
 · omega
theorem set_any (f:Fnt) (v:Value) (r:Rls) (ws:List PWord) (vw:Value) (cs:List Int) (vc:Value) (w:World) (hv:SoV w f.sorts v) (hn:f.name.size≤9223372036854775807) (hw:WoV w ws vw) (hc:IV w cs vc) (hi0:r.indent=0) :
 Calls Tryz.prog 67 #[.agg (fcs f v),vc,.agg (rcs r),vw] w (SetPost f r ws cs w):=by
 have hb0:=below_new w (.cells (fcs f v) 24)
 have hb1:=below_new (w.alloc (.cells (fcs f v) 24)) (.cells (rcs r) 26)
 have hF:=Blk.new w 24 (fcs f v)
 have hR:=Blk.new (w.alloc (.cells (fcs f v) 24)) 26 (rcs r)
 rw [World.size_alloc] at hR
 have HF:=Lib.hid (hF.below hb1 hF.lt)
 have HR:=Lib.hid hR
 have HB:=Lib.hid (hb0.trans (hb1.mono hb0.size))
 have HV:=Lib.hid ((hv.below hb0).below hb1)
 have HW:=Lib.hid ((hw.below hb0).below hb1)
 have HI:=Lib.hid ((hc.below hb0).below hb1)
 have HC:=Lib.hid (cased_any f v r ws vw cs vc _ HV.out hn HW.out HI.out)
 have HE0:Hid (∀ W x,x=caErr f cs→caErr f cs≠0→Below w.heap.size w W→SetPost f r ws cs w (.returned (.tuple #[.slice none 0 0,.int .i64 0,.int .i64 x])) W):=(show ∀ W x,_ from fun W x e h0 h=>by subst e;exact .inl ⟨h0,h,rfl⟩)
 have HE1:Hid (∀ W x,x=paErr f r ws→caErr f cs=0→paErr f r ws≠0→Below w.heap.size w W→SetPost f r ws cs w (.returned (.tuple #[.slice none 0 0,.int .i64 0,.int .i64 x])) W):=(show ∀ W x,_ from fun W x e h0 h1 h=>by subst e;exact .inr (.inl ⟨h0,h1,h,rfl⟩))
 have HE2:Hid (∀ W bs,caErr f cs=0→paErr f r ws=0→BbOk (tab f r ws) (places ws).length bs→lnErr f r ws bs≠0→Below w.heap.size w W→SetPost f r ws cs w (.returned (.tuple #[.slice none 0 0,.int .i64 0,.int .i64 14])) W):=(show ∀ W bs,_ from fun W bs h0 h1 h2 h3 h=>.inr (.inr ⟨h0,h1,bs,h2,.inl ⟨h3,h,rfl⟩⟩))
 have HE3:Hid (∀ e W W' bs,caErr f cs=0→paErr f r ws=0→BbOk (tab f r ws) (places ws).length bs→lnErr f r ws bs=0→Below w.heap.size w W→SaPost f r ws (prs bs bs.length) cs W e W'→SetPost f r ws cs w e W'):=(show ∀ e W W' bs,_ from fun e W W' bs h0 h1 h2 h3 h h4=>.inr (.inr ⟨h0,h1,bs,h2,.inr ⟨h3,⟨h.trans (h4.1.mono h.size),h4.2⟩⟩⟩))
 obtain ⟨Av,cv,rfl⟩:=hv.shape
 obtain ⟨Aw,cw,rfl,-⟩:=hw.shape
 obtain ⟨Ac,_,_,cc,rfl,-⟩:=hc.open
 have f0:=HF.out.cell 0
 have f1:=HF.out.cell 1
 have f2:=HF.out.cell 2
 have r0:=HR.out.cell 0
 have r1:=HR.out.cell 1
 have r2:=HR.out.cell 2
 have r3:=HR.out.cell 3
 have r4:=HR.out.cell 4
 have r5:=HR.out.cell 5
 have r6:=HR.out.cell 6
 have r7:=HR.out.cell 7
 have HI00:=Lib.hid hi0
 clear hb0 hb1 hF hR hv hw hc hi0
 go_enter Tryz.func67,Tryz.ntmps67
 go_upto_region 1 with fail
 generalize (w.alloc (.cells (fcs f (.slice Av f.sorts.length cv)) 24)).alloc (.cells (rcs r) 26)=W0 at *
 go_wp2_with fail
 refine HC.out.mono ?_
 rintro e W1 ⟨hb1,hans⟩
 have HB1:=Lib.hid (HB.out.trans (hb1.mono HB.out.size))
 have HI1:=Lib.hid (HI.out.below hb1)
 clear hb1 f0 f1 f2 r0 r1 r2 r3 r4 r5 r6 r7 HC HF HR HV HW HB HI
 rcases hans with ⟨hce,rfl⟩ | ⟨hce,hpe,rfl⟩ | ⟨hce,hpe,pb,vp,rfl,hpa⟩
 · have hbn:=bne_t hce
   have HFN:=Lib.hid (fun x e=>HE0.out W1 x e hce HB1.out)
   generalize caErr f cs=ce at *
   clear hce
   go_wp2_with fail
   refine bodyPost_ret (results_tmp3 rfl _ _ _) rfl ?_
   exact HFN.out _ rfl
 · have hbn:=bne_t hpe
   have HFN:=Lib.hid (fun x e=>HE1.out W1 x e hce hpe HB1.out)
   generalize paErr f r ws=pe at *
   clear hce hpe
   go_wp2_with fail
   refine bodyPost_ret (results_tmp3 rfl _ _ _) rfl ?_
   exact HFN.out _ rfl
 · have HCE:=Lib.hid hce
   have HPE:=Lib.hid hpe
   have HOK:=Lib.hid (paErr_ok hpe)
   have HPA:=Lib.hid hpa
   have HCS:Hid (CsOk f.sorts.length cs):=(show CsOk _ _ from by
    unfold caErr at hce
    split at hce
    · rename_i h;exact absurd hce h
    · exact cnt_ok hce)
   clear hce hpe hpa
   go_wp2_with fail
   refine (best_any f _ r ws _ vp pb W1 HPA.out HOK.out).mono ?_
   rintro e W2 ⟨bs,vb,vl,rfl,hvb,-,hb2,hbb⟩
   have HB2:=Lib.hid (HB1.out.trans (hb2.mono HB1.out.size))
   have HI2:=Lib.hid (HI1.out.below hb2)
   have HPA2:=Lib.hid (HPA.out.step hb2)
   have HBB:Hid (BbOk (tab f r ws) (places ws).length bs):=hbb
   have HLN:=Lib.hid (lines_any f _ r ws _ vp pb bs vb W2 HPA2.out HOK.out hvb)
   obtain ⟨Ab,_,_,cb,rfl,-⟩:=hvb.open
   clear hb2 hbb HB1 HI1 HPA hvb
   go_wp2_with fail
   refine HLN.out.mono ?_
   rintro e W3 ⟨hb3,hans⟩
   have HB3:=Lib.hid (HB2.out.trans (hb3.mono HB2.out.size))
   have HI3:=Lib.hid (HI2.out.below hb3)
   have HPA3:=Lib.hid (HPA2.out.step hb3)
   clear hb3 HB2 HI2 HPA2 HLN
   rcases hans with ⟨hle,rfl⟩ | ⟨hle,vo,qs,rfl,hss,hqs⟩
   · have hbn:=bne_t hle
     have HFN:=Lib.hid (HE2.out W3 bs HCE.out HPE.out HBB.out hle HB3.out)
     generalize lnErr f r ws bs=le at *
     clear hle
     go_wp2_with fail
     refine bodyPost_ret (results_tmp3 rfl _ _ _) rfl ?_
     exact HFN.out
   · have hbl:(prs bs bs.length).length≤300:=by
      rw [prs_len]
      have h1:=cpErr_ok (lnErr_ok hle).1
      have h2:=bef_up h1.1 (by omega) bs.length (Nat.le_refl _)
      have h3:=HOK.out.m
      omega
     have HSA:=Lib.hid (setAll_any f _ r ws _ vp pb W2.heap.size (prs bs bs.length) qs vo cs _ W3 HPA3.out HOK.out HI00.out hss hqs HI3.out HCS.out (ln_ps hle) hn hbl)
     have HFN:=Lib.hid (fun e W' h=>HE3.out e W3 W' bs HCE.out HPE.out HBB.out hle HB3.out h)
     obtain ⟨Ao,co,rfl⟩:=hss.shape
     clear hle hss hqs hbl
     go_wp2_with fail
     refine HSA.out.mono ?_
     intro e W4 hsa
     obtain ⟨v',a,b,rfl⟩:∃ v' a b,e=.returned (.tuple #[v',.int .i64 a,.int .i64 b]):=by
      rcases hsa.2 with ⟨_,h⟩ | ⟨_,v,h,_⟩ <;> exact ⟨_,_,_,h⟩
     have HF2:=Lib.hid (HFN.out _ _ hsa)
     clear hsa
     go_wp2_with fail
     refine bodyPost_ret (results_tmp3 rfl _ _ _) rfl ?_
     exact HF2.out
end Go.Proofs.YtbnganlfelgogaaGreat
namespace Go.Proofs.YtbnganlfelgogaaGreat
open Go.RowKit Go.Shelf
def hpt (t:Tb) (k:Nat) (pre:List Nat) (j:Nat):Option Nat:=if j ∈ pre then hop t (k+1) j else hop t k j
theorem hop_some {t:Tb} {k j d m:Nat} (h:t k j=some d) (hk:hop t k k=some m):hop t (k+1) j=match hop t k j with | none=>some (m+1) | some x=>if m+1 < x then some (m+1) else some x:=by
 show (match t k j with | none=>hop t k j | some _=>match hop t k k with | none=>hop t k j | some m=>match hop t k j with | none=>some (m+1) | some x=>if m+1 < x then some (m+1) else some x)=_
 rw [h,hk]
theorem hop_none {t:Tb} {k j:Nat} (h:t k j=none):hop t (k+1) j=hop t k j:=by
 show (match t k j with | none=>hop t k j | some _=>_)=_
 rw [h]
theorem hop_not {t:Tb} {k:Nat} (hk:hop t k k=none) (j:Nat):hop t (k+1) j=hop t k j:=by
 cases hd:t k j with
 | none=>exact hop_none hd
 | some d=>
  show (match t k j with | none=>hop t k j | some _=>match hop t k k with | none=>hop t k j | some m=>match hop t k j with | none=>some (m+1) | some x=>if m+1 < x then some (m+1) else some x)=_
  rw [hd,hk]
theorem hpt_new {t:Tb} {k j d m:Nat} {pre:List Nat} (h:t k j=some d) (hk:hop t k k=some m) (hp:hpt t k pre j=none):hop t (k+1) j=some (m+1):=by
 have h1:=hop_some h hk
 unfold hpt at hp
 by_cases e:j ∈ pre
 · rw [if_pos e] at hp
   rw [hp] at h1
   cases hx:hop t k j with
   | none=>rw [hx] at h1;cases h1
   | some x=>
    rw [hx] at h1
    by_cases e2:m+1 < x
    · simp only [if_pos e2] at h1;cases h1
    · simp only [if_neg e2] at h1;cases h1
 · rw [if_neg e] at hp
   rw [h1,hp]
theorem hpt_less {t:Tb} {k j d m x:Nat} {pre:List Nat} (h:t k j=some d) (hk:hop t k k=some m) (hp:hpt t k pre j=some x):hop t (k+1) j=if m+1 < x then some (m+1) else some x:=by
 have h1:=hop_some h hk
 unfold hpt at hp
 by_cases e:j ∈ pre
 · rw [if_pos e] at hp
   rw [hp] at h1 ⊢
   have hx2:¬m+1 < x:=by
    cases hx:hop t k j with
    | none=>rw [hx] at h1;cases h1;omega
    | some y=>
     rw [hx] at h1
     by_cases e2:m+1 < y
     · simp only [if_pos e2] at h1;cases h1;omega
     · simp only [if_neg e2] at h1;cases h1;exact e2
   rw [if_neg hx2]
 · rw [if_neg e] at hp
   rw [h1,hp]
theorem hpt_snoc {t:Tb} {k j:Nat} {pre:List Nat}:hpt t k (pre++[j])=fun i=>if i=j then hop t (k+1) j else hpt t k pre i:=by
 funext i
 unfold hpt
 by_cases e:i=j
 · subst e;simp
 · simp [e]
theorem hpt_stay {t:Tb} {k j d m x:Nat} {pre:List Nat} (h:t k j=some d) (hk:hop t k k=some m) (hp:hpt t k pre j=some x) (hn:¬m+1 < x):hpt t k (pre++[j])=hpt t k pre:=by
 rw [hpt_snoc]
 funext i
 by_cases e:i=j
 · subst e
   rw [if_pos rfl,hpt_less h hk hp,if_neg hn,hp]
 · rw [if_neg e]
theorem hpt_end {t:Tb} {n D k:Nat} (ht:TbOk t n D) (hk:k < n):∀ j,j < n→hpt t k (stp t k (n-1-k)) j=hop t (k+1) j:=fun j hj=>by
 unfold hpt
 by_cases hp:j ∈ stp t k (n-1-k)
 · rw [if_pos hp]
 · rw [if_neg hp]
   symm
   apply hop_none
   cases hd:t k j with
   | none=>rfl
   | some d=>
    exfalso
    apply hp
    have:=ht.up hd
    rw [stp_mem,hd]
    exact ⟨this.1,by omega,rfl⟩
theorem hpt_nil (t:Tb) (k:Nat):hpt t k []=hop t k:=by funext i;simp [hpt]
theorem hop_lt {t:Tb} {n D k m:Nat} (ht:TbOk t n D) (hk:k < n) (h:hop t k k=some m):m < n:=by
 obtain ⟨b,c,hp,hl⟩:=hop_path ht k k m h
 have:=(hp.lt ht hk).2
 omega
def HopS (W:World) (mb N:Nat) (P:Nat→Option Nat) (c:Nat):Prop:=
 ∃ D:DataW Unit,W.ownsMap Tryz.prog 3 (plainElem Tryz.prog 3) mb c D∧Maps.IsMap D∧∀ j,j < N→Maps.has D (.int .i64 (j:Int))=(P j).isSome∧(∀ m,P j=some m→D.atKey (.int .i64 (j:Int)) (.lit (.int .i64 0))=.lit (.int .i64 (m:Int)))
theorem HopS.kept {W W':World} {mb N c:Nat} {P:Nat→Option Nat} {row:Option Nat} (h:HopS W mb N P c) (hg:W.grownBy W' row) (hne:some mb≠row):HopS W' mb N P c:=by
 obtain ⟨D,h1,h2⟩:=h
 exact ⟨D,h1.kept hg hne,h2⟩
theorem HopS.below {W W':World} {mb N c:Nat} {P:Nat→Option Nat} (h:HopS W mb N P c) (hb:Below W.heap.size W W'):HopS W' mb N P c:=h.kept (grown_of_below hb none) (by simp)
theorem HopS.mono {W:World} {mb N c c':Nat} {P:Nat→Option Nat} (h:HopS W mb N P c) (hc:c≤c'):HopS W mb N P c':=by
 obtain ⟨D,h1,h2⟩:=h
 exact ⟨D,h1.mono hc,h2⟩
theorem HopS.lt {W:World} {mb N c:Nat} {P:Nat→Option Nat} (h:HopS W mb N P c):mb < W.heap.size:=by
 obtain ⟨D,h1,-⟩:=h
 exact h1.lt
theorem HopS.congr {W:World} {mb N c:Nat} {P Q:Nat→Option Nat} (h:HopS W mb N P c) (e:∀ j,j < N→P j=Q j):HopS W mb N Q c:=by
 obtain ⟨D,h1,h2,h3⟩:=h
 exact ⟨D,h1,h2,fun j hj=>by rw [←e j hj];exact h3 j hj⟩
theorem keyInt (j:Nat) (hj:j≤1000000):keyOf Tryz.prog 3 (.int .i64 (j:Int))=some (.int .i64 (j:Int)):=Maps.keyOf_int_mk Tryz.underlying3 (by simp [Lit.wf,IntKind.min,IntKind.max,IntKind.signed,IntKind.bits];omega)
theorem HopS.put {W':World} {mb N c j m:Nat} {P:Nat→Option Nat} {D:DataW Unit} (h2:Maps.IsMap D) (h3:∀ j,j < N→Maps.has D (.int .i64 (j:Int))=(P j).isSome∧(∀ m,P j=some m→D.atKey (.int .i64 (j:Int)) (.lit (.int .i64 0))=.lit (.int .i64 (m:Int))))
 (h1:W'.ownsMap Tryz.prog 3 (plainElem Tryz.prog 3) mb c (D.put (.int .i64 (j:Int)) (.lit (.int .i64 (m:Int))))):HopS W' mb N (fun i=>if i=j then some m else P i) c:=by
 refine ⟨_,h1,h2.put _ _,fun i hi=>?_⟩
 by_cases e:i=j
 · subst e
   refine ⟨?_,fun m' hm'=>?_⟩
   · show _=(if i=i then some m else P i).isSome
     rw [Maps.has_put_same h2 (show WideAt.IsKeyLit (.int .i64 _) from trivial),if_pos rfl];rfl
   · replace hm':(if i=i then some m else P i)=some m':=hm'
     rw [if_pos rfl] at hm'
     injection hm' with hm'
     rw [Maps.atKey_put_same h2 (show WideAt.IsKeyLit (.int .i64 _) from trivial),hm']
 · have hne:(Lit.int .i64 (i:Int))≠.int .i64 (j:Int):=fun h=>by injection h with _ h;omega
   refine ⟨?_,fun m' hm'=>?_⟩
   · show _=(if i=j then some m else P i).isSome
     rw [Maps.has_put_other hne,if_neg e];exact (h3 i hi).1
   · replace hm':(if i=j then some m else P i)=some m':=hm'
     rw [if_neg e] at hm'
     rw [Maps.atKey_put_other hne];exact (h3 i hi).2 m' hm'
theorem HopS.start {W':World} {mb N:Nat} {t:Tb} (h1:W'.ownsMap Tryz.prog 3 (plainElem (H:=Unit) Tryz.prog 3) mb 1 ((DataW.map []).put (.int .i64 0) (.lit (.int .i64 0)))):HopS W' mb N (hop t 0) 1:=by
 have:=HopS.put (N:=N) (j:=0) (m:=0) (P:=fun _=>none) (D:=.map []) (c:=1) (W':=W') (mb:=mb) Maps.isMap_empty (fun j _=>⟨rfl,fun m hm=>by cases hm⟩) h1
 exact this.congr (fun j _=>rfl)
theorem wpList_insert_own {ops:Array Oper} {rest:List Oper} {o:Oper} {a:Act} {Q:Exit→Act→World→Prop} {H:Type} {P:Program} (w:World)
 (hg:o.guard=none) (m x v:Operand) (t:TypeId) (hop:o.op=Op.insert t m x v)
 (k e:TypeId) (K:Maps.Keyed P k) (ht:P.underlying t=some (.map k e)) (R:Value→Option (DataW H × List MemPlace)) (b n:Nat) (D:DataW H)
 (hm:a.eval m=.map (some b)) (hown:w.ownsMap P k R b n D) (hn:n < maxLen) (key val:Value) (kl:Lit) (hx:a.eval x=key) (hv:a.eval v=val) (hkey:keyOf P k key=some kl)
 (d:DataW H) (ps:List MemPlace) (hval:R val=some (d,ps))
 (hK:∀ w',w'.ownsMap P k R b (n+1) (D.put kl d)→w.grownBy w' (some b)→wpList P ops Q rest (a.put o.dst undef) w') :
 wpList P ops Q (o :: rest) a w:=by
 refine wpList_plain hg fun K' hK'=>?_
 obtain ⟨w',hrun,r1,r2⟩:=hown.update K ht hn hkey hval
 unfold Oper.wp
 simp [execOp,hop,hm,hx,hv,hrun,Result.andThen]
 exact hK' _ _ (hK w' r1 r2)
theorem at_ins {ops:Array Oper} {rest:List Oper} {a:Act} {Q:Exit→Act→World→Prop} {P:Program} {w:World} {d:Option Tmp} {t:TypeId} {m x v:Operand} {ty:TypeId} {pos:String} {af:Array Edge} {g:Option (Nat × Bool)}
 (h:wpList P ops Q ({ dst:=d,op:=.insert t m x v,type:=ty,pos:=pos,after:=af,guard:=g } :: rest) a w):wpList P ops Q ({ dst:=d,op:=.insert t m x v,type:=ty,pos:=pos,after:=af,guard:=g } :: rest) a w:=h
theorem law3:Maps.Keyed Tryz.prog 3:=Maps.int_keyed Tryz.underlying3
structure FS (W w:World) (ob mb N:Nat) (P:Nat→Option Nat) (c:Nat) (Ds:List Nat):Prop where
 B:Below w.heap.size w W
 M:HopS W mb N P c
 O:Blk W ob 186 #[.map (some mb)]
 nd:Ds.Nodup
 mks:∀ D,D ∈ Ds→w.heap.size≤D∧W.heap[D]?=some (.deferred (some []))
 lo:w.heap.size≤mb∧w.heap.size≤ob∧mb≠ob
theorem FS.below {W W' w:World} {ob mb N c:Nat} {P:Nat→Option Nat} {Ds:List Nat} (s:FS W w ob mb N P c Ds) (hb:Below W.heap.size W W'):FS W' w ob mb N P c Ds:=
 ⟨s.B.trans (hb.mono s.B.size),s.M.below hb,s.O.below hb s.O.lt,s.nd,fun D hD=>⟨(s.mks D hD).1,(hb.block D (Array.getElem?_eq_some_iff.1 (s.mks D hD).2).1).trans (s.mks D hD).2⟩,s.lo⟩
theorem FS.mono {W w:World} {ob mb N c c':Nat} {P:Nat→Option Nat} {Ds:List Nat} (s:FS W w ob mb N P c Ds) (hc:c≤c'):FS W w ob mb N P c' Ds:=⟨s.B,s.M.mono hc,s.O,s.nd,s.mks,s.lo⟩
theorem FS.congr {W w:World} {ob mb N c:Nat} {P Q:Nat→Option Nat} {Ds:List Nat} (s:FS W w ob mb N P c Ds) (e:∀ j,j < N→P j=Q j):FS W w ob mb N Q c Ds:=⟨s.B,s.M.congr e,s.O,s.nd,s.mks,s.lo⟩
theorem FS.put {W W' w:World} {ob mb N c j m:Nat} {P:Nat→Option Nat} {Ds:List Nat} {D:DataW Unit} (s:FS W w ob mb N P c Ds) (h2:Maps.IsMap D) (h3:∀ j,j < N→Maps.has D (.int .i64 (j:Int))=(P j).isSome∧(∀ m,P j=some m→D.atKey (.int .i64 (j:Int)) (.lit (.int .i64 0))=.lit (.int .i64 (m:Int))))
 (h1:W'.ownsMap Tryz.prog 3 (plainElem Tryz.prog 3) mb (c+1) (D.put (.int .i64 (j:Int)) (.lit (.int .i64 (m:Int))))) (hg:W.grownBy W' (some mb)):FS W' w ob mb N (fun i=>if i=j then some m else P i) (c+1) Ds:=by
 obtain ⟨D0,ho,-⟩:=s.M
 obtain ⟨es,ck,hmb,-⟩:=ho
 refine ⟨s.B.grown hg s.B.size (fun t ht=>by injection ht with ht;rw [←ht];exact s.lo.1),HopS.put h2 h3 h1,s.O.grown hg (fun e=>s.lo.2.2 (by injection e with e;exact e.symm)),s.nd,fun D hD=>⟨(s.mks D hD).1,?_⟩,s.lo⟩
 have hd:=(s.mks D hD).2
 refine (hg.block D (Array.getElem?_eq_some_iff.1 hd).1 (fun e=>?_)).trans hd
 injection e with e
 rw [e,hmb] at hd
 cases hd
end Go.Proofs.YtbnganlfelgogaaGreat
