/- ref.Table: the demerits of all lines as the reference lays them out. -/
import Derived.Test.YtbnganlfelgogaaGreatVRcb
set_option linter.unusedSimpArgs false
set_option linter.unusedVariables false
set_option maxRecDepth 100000
set_option maxHeartbeats 40000000
namespace Go.Proofs.YtbnganlfelgogaaGreat
open Go.RowKit
def TblPost (f:Fnt) (r:Rls) (ws:List PWord) (w:World) (e:Ending) (w':World):Prop:=
 ∃ v hd,e=.returned v∧PSt w' w.heap.size (tbL (tab f r ws) (places ws).length (places ws).length) v hd∧Below w.heap.size w w'
theorem tab_low {f:Fnt} {r:Rls} {ws:List PWord} {i j:Nat} (h:¬i < j):tbc (tab f r ws i j)=-1:=by
 unfold tab
 rw [if_neg (fun h2=>h h2.1)]
 rfl
theorem tab_no {f:Fnt} {r:Rls} {ws:List PWord} {i j:Nat} (h:allowB r (lineF f r ws i j)=false):tbc (tab f r ws i j)=-1:=by
 unfold tab
 rw [if_neg (fun h2=>by rw [h] at h2;exact absurd h2.2.2 (by decide))]
 rfl
theorem tab_yes {f:Fnt} {r:Rls} {ws:List PWord} {i j:Nat} (hr:RuOk f r) (hij:i < j) (hj:j < (places ws).length) (h:allowB r (lineF f r ws i j)=true):tbc (tab f r ws i j)=demF f r (lineF f r ws i j) (divB ws i) (divB ws j):=by
 have hb:=dem_bound (da:=divB ws i) (db:=divB ws j) hr h
 unfold tab
 rw [if_pos ⟨hij,hj,h⟩]
 exact Int.toNat_of_nonneg hb.1
theorem line_gg {f:Fnt} {l:Ln} (h:LineOk f l):0≤l.g∧l.g≤1000:=by
 have h1:=h.pos
 have h2:=h.few
 have h3:l.g=(l.ps.length:Int)-1:=rfl
 omega
theorem refTable_any (f:Fnt) (v:Value) (r:Rls) (ws:List PWord) (vw:Value) (w:World) (hv:SoV w f.sorts v) (hw:WoV w ws vw) (hok:POk f r ws) :
 Calls Tryz.prog 53 #[.agg (fcs f v),.agg (rcs r),vw] w (TblPost f r ws w):=by
 have HC0:=Lib.hid (CB.start w f v r)
 have HV:=Lib.hid hv
 have HW:=Lib.hid hw
 have HOK:=Lib.hid hok
 obtain ⟨A,c,rfl⟩:=hv.shape
 obtain ⟨Aw,cw,rfl,-⟩:=hw.shape
 have hpos:=places_pos ws
 have hm3:=hok.m
 have HP:Hid (∀ W v hd,PSt W w.heap.size (tbL (tab f r ws) (places ws).length (places ws).length) v hd→Below w.heap.size w W→TblPost f r ws w (.returned v) W):=(show ∀ W v hd,_ from fun W v hd h hb=>⟨v,hd,rfl,h,hb⟩)
 clear hv hw hok
 go_enter Tryz.func53,Tryz.ntmps53
 go_upto_region 1 with fail
 generalize ((w.alloc (.cells (fcs f (.slice A f.sorts.length c)) 24)).alloc (.cells (rcs r) 26))=W0 at *
 go_wp2_with fail
 refine (refPlaces_any f.sorts.length ws _ W0 (HW.out.below HC0.out.B) HOK.out.wo HOK.out.n).mono ?_
 rintro e W1 ⟨vp,rfl,hpl,hb1,-⟩
 obtain ⟨Ap,cp,rfl,-,-⟩:=hpl.shape
 have HC1:=Lib.hid (HC0.out.step hb1)
 clear hpl hb1 HC0
 have HTC:Hid (∀ i j,tbc (tab f r ws i j)=tbc (tab f r ws i j)):=(show ∀ i j,_ from fun _ _=>rfl)
 obtain ⟨N,hN⟩:∃ x,(places ws).length=x:=⟨_,rfl⟩
 rw [hN] at HP hpos hm3 ⊢
 have HN:=Lib.hid hN
 clear hN HTC
 go_wp2_with fail
 go_loopg [8,9,10,11,12,13] N (fun gg s8 s9 _ _ _ _ wr=>∃ (i:Nat) (vo:Value) (hd:List Value),i≤N∧N-i≤gg∧s9=.int .i64 (i:Int)∧vo=s8∧Hid (CB wr w f (.slice A f.sorts.length c) r)∧Hid (PSt wr w.heap.size (tbL (tab f r ws) N i) vo hd))
 case atStart=>exact ⟨0,.slice none 0 0,[],by omega,by omega,rfl,rfl,HC1.out,PSt.nil _ _⟩
 case round=>
  obtain ⟨i,vo,hd,hi,hg,rfl,rfl,HC,HS⟩:=hrel
  by_cases hlt:i < N
  · have hltz:(i:Int) < (N:Int):=by omega
    obtain ⟨wo,hwo⟩:∃ x,x=wr:=⟨_,rfl⟩
    subst hwo
    go_wp2_with fail
    go_loopg [10,11,12,13] N (fun gg s10 s11 _ _ wr=>∃ (j:Nat) (vr:Value),j≤N∧N-j≤gg∧s11=.int .i64 (j:Int)∧vr=s10∧Hid (Below wo.heap.size wo wr)∧Hid (IO wr wo.heap.size (tbR (tab f r ws) j i) vr))
    case atStart=>exact ⟨0,.slice none 0 0,by omega,by omega,rfl,rfl,Below.refl _ _,by show World.ownsRow _ _ _ _ _ _ _;exact World.ownsRow_nil _ _ _ _⟩
    case round=>
     obtain ⟨j,vr,hj,hg2,rfl,rfl,HB,HR⟩:=hrel
     have HCj:=Lib.hid (HC.out.step HB.out)
     by_cases hlt2:j < N
     · have hltz2:(j:Int) < (N:Int):=by omega
       obtain ⟨wq,hwq⟩:∃ x,x=wr:=⟨_,rfl⟩
       subst hwq
       have hrl:(tbR (tab f r ws) j i).length≤1000000:=by rw [tbR_len];omega
       obtain ⟨Ar,cr,rfl⟩:=HR.out.shape
       have HTS:=Lib.hid (tbR_succ (tab f r ws) i j)
       go_upto_if 29 with fail
       go_cut [12] (fun s12 wx=>s12=.int .i64 (tbc (tab f r ws i j))∧Hid (Below wq.heap.size wq wx))
       case first=>
        by_cases hij:i < j
        · have hijz:(i:Int) < (j:Int):=by omega
          have hjn:j < (places ws).length:=by rw [HN.out];exact hlt2
          have HLO:=Lib.hid (line_ok HOK.out hij hjn)
          have HGG:=Lib.hid (line_gg HLO.out)
          have HRM:=Lib.hid (line_room HOK.out HLO.out)
          have HTY:=Lib.hid (tab_yes (r:=r) HOK.out.ru hij hjn)
          have HTN:=Lib.hid (tab_no (f:=f) (r:=r) (ws:=ws) (i:=i) (j:=j))
          have HAA:Hid (alR r (lineF f r ws i j).g (lineF f r ws i j).room (lineF f r ws i j).ends (fitsB (lineF f r ws i j))=allowB r (lineF f r ws i j)):=allow_al HLO.out.pos
          have HOF:=Lib.hid (refOf_any f _ r ws _ i j wq (HV.out.below HCj.out.B) (HW.out.below HCj.out.B) HOK.out hij hjn)
          have HOFP:Hid (∀ e W',OfPost f r ws i j wq e W'→e=.returned (.agg (ofc (lineF f r ws i j).g (lineF f r ws i j).room (lineF f r ws i j).ends (divB ws i) (divB ws j) (fitsB (lineF f r ws i j))))∧Below wq.heap.size wq W'):=(show ∀ e W',_ from fun e W' h=>h)
          have HAL:=Lib.hid (fun W=>refAllowed_any f r (lineF f r ws i j).g (lineF f r ws i j).room (lineF f r ws i j).ends (divB ws i) (divB ws j) (fitsB (lineF f r ws i j)) W HOK.out.ru HGG.out)
          rw [HAA.out] at HAL
          have HRD:Hid (∀ W,Below w.heap.size w W→Calls Tryz.prog 63 #[.agg (fcs f (.slice A f.sorts.length c)),.agg (rcs r),.agg (ofc (lineF f r ws i j).g (lineF f r ws i j).room (lineF f r ws i j).ends (divB ws i) (divB ws j) (fitsB (lineF f r ws i j)))] W (IntPost (demF f r (lineF f r ws i j) (divB ws i) (divB ws j)) W)):=(show ∀ W,_ from fun W hW=>refDemerits_any f _ r _ _ _ _ _ _ W HOK.out.fn HOK.out.ru (HV.out.below hW) HGG.out HRM.out)
          clear hij hjn HLO HGG HRM HAA
          generalize tbc (tab f r ws i j)=tc at *
          generalize lineF f r ws i j=l at *
          generalize divB ws i=da at *
          generalize divB ws j=db at *
          generalize demF f r l da db=dd at *
          have f0:=HCj.out.F.cell 0
          have f1:=HCj.out.F.cell 1
          have f2:=HCj.out.F.cell 2
          have fl:=HCj.out.F.lt
          have r0:=HCj.out.R.cell 0
          have r1:=HCj.out.R.cell 1
          have r2:=HCj.out.R.cell 2
          have r3:=HCj.out.R.cell 3
          have r4:=HCj.out.R.cell 4
          have r5:=HCj.out.R.cell 5
          have r6:=HCj.out.R.cell 6
          have r7:=HCj.out.R.cell 7
          have rl:=HCj.out.R.lt
          go_wp2_with fail
          refine HOF.out.mono ?_
          intro e w5 h5
          obtain ⟨rfl,hb5⟩:=HOFP.out _ _ h5
          have hbn:=below_new w5 (.cells (ofc l.g l.room l.ends da db (fitsB l)) 104)
          have HB6:=Lib.hid (hb5.trans (hbn.mono hb5.size))
          have HX6:=Lib.hid (Blk.new w5 104 (ofc l.g l.room l.ends da db (fitsB l)))
          have HC6:=Lib.hid (HCj.out.step HB6.out)
          clear hb5 h5 hbn HOF HOFP f0 f1 f2 fl r0 r1 r2 r3 r4 r5 r6 r7 rl
          go_upto_region 13 with fail
          generalize w5.alloc (.cells (ofc l.g l.room l.ends da db (fitsB l)) 104)=w6 at *
          generalize w5.heap.size=xb at *
          generalize fitsB l=fi at *
          have x0:=HX6.out.cell 0
          have x1:=HX6.out.cell 1
          have x2:=HX6.out.cell 2
          have x3:=HX6.out.cell 3
          have x4:=HX6.out.cell 4
          have x5:=HX6.out.cell 5
          have xl:=HX6.out.lt
          have r0:=HC6.out.R.cell 0
          have r1:=HC6.out.R.cell 1
          have r2:=HC6.out.R.cell 2
          have r3:=HC6.out.R.cell 3
          have r4:=HC6.out.R.cell 4
          have r5:=HC6.out.R.cell 5
          have r6:=HC6.out.R.cell 6
          have r7:=HC6.out.R.cell 7
          have rl:=HC6.out.R.lt
          go_wp2_with fail
          refine (HAL.out w6).mono ?_
          rintro e w7 ⟨rfl,hb7⟩
          have HC7:=Lib.hid (HC6.out.step hb7)
          have HX7:=Lib.hid (HX6.out.below hb7 HX6.out.lt)
          have HB7:=Lib.hid (HB6.out.trans (hb7.mono HB6.out.size))
          clear hb7 HC6 HX6 HB6 HAL x0 x1 x2 x3 x4 x5 xl r0 r1 r2 r3 r4 r5 r6 r7 rl
          cases hal:allowB r l with
          | false=>
           have HF:=Lib.hid (HTN.out hal)
           clear hal HTY HTN
           go_wp2_with fail
           go_meet
           exact ⟨by rw [HF.out],HB7.out⟩
          | true=>
           have HF:=Lib.hid (HTY.out hal)
           clear hal HTY HTN
           have x0:=HX7.out.cell 0
           have x1:=HX7.out.cell 1
           have x2:=HX7.out.cell 2
           have x3:=HX7.out.cell 3
           have x4:=HX7.out.cell 4
           have x5:=HX7.out.cell 5
           have xl:=HX7.out.lt
           have f0:=HC7.out.F.cell 0
           have f1:=HC7.out.F.cell 1
           have f2:=HC7.out.F.cell 2
           have fl:=HC7.out.F.lt
           have r0:=HC7.out.R.cell 0
           have r1:=HC7.out.R.cell 1
           have r2:=HC7.out.R.cell 2
           have r3:=HC7.out.R.cell 3
           have r4:=HC7.out.R.cell 4
           have r5:=HC7.out.R.cell 5
           have r6:=HC7.out.R.cell 6
           have r7:=HC7.out.R.cell 7
           have rl:=HC7.out.R.lt
           go_wp2_with fail
           refine (HRD.out w7 HC7.out.B).mono ?_
           rintro e w8 ⟨rfl,hb8⟩
           have HB8:=Lib.hid (HB7.out.trans (hb8.mono HB7.out.size))
           clear hb8 HC7 HX7 HB7 HRD x0 x1 x2 x3 x4 x5 xl f0 f1 f2 fl r0 r1 r2 r3 r4 r5 r6 r7 rl
           go_wp2_with fail
           go_meet
           exact ⟨by rw [HF.out],HB8.out⟩
        · have hijz:¬(i:Int) < (j:Int):=by omega
          have HF:=Lib.hid (tab_low (f:=f) (r:=r) (ws:=ws) hij)
          clear hij
          go_wp2_with fail
          go_meet
          exact ⟨by rw [HF.out],Below.refl _ _⟩
       case rest=>
        obtain ⟨rfl,HBC⟩:=hcut
        generalize tbc (tab f r ws i j)=tc at *
        have hb9:=below_new wc (.cells #[.int .i64 tc] 3)
        have HB9:=Lib.hid (HB.out.trans ((HBC.out.trans (hb9.mono HBC.out.size)).mono HB.out.size))
        have HIO9:=Lib.hid ((HR.out.below HBC.out).below hb9)
        have hcl9:=(Blk.new wc 3 #[.int .i64 tc]).cell 0
        have hbs9:wo.heap.size≤(wc.alloc (.cells #[.int .i64 tc] 3)).heap.size:=HB9.out.size
        clear hb9
        go_wp2_with (first
         | (at_builtin
            refine wpList_app1 rfl _ _ (by rfl) wo.heap.size _ (tbR (tab f r ws) j i) tc _ 1 (by rfl) (by rfl) HIO9.out hcl9 hrl hbs9 ?_
            intro v' w' hio hbw hgw
            have HO10:=Lib.hid hio
            have HB10:=Lib.hid (HB9.out.trans hbw)
            clear hio hbw hgw))
        go_roundg (N-(j+1))
        case measure=>omega
        case rel=>exact ⟨j+1,_,by omega,by omega,by go_num,rfl,HB10.out,by show IO _ _ _ _;rw [HTS.out];exact HO10.out⟩
     · have hltz2:¬(j:Int) < (N:Int):=by omega
       have hjn:j=N:=by omega
       have HRN:Hid (IO wr wo.heap.size (tbR (tab f r ws) N i) vr):=by show IO _ _ _ _;rw [←hjn];exact HR.out
       obtain ⟨Av,cv,rfl⟩:=HRN.out.shape
       generalize (tbR (tab f r ws) N i).length=nR at *
       clear hjn hlt2 hj hg2 HR
       have HSW:=Lib.hid (HS.out.below HB.out)
       have HOLD:Hid (∀ q,q < (tbL (tab f r ws) N i).length→∀ t,(hd.getD q undef).ownBlock=some t→t < wo.heap.size):=(show ∀ q,_ from fun q hq t ht=>(World.ownsRow.lt (HS.out.pc q hq) t ht).2)
       have HTS:=Lib.hid (tbL_succ (tab f r ws) N i)
       have hll:(tbL (tab f r ws) N i).length≤1000000:=by rw [tbL_len];omega
       have hbn:=below_new wr (.cells #[.slice Av nR cv] 34)
       have HS9:=Lib.hid (HSW.out.below hbn)
       have HR9:=Lib.hid (HRN.out.below hbn)
       have hcl9:=(Blk.new wr 34 #[.slice Av nR cv]).cell 0
       have hv1:(Value.slice Av nR cv).oneCell'=true:=rfl
       have HCN:=Lib.hid (HCj.out.step hbn)
       have hbs9:w.heap.size≤(wr.alloc (.cells #[.slice Av nR cv] 34)).heap.size:=HCN.out.B.size
       have hbw0:w.heap.size≤wo.heap.size:=HC.out.B.size
       clear hbn
       go_wp2_with (first
        | (at_builtin
           refine wpList_appL rfl _ _ (by rfl) w.heap.size wo.heap.size _ (.slice Av nR cv) (tbL (tab f r ws) N i) hd (tbR (tab f r ws) N i) _ 1 (by rfl) (by rfl) HS9.out HR9.out hbw0 HOLD.out hcl9 hv1 hll hbs9 ?_
           intro v' w' hps hbw hgw
           have HP10:=Lib.hid hps
           have HC10:Hid (CB w' w f (.slice A f.sorts.length c) r):=⟨HCN.out.B.trans hbw,HCN.out.F.grown hgw (own_blk_ne HS9.out.row HCN.out.F (by decide)),HCN.out.R.grown hgw (own_blk_ne HS9.out.row HCN.out.R (by decide))⟩
           clear hps hbw hgw))
       go_roundg (N-(i+1))
       case measure=>omega
       case rel=>exact ⟨i+1,_,_,by omega,by omega,by go_num,rfl,HC10.out,by show PSt _ _ _ _ _;rw [HTS.out];exact HP10.out⟩
  · have hltz:¬(i:Int) < (N:Int):=by omega
    have hin:i=N:=by omega
    have HSN:Hid (PSt wr w.heap.size (tbL (tab f r ws) N N) vo hd):=by have h:=HS.out;rw [hin] at h;exact h
    clear hin hlt hi hg
    go_wp2_with fail
    go_ret
    exact HP.out _ _ _ HSN.out HC.out.B
end Go.Proofs.YtbnganlfelgogaaGreat
namespace Go.Proofs.YtbnganlfelgogaaGreat
open Go.RowKit
theorem LV.cellT {t:Tb} {N:Nat} {W:World} {A:Option Addr} {c i j:Nat} (h:LV W (tbL t N N) (.slice A N c)) (hi:i < N) (hj:j < N) :
 ∃ b off b' o' c',A=some ⟨b,off,none⟩∧b < W.heap.size∧b' < W.heap.size∧W.cell? ⟨b,off+i,none⟩=some (.slice (some ⟨b',o',none⟩) N c')∧W.cell? ⟨b',o'+j,none⟩=some (.int .i64 (tbc (t i j))):=by
 have hl:=tbL_len t N N
 have h1:LV W (tbL t N N) (.slice A (tbL t N N).length c):=by rw [hl];exact h
 obtain ⟨b,off,A',b',o',c',hA,hb,hc,hL,hz⟩:=h1.at (k:=i) (by rw [hl];exact hi)
 have hg:gl (tbL t N N) i=tbR t N i:=tbL_get hi
 rw [hg,tbR_len] at hL hc
 rw [hg] at hz
 obtain ⟨rfl,hb2⟩:=hL (by omega)
 exact ⟨b,off,b',o',c',hA,hb,hb2,hc,by rw [hz j (by rw [tbR_len];exact hj),tbR_get hj]⟩
def rowI (g:Nat→Nat) (N:Nat):List Int:=(List.range N).map fun j=>(g j:Int)
theorem rowI_len (g:Nat→Nat) (N:Nat):(rowI g N).length=N:=by simp [rowI]
theorem rowI_get {g:Nat→Nat} {N j:Nat} (h:j < N):gz (rowI g N) j=(g j:Int):=by
 unfold gz rowI
 simp [List.getD_eq_getElem?_getD,h]
theorem rowI_congr {g g':Nat→Nat} {N:Nat} (h:∀ j,j < N→g j=g' j):rowI g N=rowI g' N:=by
 unfold rowI
 exact List.map_congr_left fun j hj=>by rw [h j (List.mem_range.1 hj)]
theorem rowI_set {g:Nat→Nat} {N i x:Nat} (h:i < N):(rowI g N).set i (x:Int)=rowI (fun j=>if j=i then x else g j) N:=by
 apply List.ext_getElem
 · simp [rowI]
 · intro k h1 h2
   have hk:k < N:=by simpa [rowI] using h2
   simp only [rowI,List.getElem_set,List.getElem_map,List.getElem_range]
   by_cases e:i=k
   · subst e;simp
   · rw [if_neg e,if_neg (fun h=>e h.symm)]
theorem rowI_zero (N:Nat):List.replicate N (0:Int)=rowI (fun _=>0) N:=by
 apply List.ext_getElem
 · simp [rowI]
 · intro k h1 h2
   simp [rowI]
theorem inD_zero (t:Tb) (N j:Nat):(inD t N 0 j).1=if j=0 then 0 else ML:=by
 simp only [inD]
 split <;> rfl
theorem inD_succ (t:Tb) (N m j:Nat):(inD t N (m+1) j).1=(inS t (fun i=>(inD t N m i).1) N j).1:=rfl
def nxt (t:Tb) (p:Nat→Nat) (N j i:Nat) (q:Nat):Nat:=if q < j then (inS t p N q).1 else if q=j then (inS t p i j).1 else 0
theorem nxt_start (t:Tb) (p:Nat→Nat) (N:Nat) {j q:Nat}:(if q=j then ML else if q < j then (inS t p N q).1 else 0)=nxt t p N j 0 q:=by
 unfold nxt
 by_cases h:q=j
 · subst h
   rw [if_pos rfl,if_neg (Nat.lt_irrefl _),if_pos rfl]
   rfl
 · rw [if_neg h,if_neg h]
theorem nxt_end {t:Tb} {N D:Nat} (ht:TbOk t N D) (p:Nat→Nat) {j:Nat} (hj:j < N) (q:Nat):nxt t p N j j q=if q < j+1 then (inS t p N q).1 else 0:=by
 unfold nxt
 by_cases h:q < j
 · rw [if_pos h,if_pos (by omega)]
 · rw [if_neg h]
   by_cases e:q=j
   · subst e
     rw [if_pos rfl,if_pos (by omega),inS_stay ht N (by omega)]
   · rw [if_neg e,if_neg (by omega)]
theorem nxt_succ (t:Tb) (p:Nat→Nat) (N j i x q:Nat) (h:x=(inS t p (i+1) j).1):(if q=j then x else nxt t p N j i q)=nxt t p N j (i+1) q:=by
 unfold nxt
 by_cases e:q=j
 · subst e
   rw [if_pos rfl,if_neg (Nat.lt_irrefl _),if_pos rfl,h]
 · rw [if_neg e,if_neg e,if_neg e]
theorem nxt_stay {t:Tb} {p:Nat→Nat} {N j i:Nat} (h:inS t p (i+1) j=inS t p i j) (q:Nat):nxt t p N j i q=nxt t p N j (i+1) q:=by
 unfold nxt
 by_cases e:q=j
 · subst e;rw [h]
 · rw [if_neg e,if_neg e]
theorem nxt_at (t:Tb) (p:Nat→Nat) (N j i:Nat):nxt t p N j i j=(inS t p i j).1:=by
 unfold nxt
 rw [if_neg (Nat.lt_irrefl _),if_pos rfl]
end Go.Proofs.YtbnganlfelgogaaGreat
namespace Go.Proofs.YtbnganlfelgogaaGreat
open Go.RowKit
theorem refLeastIn_any (t:Tb) (N D:Nat) (vt:Value) (L:Nat) (w:World) (ht:TbOk t N D) (hN:N≤300) (hD:D≤1000000000) (hL:L≤1000000) (hv:LV w (tbL t N N) vt) :
 Calls Tryz.prog 72 #[vt,.int .i64 (L:Int)] w (IntPost ((inD t N L (N-1)).1:Int) w):=by
 have hpos:=ht.pos
 obtain ⟨A,c,rfl,-,-⟩:=hv.shape
 rw [tbL_len] at hv ⊢
 have HV:=Lib.hid hv
 have HT:=Lib.hid ht
 have HCT:Hid (∀ W,Below w.heap.size w W→∀ i j,i < N→j < N→∃ b off b' o' c',A=some ⟨b,off,none⟩∧b < W.heap.size∧b' < W.heap.size∧W.cell? ⟨b,off+i,none⟩=some (.slice (some ⟨b',o',none⟩) N c')∧W.cell? ⟨b',o'+j,none⟩=some (.int .i64 (tbc (t i j)))):=(show ∀ W,_ from fun W hW i j hi hj=>LV.cellT (hv.below hW) hi hj)
 have HP:Hid (∀ W x,x=((inD t N L (N-1)).1:Int)→Below w.heap.size w W→IntPost ((inD t N L (N-1)).1:Int) w (.returned (.int .i64 x)) W):=(show ∀ W x,_ from fun W x e h=>by subst e;exact ⟨rfl,h⟩)
 have HML:Hid (((ML:Nat):Int)=1000000000000000):=rfl
 obtain ⟨W2,hmk,hio,hb2⟩:=make30 N (by omega) w
 have HB2:=Lib.hid hb2
 have HI2:Hid (IO W2 w.heap.size (rowI (fun _=>0) N) (.slice (some ⟨w.heap.size,0,none⟩) N N)):=by show IO _ _ _ _;rw [←rowI_zero];exact hio
 clear hv ht hio hb2
 go_enter Tryz.func72,Tryz.ntmps72
 go_wp2_with fail
 clear hmk
 go_loopg [7] N (fun gg s7 wr=>∃ k:Nat,1≤k∧k≤N∧N-k≤gg∧s7=.int .i64 (k:Int)∧Hid (Below w.heap.size w wr)∧Hid (IO wr w.heap.size (rowI (fun q=>if 0 < q∧q < k then ML else 0) N) (.slice (some ⟨w.heap.size,0,none⟩) N N)))
 case atStart=>exact ⟨1,by omega,by omega,by omega,rfl,HB2.out,by show IO _ _ _ _;rw [rowI_congr (g':=fun _=>0) (fun j _=>by show (if _ then _ else _)=_;rw [if_neg (by omega)])];exact HI2.out⟩
 case round=>
  obtain ⟨k,hk1,hk,hg,rfl,HB,HI⟩:=hrel
  by_cases hlt:k < N
  · have hltz:(k:Int) < (N:Int):=by omega
    obtain ⟨g,he,hgB,hgl,x0,x1,HXS⟩:=HI.out.at (i:=k) (by rw [rowI_len];exact hlt)
    injection he with he
    injection he with he _ _
    subst he
    have HIN:Hid (IO (wr.setCell ⟨w.heap.size,k,none⟩ (.int .i64 1000000000000000)) w.heap.size (rowI (fun q=>if 0 < q∧q < k+1 then ML else 0) N) (.slice (some ⟨w.heap.size,0,none⟩) N N)):=by
     have h:=HXS 1000000000000000
     rw [←HML.out,rowI_set hlt] at h
     show IO _ _ _ _
     rw [rowI_congr (g':=fun j=>if j=k then ML else if 0 < j∧j < k then ML else 0) (fun j _=>by
      show (if _ then _ else _)=(if _ then _ else if _ then _ else _)
      by_cases e:j=k
      · rw [if_pos (by omega),if_pos e]
      · rw [if_neg e]
        by_cases e2:0 < j∧j < k
        · rw [if_pos (by omega),if_pos e2]
        · rw [if_neg (by omega),if_neg e2]),←HML.out]
     exact h
    have HBN:Hid (Below w.heap.size w (wr.setCell ⟨w.heap.size,k,none⟩ (.int .i64 1000000000000000))):=HB.out.setCell (p:=⟨w.heap.size,k,none⟩) (Nat.le_refl _) _
    clear HXS hgB
    go_wp2_with fail
    go_roundg (N-(k+1))
    case measure=>omega
    case rel=>exact ⟨k+1,by omega,by omega,by omega,by go_num,HBN.out,HIN.out⟩
  · have hltz:¬(k:Int) < (N:Int):=by omega
    have hkn:k=N:=by omega
    have HI3:Hid (IO wr w.heap.size (rowI (fun q=>(inD t N 0 q).1) N) (.slice (some ⟨w.heap.size,0,none⟩) N N)):=by
     show IO _ _ _ _
     rw [rowI_congr (g':=fun q=>if 0 < q∧q < k then ML else 0) (fun j hj=>by
      show (inD t N 0 j).1=(if _ then _ else _)
      rw [inD_zero]
      by_cases e:j=0
      · rw [if_pos e,if_neg (by omega)]
      · rw [if_neg e,if_pos (by omega)])]
     exact HI.out
    have HB3:=Lib.hid HB.out
    clear hkn hlt hk1 hk hg HI HB
    obtain ⟨w3,hw3⟩:∃ x,x=wr:=⟨_,rfl⟩
    subst hw3
    go_wp2_with fail
    go_loopg [6,8,9,10,11] L (fun gg s6 s8 _ _ _ wr=>∃ (m:Nat) (gn cn:Nat),m≤L∧L-m≤gg∧s8=.int .i64 (m:Int)∧s6=.slice (some ⟨gn,0,none⟩) N cn∧Hid (Below w.heap.size w wr)∧Hid (IO wr w.heap.size (rowI (fun q=>(inD t N m q).1) N) (.slice (some ⟨gn,0,none⟩) N cn)))
    case atStart=>exact ⟨0,w.heap.size,N,by omega,by omega,rfl,rfl,HB3.out,HI3.out⟩
    case round=>
     obtain ⟨m,gn,cn,hm,hgm,rfl,rfl,HB,HI⟩:=hrel
     by_cases hlt:m < L
     · have hltz:(m:Int) < (L:Int):=by omega
       obtain ⟨wo,hwo⟩:∃ x,x=wr:=⟨_,rfl⟩
       subst hwo
       obtain ⟨W4,hmk4,hio4,hb4⟩:=make30 N (by omega) wo
       have hgnl:=(World.ownsRow.lt HI.out gn rfl).2
       have HPM:Hid (∀ j,(inD t N m j).1≤ML):=(show ∀ j,_ from fun j=>inD_le_ML t N m j)
       have HSU:Hid (∀ j,(inD t N (m+1) j).1=(inS t (fun i=>(inD t N m i).1) N j).1):=(show ∀ j,_ from fun j=>inD_succ t N m j)
       generalize (fun i=>(inD t N m i).1)=p at *
       have hML:ML=1000000000000000:=rfl
       have HIO4:Hid (IO W4 wo.heap.size (rowI (fun _=>0) N) (.slice (some ⟨wo.heap.size,0,none⟩) N N)):=by show IO _ _ _ _;rw [←rowI_zero];exact hio4
       have HB4:=Lib.hid hb4
       have hwol:w.heap.size≤wo.heap.size:=HB.out.size
       clear hio4 hb4
       go_wp2_with fail
       clear hmk4
       go_loopg [10,11] N (fun gg s10 _ wr=>∃ j:Nat,j≤N∧N-j≤gg∧s10=.int .i64 (j:Int)∧Hid (Below wo.heap.size wo wr)∧Hid (IO wr wo.heap.size (rowI (fun q=>if q < j then (inS t p N q).1 else 0) N) (.slice (some ⟨wo.heap.size,0,none⟩) N N)))
       case atStart=>exact ⟨0,by omega,by omega,rfl,HB4.out,by show IO _ _ _ _;rw [rowI_congr (g':=fun _=>0) (fun j _=>by show (if _ then _ else _)=_;rw [if_neg (by omega)])];exact HIO4.out⟩
       case round=>
        obtain ⟨j,hj,hgj,rfl,HBJ,HIJ⟩:=hrel
        by_cases hltj:j < N
        · have hltjz:(j:Int) < (N:Int):=by omega
          obtain ⟨g,he,hgB,hgl,x0,x1,HXS⟩:=HIJ.out.at (i:=j) (by rw [rowI_len];exact hltj)
          injection he with he
          injection he with he _ _
          subst he
          have HIK:Hid (IO (wr.setCell ⟨wo.heap.size,j,none⟩ (.int .i64 1000000000000000)) wo.heap.size (rowI (nxt t p N j 0) N) (.slice (some ⟨wo.heap.size,0,none⟩) N N)):=by
           have h:=HXS 1000000000000000
           rw [←HML.out,rowI_set hltj] at h
           show IO _ _ _ _
           rw [←rowI_congr (g:=fun q=>if q=j then ML else if q < j then (inS t p N q).1 else 0) (fun q _=>nxt_start t p N),←HML.out]
           exact h
          have HBK:Hid (Below wo.heap.size wo (wr.setCell ⟨wo.heap.size,j,none⟩ (.int .i64 1000000000000000))):=HBJ.out.setCell (p:=⟨wo.heap.size,j,none⟩) (Nat.le_refl _) _
          clear HXS hgB
          obtain ⟨wj,hwj⟩:∃ x,x=wr:=⟨_,rfl⟩
          subst hwj
          go_wp2_with fail
          clear x0 x1 hgl
          go_loopg [11] j (fun gg s11 wr=>∃ i:Nat,i≤j∧j-i≤gg∧s11=.int .i64 (i:Int)∧Hid (Below wo.heap.size wo wr)∧Hid (IO wr wo.heap.size (rowI (nxt t p N j i) N) (.slice (some ⟨wo.heap.size,0,none⟩) N N)))
          case atStart=>exact ⟨0,by omega,by omega,rfl,HBK.out,HIK.out⟩
          case round=>
           obtain ⟨i,hi,hgi,rfl,HBI,HII⟩:=hrel
           by_cases hlti:i < j
           · have hltiz:(i:Int) < (j:Int):=by omega
             have hiN:(i:Int) < (N:Int):=by omega
             have hbw:=HB.out.trans (HBI.out.mono HB.out.size)
             obtain ⟨b,off,b',o',c',rfl,t1,t2,t3,t4⟩:=HCT.out wr hbw i j (by omega) hltj
             obtain ⟨g1,he1,-,n1,n0,-,-⟩:=(HI.out.below HBI.out).at (i:=i) (by rw [rowI_len];omega)
             injection he1 with he1
             injection he1 with he1 _ _
             subst he1
             rw [rowI_get (by omega)] at n0
             obtain ⟨g2,he2,-,x2,x0,x1,HXS⟩:=HII.out.at (i:=j) (by rw [rowI_len];exact hltj)
             injection he2 with he2
             injection he2 with he2 _ _
             subst he2
             rw [rowI_get hltj,nxt_at] at x0
             have hsl:=inS_le_ML t p i j
             have hpi:=HPM.out i
             by_cases h0:0≤tbc (t i j)
             · obtain ⟨d,hd,htc⟩:=tbc_pos h0
               have hdd:=(HT.out.up hd).2.2
               rw [htc] at t4
               clear h0 htc
               by_cases hp:p i < ML
               · have hpz:((p i:Nat):Int) < 1000000000000000:=by omega
                 have HXN:=Lib.hid (inS_some hd hp)
                 have HNS:=Lib.hid (nxt_succ t p N j i (min (inS t p i j).1 (p i+d)))
                 have HXS2:=Lib.hid HXS
                 have hdz:(0:Int)≤((d:Nat):Int):=by omega
                 clear hd hp HXS
                 generalize hsi:(inS t p i j).1=si at *
                 generalize p i=pi at *
                 clear hsi
                 have HMN:Hid (min (si:Int) ((pi:Int)+(d:Int))=((min si (pi+d):Nat):Int)):=by show _=_;omega
                 have hwr:IntKind.i64.wrap ((pi:Int)+(d:Int))=(pi:Int)+(d:Int):=IntWalk.i64_in _ (by omega)
                 have HWR:=Lib.hid hwr
                 clear hwr
                 go_wp2_with fail
                 go_still_tail 20,(by kernel_rfl)
                 change wpList _ _ _ _ _ wr.drew
                 have HBD:Hid (Below wo.heap.size wo wr.drew):=HBI.out.trans ((Below.refl _ _).drew.mono HBI.out.size)
                 obtain ⟨g3,he3,-,y2,y0,y1,HYS⟩:=(HII.out.below (Below.refl _ _).drew).at (i:=j) (by rw [rowI_len];exact hltj)
                 injection he3 with he3
                 injection he3 with he3 _ _
                 subst he3
                 have u3:wr.drew.cell? ⟨b,off+i,none⟩=some (.slice (some ⟨b',o',none⟩) N c'):=t3
                 have u4:wr.drew.cell? ⟨b',o'+j,none⟩=some (.int .i64 (d:Int)):=t4
                 have m0:wr.drew.cell? ⟨gn,i,none⟩=some (.int .i64 (pi:Int)):=n0
                 have x0':wr.drew.cell? ⟨wo.heap.size,j,none⟩=some (.int .i64 (si:Int)):=x0
                 have u1:b < wr.drew.heap.size:=t1
                 have u2:b' < wr.drew.heap.size:=t2
                 have m1:gn < wr.drew.heap.size:=n1
                 have HFIN:Hid (∀ x:Int,x=((min si (pi+d):Nat):Int)→IO (wr.drew.setCell ⟨wo.heap.size,j,none⟩ (.int .i64 x)) wo.heap.size (rowI (nxt t p N j (i+1)) N) (.slice (some ⟨wo.heap.size,0,none⟩) N N)):=(show ∀ x,_ from fun x hx=>by
                  subst hx
                  have h:=HYS ((min si (pi+d):Nat):Int)
                  rw [rowI_set hltj] at h
                  rw [←rowI_congr (g:=fun q=>if q=j then min si (pi+d) else nxt t p N j i q) (fun q _=>HNS.out q HXN.out.symm)]
                  exact h)
                 have HBS:Hid (∀ u,Below wo.heap.size wo (wr.drew.setCell ⟨wo.heap.size,j,none⟩ u)):=(show ∀ u,_ from fun u=>HBD.out.setCell (p:=⟨wo.heap.size,j,none⟩) (Nat.le_refl _) _)
                 clear t1 t2 t3 t4 n0 n1 x0 x1 x2 y0 HYS HXS2
                 generalize wr.drew=w7 at *
                 go_wp2_with fail
                 go_roundg (j-(i+1))
                 case measure=>omega
                 case rel=>exact ⟨i+1,by omega,by omega,by go_num,HBS.out _,HFIN.out _ (by first | exact HMN.out | (rw [HWR.out];exact HMN.out))⟩
               · have hpz:¬((p i:Nat):Int) < 1000000000000000:=by omega
                 have HNX:Hid (IO wr wo.heap.size (rowI (nxt t p N j (i+1)) N) (.slice (some ⟨wo.heap.size,0,none⟩) N N)):=by
                  show IO _ _ _ _
                  rw [←rowI_congr (g:=nxt t p N j i) (fun q _=>nxt_stay (inS_far hp) q)]
                  exact HII.out
                 have hdz:(0:Int)≤((d:Nat):Int):=by omega
                 clear hp hd HXS
                 generalize p i=pi at *
                 go_wp2_with fail
                 go_roundg (j-(i+1))
                 case measure=>omega
                 case rel=>exact ⟨i+1,by omega,by omega,by go_num,HBI.out,HNX.out⟩
             · have hd:=tbc_neg h0
               have HNX:Hid (IO wr wo.heap.size (rowI (nxt t p N j (i+1)) N) (.slice (some ⟨wo.heap.size,0,none⟩) N N)):=by
                show IO _ _ _ _
                rw [←rowI_congr (g:=nxt t p N j i) (fun q _=>nxt_stay (inS_none hd) q)]
                exact HII.out
               rw [show tbc (t i j)=-1 by rw [hd];rfl] at t4
               clear h0 hd HXS
               go_wp2_with fail
               go_roundg (j-(i+1))
               case measure=>omega
               case rel=>exact ⟨i+1,by omega,by omega,by go_num,HBI.out,HNX.out⟩
           · have hltiz:¬(i:Int) < (j:Int):=by omega
             have hij:i=j:=by omega
             have HNX:Hid (IO wr wo.heap.size (rowI (fun q=>if q < j+1 then (inS t p N q).1 else 0) N) (.slice (some ⟨wo.heap.size,0,none⟩) N N)):=by
              show IO _ _ _ _
              rw [←rowI_congr (g:=nxt t p N j i) (fun q _=>by rw [hij];exact nxt_end HT.out p hltj q)]
              exact HII.out
             clear hij hlti hi hgi
             go_wp2_with fail
             go_roundg (N-(j+1))
             case measure=>omega
             case rel=>exact ⟨j+1,by omega,by omega,by go_num,HBI.out,HNX.out⟩
        · have hltjz:¬(j:Int) < (N:Int):=by omega
          have hjN:j=N:=by omega
          have HNX:Hid (IO wr w.heap.size (rowI (fun q=>(inD t N (m+1) q).1) N) (.slice (some ⟨wo.heap.size,0,none⟩) N N)):=by
           show IO _ _ _ _
           rw [rowI_congr (g':=fun q=>if q < j then (inS t p N q).1 else 0) (fun q hq=>by show (inD t N (m+1) q).1=(if _ then _ else _);rw [HSU.out q,if_pos (by omega)])]
           exact HIJ.out.base hwol
          have HBN:Hid (Below w.heap.size w wr):=HB.out.trans (HBJ.out.mono HB.out.size)
          clear hjN hltj hj hgj
          go_wp2_with fail
          go_roundg (L-(m+1))
          case measure=>omega
          case rel=>exact ⟨m+1,wo.heap.size,N,by omega,by omega,by go_num,rfl,HBN.out,HNX.out⟩
     · have hltz:¬(m:Int) < (L:Int):=by omega
       have hml:m=L:=by omega
       have HF:Hid (((inD t N m (N-1)).1:Int)=((inD t N L (N-1)).1:Int)):=by show _=_;rw [hml]
       obtain ⟨q,rfl⟩:∃ q,N=q+1:=⟨N-1,by omega⟩
       obtain ⟨g,he,hgB,hgl,x0,-,-⟩:=HI.out.at (i:=q) (by rw [rowI_len];omega)
       injection he with he
       injection he with he _ _
       subst he
       rw [rowI_get (by omega)] at x0
       rw [Nat.add_sub_cancel] at HF HP
       have hqq:(q:Int) < (q:Int)+1:=by omega
       clear hml hlt hm hgm
       generalize (inD t (q+1) m q).1=xr at *
       go_wp2_with fail
       go_ret
       exact HP.out _ _ HF.out HB.out
end Go.Proofs.YtbnganlfelgogaaGreat
