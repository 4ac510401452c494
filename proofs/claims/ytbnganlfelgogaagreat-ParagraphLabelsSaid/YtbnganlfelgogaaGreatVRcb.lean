/- ref.CheckBreaks: the demerits of breaks, or the error, as the reference finds them. -/
import Derived.Test.YtbnganlfelgogaaGreatVRof
import Derived.Test.YtbnganlfelgogaaGreatVRfo
import Derived.Test.YtbnganlfelgogaaGreatVBrl
import Derived.Test.YtbnganlfelgogaaGreatVOts
set_option linter.unusedSimpArgs false
set_option linter.unusedVariables false
set_option maxRecDepth 100000
set_option maxHeartbeats 40000000
namespace Go.Proofs.YtbnganlfelgogaaGreat
open Go.RowKit
def cbR (f:Fnt) (r:Rls) (ws:List PWord) (bs:List Int):Int × Int:=if lnErr f r ws bs≠0 then (0,lnErr f r ws bs) else (dmA f r ws bs bs.length,0)
theorem ln_hit {f:Fnt} {r:Rls} {ws:List PWord} {bs:List Int} {k:Nat} (hc:cpErr (((places ws).length-1:Nat):Int) bs=0) (hk:k < bs.length) (h0:∀ i,i < k→alE f r ws bs i=0) (h:alE f r ws bs k=26):lnErr f r ws bs=26:=by
 unfold lnErr
 rw [if_neg (fun h=>h hc),fstE_hit (by rw [h];decide) h0 hk]
 exact h
theorem ln_end {f:Fnt} {r:Rls} {ws:List PWord} {bs:List Int} (hc:cpErr (((places ws).length-1:Nat):Int) bs=0) (h0:∀ i,i < bs.length→alE f r ws bs i=0):lnErr f r ws bs=0:=by
 unfold lnErr
 rw [if_neg (fun h=>h hc),fstE_none h0]
structure CB (W w:World) (f:Fnt) (v:Value) (r:Rls):Prop where
 B:Below w.heap.size w W
 F:Blk W w.heap.size 24 (fcs f v)
 R:Blk W (w.heap.size+1) 26 (rcs r)
theorem CB.step {W W' w:World} {f:Fnt} {v:Value} {r:Rls} (h:CB W w f v r) (hb:Below W.heap.size W W'):CB W' w f v r:=
 ⟨h.B.trans (hb.mono h.B.size),h.F.below hb h.F.lt,h.R.below hb h.R.lt⟩
theorem CB.start (w:World) (f:Fnt) (v:Value) (r:Rls):CB ((w.alloc (.cells (fcs f v) 24)).alloc (.cells (rcs r) 26)) w f v r:=by
 have b1:=below_new w (.cells (fcs f v) 24)
 have b2:=below_new (w.alloc (.cells (fcs f v) 24)) (.cells (rcs r) 26)
 have k2:=Blk.new (w.alloc (.cells (fcs f v) 24)) 26 (rcs r)
 rw [World.size_alloc] at k2
 exact ⟨b1.trans (b2.mono (by simp)),(Blk.new w 24 (fcs f v)).below b2 (by simp),k2⟩
def TwoPost (x:Int × Int) (w:World) (e:Ending) (w':World):Prop:=e=.returned (.tuple #[.int .i64 x.1,.int .i64 x.2])∧Below w.heap.size w w'
theorem refBreaks_any (f:Fnt) (v:Value) (r:Rls) (ws:List PWord) (vw:Value) (bs:List Int) (vb:Value) (w:World) (hv:SoV w f.sorts v) (hw:WoV w ws vw) (hok:POk f r ws) (hb:IV w bs vb) (hbm:bs.length≤1000000) :
 Calls Tryz.prog 40 #[.agg (fcs f v),.agg (rcs r),vw,vb] w (TwoPost (cbR f r ws bs) w):=by
 have HC0:=Lib.hid (CB.start w f v r)
 have HV:=Lib.hid hv
 have HW:=Lib.hid hw
 have HOK:=Lib.hid hok
 have HBV:=Lib.hid hb
 obtain ⟨A,c,rfl⟩:=hv.shape
 obtain ⟨Aw,cw,rfl,-⟩:=hw.shape
 obtain ⟨Ab,bb,ob,cb,rfl,hA,hz,-,-⟩:=hb.open
 have HA:=Lib.hid hA
 have HZ:=Lib.hid hz
 have hpos:=places_pos ws
 have hm3:=hok.m
 have HP:Hid (∀ W x y,(x,y)=cbR f r ws bs→Below w.heap.size w W→TwoPost (cbR f r ws bs) w (.returned (.tuple #[.int .i64 x,.int .i64 y])) W):=(show ∀ W x y,_ from fun W x y e h=>by rw [←e];exact ⟨rfl,h⟩)
 have HE:Hid (cbR f r ws bs=if lnErr f r ws bs≠0 then (0,lnErr f r ws bs) else (dmA f r ws bs bs.length,0)):=rfl
 clear hv hw hb hA hz hok
 go_enter Tryz.func40,Tryz.ntmps40
 go_upto_region 1 with fail
 generalize ((w.alloc (.cells (fcs f (.slice A f.sorts.length c)) 24)).alloc (.cells (rcs r) 26))=W0 at *
 go_wp2_with fail
 refine (refForm_any f.sorts.length ws _ bs _ W0 (HW.out.below HC0.out.B) HOK.out.wo HOK.out.n hm3 (HBV.out.below HC0.out.B) hbm).mono ?_
 rintro e W1 ⟨rfl,hb1⟩
 have HC1:=Lib.hid (HC0.out.step hb1)
 clear hb1 HC0
 obtain ⟨ce,hce⟩:∃ x,cpErr (((places ws).length-1:Nat):Int) bs=x:=⟨_,rfl⟩
 rw [hce]
 by_cases hc0:ce=0
 · subst hc0
   have HCE:=Lib.hid hce
   have hck:=cpErr_ok hce
   have HCK:=Lib.hid hck.1
   have HBU:Hid (∀ k,k≤bs.length→(k:Int)≤befB bs k∧befB bs k≤(((places ws).length-1:Nat):Int)):=(show ∀ k,_ from bef_up hck.1 (by omega))
   clear hce hck
   go_wp2_with fail
   go_loopg [11,12,13,14] bs.length (fun gg s11 s12 s13 _ wr=>∃ k:Nat,k≤bs.length∧bs.length-k≤gg∧s13=.int .i64 (k:Int)∧s11=.int .i64 (dmA f r ws bs k)∧s12=.int .i64 (befB bs k)∧Hid (Below W1.heap.size W1 wr)∧Hid (∀ i,i < k→alE f r ws bs i=0)∧Hid (0≤dmA f r ws bs k∧dmA f r ws bs k≤k*400200000))
   case atStart=>exact ⟨0,by omega,by omega,rfl,by rw [show dmA f r ws bs 0=0 by simp [dmA,sumD]],rfl,Below.refl _ _,fun i hi=>by omega,by show _∧_;rw [show dmA f r ws bs 0=0 by simp [dmA,sumD]];omega⟩
   case round=>
    obtain ⟨k,hk,hg,rfl,rfl,rfl,HB,H0,HDB⟩:=hrel
    have HC:=Lib.hid (HC1.out.step HB.out)
    by_cases hlt:k < bs.length
    · have hltz:(k:Int) < (bs.length:Int):=by omega
      obtain ⟨rfl,hbl0⟩:=HA.out (by omega)
      have hck:=ckE_ok (HCK.out k hlt)
      have hbu:=HBU.out k hk
      have HAL:Hid (alE f r ws bs k=if allowB r (lineF f r ws (befB bs k).toNat (gz bs k).toNat)=true then 0 else 26):=rfl
      have HDM:=Lib.hid (dmA_step (f:=f) (r:=r) (ws:=ws) hlt)
      obtain ⟨i,hi⟩:∃ i:Nat,befB bs k=(i:Int):=⟨(befB bs k).toNat,by omega⟩
      obtain ⟨j,hj⟩:∃ j:Nat,gz bs k=(j:Int):=⟨(gz bs k).toNat,by omega⟩
      rw [hi,hj,Int.toNat_natCast,Int.toNat_natCast] at HAL HDM
      have hij:i < j:=by omega
      have hjn:j < (places ws).length:=by omega
      have HBF:Hid (befB bs (k+1)=(j:Int)):=hj
      have HBK:Hid (w.cell? ⟨bb,ob+k,none⟩=some (.int .i64 (j:Int))):=by show _=_;rw [←hj];exact HZ.out k hlt
      have HLO:=Lib.hid (line_ok HOK.out hij hjn)
      have HRB:Hid (-2000000000≤(lineF f r ws i j).room∧(lineF f r ws i j).room≤2000000000):=line_room HOK.out HLO.out
      have HOF:Hid (∀ W,Below wr.heap.size wr W→Calls Tryz.prog 61 #[.agg (fcs f (.slice A f.sorts.length c)),.agg (rcs r),.slice Aw ws.length cw,.agg #[.int .i64 (i:Int),.int .i64 (j:Int)]] W (OfPost f r ws i j W)):=(show ∀ W,_ from fun W hW=>refOf_any f _ r ws _ i j W (HV.out.below (HC.out.B.trans (hW.mono HC.out.B.size))) (HW.out.below (HC.out.B.trans (hW.mono HC.out.B.size))) HOK.out hij hjn)
      have HKS:Hid (∀ W,Below wr.heap.size wr W→(W.cell? ⟨w.heap.size,0,none⟩=some (.string f.name)∧W.cell? ⟨w.heap.size,1,none⟩=some (.int .i64 f.body)∧W.cell? ⟨w.heap.size,2,none⟩=some (.slice A f.sorts.length c)∧W.cell? ⟨w.heap.size+1,0,none⟩=some (.int .i64 r.measure)∧W.cell? ⟨w.heap.size+1,1,none⟩=some (.int .i64 r.indent)∧W.cell? ⟨w.heap.size+1,2,none⟩=some (.int .i64 r.least)∧W.cell? ⟨w.heap.size+1,3,none⟩=some (.int .i64 r.most)∧W.cell? ⟨w.heap.size+1,4,none⟩=some (.int .i64 r.gap)∧W.cell? ⟨w.heap.size+1,5,none⟩=some (.int .i64 r.hyphen)∧W.cell? ⟨w.heap.size+1,6,none⟩=some (.int .i64 r.single)∧W.cell? ⟨w.heap.size+1,7,none⟩=some (.int .i64 r.double)∧W.cell? ⟨bb,ob+k,none⟩=some (.int .i64 (j:Int)))):=(show ∀ W,_ from fun W hW=>by
       have h1:=HC.out.F.below hW HC.out.F.lt
       have h2:=HC.out.R.below hW HC.out.R.lt
       have h3:=HC.out.B.trans (hW.mono HC.out.B.size)
       exact ⟨h1.cell 0,h1.cell 1,h1.cell 2,h2.cell 0,h2.cell 1,h2.cell 2,h2.cell 3,h2.cell 4,h2.cell 5,h2.cell 6,h2.cell 7,(h3.cell (p:=⟨bb,ob+k,none⟩) hbl0).trans (by rw [←hj];exact HZ.out k hlt)⟩)
      have HOFP:Hid (∀ W e W',OfPost f r ws i j W e W'→e=.returned (.agg (ofc (lineF f r ws i j).g (lineF f r ws i j).room (lineF f r ws i j).ends (divB ws i) (divB ws j) (fitsB (lineF f r ws i j))))∧Below W.heap.size W W'):=(show ∀ W e W',_ from fun W e W' h=>h)
      have HDE:=Lib.hid (fun (ha:allowB r (lineF f r ws i j)=true)=>dem_bound (f:=f) (da:=divB ws i) (db:=divB ws j) HOK.out.ru ha)
      clear hck hbu
      rw [hi]
      clear hi
      obtain ⟨l,hl⟩:∃ l,lineF f r ws i j=l:=⟨_,rfl⟩
      rw [hl] at HAL HDM HLO HOFP HDE HRB
      have HL:=Lib.hid hl
      clear hl hj
      have hi104:(Tryz.prog.info? 104).map (·.size)=some 6:=info104
      go_wp2_with fail
      have hbd:Below wr.heap.size wr wr.drew:=(Below.refl _ _).drew
      have hS0:=HKS.out _ hbd
      go_cut [14] (fun s14 wx=>∃ b14,s14=.pointer (some ⟨b14,0,none⟩)∧wr.heap.size≤b14∧Hid (Below wr.heap.size wr wx)∧Hid (Blk wx b14 104 (ofc l.g l.room l.ends (divB ws i) (divB ws j) (fitsB l))))
      case first=>
       refine wp_region_split (fun W=>(W.cell? ⟨w.heap.size,0,none⟩=some (.string f.name)∧W.cell? ⟨w.heap.size,1,none⟩=some (.int .i64 f.body)∧W.cell? ⟨w.heap.size,2,none⟩=some (.slice A f.sorts.length c)∧W.cell? ⟨w.heap.size+1,0,none⟩=some (.int .i64 r.measure)∧W.cell? ⟨w.heap.size+1,1,none⟩=some (.int .i64 r.indent)∧W.cell? ⟨w.heap.size+1,2,none⟩=some (.int .i64 r.least)∧W.cell? ⟨w.heap.size+1,3,none⟩=some (.int .i64 r.most)∧W.cell? ⟨w.heap.size+1,4,none⟩=some (.int .i64 r.gap)∧W.cell? ⟨w.heap.size+1,5,none⟩=some (.int .i64 r.hyphen)∧W.cell? ⟨w.heap.size+1,6,none⟩=some (.int .i64 r.single)∧W.cell? ⟨w.heap.size+1,7,none⟩=some (.int .i64 r.double)∧W.cell? ⟨bb,ob+k,none⟩=some (.int .i64 (j:Int)))) 11 (by kernel_rfl) (by decide) ?_
       refine wpG_take 11 0 (v:=?_) rfl (by kernel_rfl) (fun _ _ _ h=>h) (Or.inl ⟨by rfl,?_⟩) (by assumption) ?_
       rotate_left
       · intro w hSw;(try dsimp only at hSw);go_simp;(try with_reducible rfl)
       (try simp only [pz])
       refine wpG_take 11 1 (v:=?_) rfl (by kernel_rfl) (fun _ _ _ h=>h) (Or.inl ⟨by rfl,?_⟩) (by assumption) ?_
       rotate_left
       · intro w hSw;(try dsimp only at hSw);go_simp;(try with_reducible rfl)
       (try simp only [pz])
       refine wpG_take 11 2 (v:=?_) rfl (by kernel_rfl) (fun _ _ _ h=>h) (Or.inl ⟨by rfl,?_⟩) (by assumption) ?_
       rotate_left
       · intro w hSw;(try dsimp only at hSw);go_simp;(try with_reducible rfl)
       (try simp only [pz])
       refine wpG_take 11 3 (v:=?_) rfl (by kernel_rfl) (fun _ _ _ h=>h) (Or.inl ⟨by rfl,?_⟩) (by assumption) ?_
       rotate_left
       · intro w hSw;(try dsimp only at hSw);go_simp;(try with_reducible rfl)
       (try simp only [pz])
       refine wpG_take 11 4 (v:=?_) rfl (by kernel_rfl) (fun _ _ _ h=>h) (Or.inl ⟨by rfl,?_⟩) (by assumption) ?_
       rotate_left
       · intro w hSw;(try dsimp only at hSw);go_simp;(try with_reducible rfl)
       (try simp only [pz])
       refine wpG_take 11 5 (v:=?_) rfl (by kernel_rfl) (fun _ _ _ h=>h) (Or.inl ⟨by rfl,?_⟩) (by assumption) ?_
       rotate_left
       · intro w hSw;(try dsimp only at hSw);go_simp;(try with_reducible rfl)
       (try simp only [pz])
       refine wpG_take 11 6 (v:=?_) rfl (by kernel_rfl) (fun _ _ _ h=>h) (Or.inl ⟨by rfl,?_⟩) (by assumption) ?_
       rotate_left
       · intro w hSw;(try dsimp only at hSw);go_simp;(try with_reducible rfl)
       (try simp only [pz])
       refine wpG_take 11 7 (v:=?_) rfl (by kernel_rfl) (fun _ _ _ h=>h) (Or.inl ⟨by rfl,?_⟩) (by assumption) ?_
       rotate_left
       · intro w hSw;(try dsimp only at hSw);go_simp;(try with_reducible rfl)
       (try simp only [pz])
       refine wpG_take 11 8 (v:=?_) rfl (by kernel_rfl) (fun _ _ _ h=>h) (Or.inl ⟨by rfl,?_⟩) (by assumption) ?_
       rotate_left
       · intro w hSw;(try dsimp only at hSw);go_simp;(try with_reducible rfl)
       (try simp only [pz])
       refine wpG_two (i:=9) (k:=10) (by kernel_rfl) ?_ ?_
       · refine wpOp_step rfl (fun K hK=>?_)
         go_simp
         go_at_call 61
         (with_reducible refine (HOF.out _ hbd).mono ?_)
         intro e w4 h4
         obtain ⟨rfl,hb4'⟩:=HOFP.out _ _ _ h4
         have hb4:Below wr.heap.size wr w4:=hbd.trans (hb4'.mono hbd.size)
         have n4:=HKS.out w4 hb4
         (try dsimp only)
         refine hK _ _ ⟨n4,?_⟩
         clear hK K h4
         (try simp only [pz])
         refine wpG_one (i:=10) (by kernel_rfl) ?_
         refine wpOp_step rfl (fun K hK=>?_)
         go_simp
         have hbel:=hb4.alloc hb4.size (.cells (ofc 0 0 false false false false) 104)
         have n5:=HKS.out _ hbel
         have hblk:=Blk.new w4 104 (ofc 0 0 false false false false)
         have hle:=hb4.size
         refine hK _ _ ⟨n5,?_⟩
         clear hK K
         (try simp only [pz])
         refine ⟨by kernel_rfl,?_⟩
         simp only [List.drop_succ_cons,List.drop_zero]
         refine wpList_store_row rfl 104 _ _ rfl (w4.heap.size) (ofc l.g l.room l.ends (divB ws i) (divB ws j) (fitsB l)) (by rfl) (by rfl) 104 (ofc 0 0 false false false false) hblk hi104 rfl (ofc_one _ _ _ _ _ _) ?_
         have HCB:=Lib.hid (Blk.row hblk (ofc l.g l.room l.ends (divB ws i) (divB ws j) (fitsB l)))
         have HCW:=Lib.hid (Below.row (g:=w4.heap.size) hbel hle (ofc l.g l.room l.ends (divB ws i) (divB ws j) (fitsB l)))
         go_wp2_with fail
         go_meet
         exact ⟨w4.heap.size,rfl,hle,HCW.out,HCB.out⟩
       · refine wpOp_step rfl (fun K hK=>?_)
         go_simp
         have hbn1:Below wr.heap.size wr (wr.alloc (.cells (ofc 0 0 false false false false) 104)).drew:=(below_new wr _).drew
         have n3:=HKS.out _ hbn1
         have hblk3:Blk (wr.alloc (.cells (ofc 0 0 false false false false) 104)).drew wr.heap.size 104 (ofc 0 0 false false false false):=Blk.new wr 104 _
         refine hK _ _ ⟨n3,?_⟩
         clear hK K
         (try simp only [pz])
         refine wpG_one (i:=9) (by kernel_rfl) ?_
         refine wpOp_step rfl (fun K hK=>?_)
         go_simp
         go_at_call 61
         (with_reducible refine (HOF.out _ hbn1).mono ?_)
         intro e w4 h4
         obtain ⟨rfl,hb4'⟩:=HOFP.out _ _ _ h4
         have hb4:Below wr.heap.size wr w4:=hbn1.trans (hb4'.mono hbn1.size)
         have n4:=HKS.out w4 hb4
         have hblk:=hblk3.below hb4' hblk3.lt
         (try dsimp only)
         refine hK _ _ ⟨n4,?_⟩
         clear hK K h4
         (try simp only [pz])
         refine ⟨by kernel_rfl,?_⟩
         simp only [List.drop_succ_cons,List.drop_zero]
         refine wpList_store_row rfl 104 _ _ rfl (wr.heap.size) (ofc l.g l.room l.ends (divB ws i) (divB ws j) (fitsB l)) (by rfl) (by rfl) 104 (ofc 0 0 false false false false) hblk hi104 rfl (ofc_one _ _ _ _ _ _) ?_
         have HCB:=Lib.hid (Blk.row hblk (ofc l.g l.room l.ends (divB ws i) (divB ws j) (fitsB l)))
         have HCW:=Lib.hid (Below.row (g:=wr.heap.size) hb4 (Nat.le_refl _) (ofc l.g l.room l.ends (divB ws i) (divB ws j) (fitsB l)))
         go_wp2_with fail
         go_meet
         exact ⟨wr.heap.size,rfl,Nat.le_refl _,HCW.out,HCB.out⟩
      case rest=>
       obtain ⟨b14,rfl,hb14,HBC,HX⟩:=hcut
       have hgp:=HLO.out.pos
       have hgf:=HLO.out.few
       have hgd:l.g=(l.ps.length:Int)-1:=rfl
       have hg01:0≤l.g∧l.g≤1000:=by omega
       have HG:=Lib.hid hg01
       clear hgp hgf hgd hS0 hbd HKS HOF HOFP
       have HC2:=Lib.hid (HC.out.step HBC.out)
       have x0:=HX.out.cell 0
       have x1:=HX.out.cell 1
       have x2:=HX.out.cell 2
       have x3:=HX.out.cell 3
       have x4:=HX.out.cell 4
       have x5:=HX.out.cell 5
       have xl:=HX.out.lt
       have r0:=HC2.out.R.cell 0
       have r1:=HC2.out.R.cell 1
       have r2:=HC2.out.R.cell 2
       have r3:=HC2.out.R.cell 3
       have r4:=HC2.out.R.cell 4
       have r5:=HC2.out.R.cell 5
       have r6:=HC2.out.R.cell 6
       have r7:=HC2.out.R.cell 7
       have rl:=HC2.out.R.lt
       have HRA:=Lib.hid (refAllowed_any f r l.g l.room l.ends (divB ws i) (divB ws j) (fitsB l) wc HOK.out.ru hg01)
       go_wp2_with fail
       refine HRA.out.mono ?_
       rintro e w5 ⟨rfl,hb5⟩
       have HC3:=Lib.hid (HC2.out.step hb5)
       have HX3:=Lib.hid (HX.out.below hb5 HX.out.lt)
       have HB3:=Lib.hid (HB.out.trans ((HBC.out.trans (hb5.mono HBC.out.size)).mono HB.out.size))
       rw [allow_al HLO.out.pos]
       clear x0 x1 x2 x3 x4 x5 xl r0 r1 r2 r3 r4 r5 r6 r7 rl HC2 HX HRA HBC hb5 hg01
       cases hal:allowB r l with
       | false=>
        have HF:Hid (((0:Int),(26:Int))=cbR f r ws bs):=by
         show _=_
         have h26:alE f r ws bs k=26:=by rw [HAL.out,if_neg (by rw [hal];decide)]
         have hln:=ln_hit HCE.out hlt H0.out h26
         rw [HE.out,if_pos (by rw [hln];decide),hln]
        go_wp2_with fail
        go_ret2
        exact HP.out _ _ _ HF.out HC3.out.B
       | true=>
        have hde:=HDE.out hal
        have hdb:=HDB.out
        have HAL0:Hid (alE f r ws bs k=0):=by show _=_;rw [HAL.out,if_pos hal]
        have HSO:Hid (∀ q,q < k+1→alE f r ws bs q=0):=(show ∀ q,_ from fun q hq=>by
         by_cases e:q=k
         · rw [e];exact HAL0.out
         · exact H0.out q (by omega))
        have hrb:=HRB.out
        have HRD:Hid (∀ W,Below w5.heap.size w5 W→Calls Tryz.prog 63 #[.agg (fcs f (.slice A f.sorts.length c)),.agg (rcs r),.agg (ofc l.g l.room l.ends (divB ws i) (divB ws j) (fitsB l))] W (IntPost (demF f r l (divB ws i) (divB ws j)) W)):=(show ∀ W,_ from fun W hW=>refDemerits_any f _ r l.g l.room l.ends (divB ws i) (divB ws j) (fitsB l) W HOK.out.fn HOK.out.ru (HV.out.below (HC3.out.B.trans (hW.mono HC3.out.B.size))) HG.out hrb)
        generalize demF f r l (divB ws i) (divB ws j)=dd at *
        have hDMX:(DMX:Int)=400200000:=rfl
        have HDMS:Hid (0≤dmA f r ws bs (k+1)∧dmA f r ws bs (k+1)≤((k+1:Nat):Int)*400200000):=by show _∧_;rw [HDM.out];omega
        have HKT:Hid (∀ W,Below w5.heap.size w5 W→((W.cell? ⟨w.heap.size,0,none⟩=some (.string f.name)∧W.cell? ⟨w.heap.size,1,none⟩=some (.int .i64 f.body)∧W.cell? ⟨w.heap.size,2,none⟩=some (.slice A f.sorts.length c)∧W.cell? ⟨w.heap.size+1,0,none⟩=some (.int .i64 r.measure)∧W.cell? ⟨w.heap.size+1,1,none⟩=some (.int .i64 r.indent)∧W.cell? ⟨w.heap.size+1,2,none⟩=some (.int .i64 r.least)∧W.cell? ⟨w.heap.size+1,3,none⟩=some (.int .i64 r.most)∧W.cell? ⟨w.heap.size+1,4,none⟩=some (.int .i64 r.gap)∧W.cell? ⟨w.heap.size+1,5,none⟩=some (.int .i64 r.hyphen)∧W.cell? ⟨w.heap.size+1,6,none⟩=some (.int .i64 r.single)∧W.cell? ⟨w.heap.size+1,7,none⟩=some (.int .i64 r.double)∧W.cell? ⟨bb,ob+k,none⟩=some (.int .i64 (j:Int)))∧W.cell? ⟨b14,0,none⟩=some (.int .i64 l.g)∧W.cell? ⟨b14,1,none⟩=some (.int .i64 l.room)∧W.cell? ⟨b14,2,none⟩=some (.bool l.ends)∧W.cell? ⟨b14,3,none⟩=some (.bool (divB ws i))∧W.cell? ⟨b14,4,none⟩=some (.bool (divB ws j))∧W.cell? ⟨b14,5,none⟩=some (.bool (fitsB l)))):=(show ∀ W,_ from fun W hW=>by
         have h1:=HC3.out.F.below hW HC3.out.F.lt
         have h2:=HC3.out.R.below hW HC3.out.R.lt
         have h3:=HC3.out.B.trans (hW.mono HC3.out.B.size)
         have h4:=HX3.out.below hW HX3.out.lt
         exact ⟨⟨h1.cell 0,h1.cell 1,h1.cell 2,h2.cell 0,h2.cell 1,h2.cell 2,h2.cell 3,h2.cell 4,h2.cell 5,h2.cell 6,h2.cell 7,(h3.cell (p:=⟨bb,ob+k,none⟩) hbl0).trans HBK.out⟩,h4.cell 0,h4.cell 1,h4.cell 2,h4.cell 3,h4.cell 4,h4.cell 5⟩)
        have HWD:Hid (IntKind.i64.wrap (dmA f r ws bs k+dd)=dmA f r ws bs k+dd):=IntWalk.i64_in _ (by omega)
        clear hal hde hrb HDE HAL HAL0 H0 hDMX hdb
        generalize dmA f r ws bs k=dk at *
        have hbd5:Below w5.heap.size w5 w5.drew:=(Below.refl _ _).drew
        have hS5:=HKT.out _ hbd5
        go_upto_region 11 with fail
        go_region_held3 (fun W=>((W.cell? ⟨w.heap.size,0,none⟩=some (.string f.name)∧W.cell? ⟨w.heap.size,1,none⟩=some (.int .i64 f.body)∧W.cell? ⟨w.heap.size,2,none⟩=some (.slice A f.sorts.length c)∧W.cell? ⟨w.heap.size+1,0,none⟩=some (.int .i64 r.measure)∧W.cell? ⟨w.heap.size+1,1,none⟩=some (.int .i64 r.indent)∧W.cell? ⟨w.heap.size+1,2,none⟩=some (.int .i64 r.least)∧W.cell? ⟨w.heap.size+1,3,none⟩=some (.int .i64 r.most)∧W.cell? ⟨w.heap.size+1,4,none⟩=some (.int .i64 r.gap)∧W.cell? ⟨w.heap.size+1,5,none⟩=some (.int .i64 r.hyphen)∧W.cell? ⟨w.heap.size+1,6,none⟩=some (.int .i64 r.single)∧W.cell? ⟨w.heap.size+1,7,none⟩=some (.int .i64 r.double)∧W.cell? ⟨bb,ob+k,none⟩=some (.int .i64 (j:Int)))∧W.cell? ⟨b14,0,none⟩=some (.int .i64 l.g)∧W.cell? ⟨b14,1,none⟩=some (.int .i64 l.room)∧W.cell? ⟨b14,2,none⟩=some (.bool l.ends)∧W.cell? ⟨b14,3,none⟩=some (.bool (divB ws i))∧W.cell? ⟨b14,4,none⟩=some (.bool (divB ws j))∧W.cell? ⟨b14,5,none⟩=some (.bool (fitsB l))))
         (first | exact hS5 | exact HKT.out _ hb6 | go_keep)
         ((go_at_call 63;(with_reducible refine (HRD.out _ hbd5).mono ?_);rintro e w6 ⟨rfl,hb6'⟩
           have hb6:Below w5.heap.size w5 w6:=hbd5.trans (hb6'.mono (by exact hbd5.size))))
        have HBN:Hid (Below W1.heap.size W1 w6):=HB3.out.trans (hb6.mono HB3.out.size)
        go_wp2_with fail
        go_roundg (bs.length-(k+1))
        case measure=>omega
        case rel=>exact ⟨k+1,by omega,by omega,by go_num,by rw [HDM.out,HWD.out],by rw [HBF.out],HBN.out,HSO.out,HDMS.out⟩
    · have hltz:¬(k:Int) < (bs.length:Int):=by omega
      have hkn:k=bs.length:=by omega
      have HF:Hid ((dmA f r ws bs k,(0:Int))=cbR f r ws bs):=by
       show _=_
       rw [HE.out,if_neg (fun h=>h (ln_end HCE.out (fun i hi=>H0.out i (by omega)))),hkn]
      clear hkn hlt hg hk H0
      generalize dmA f r ws bs k=dk at *
      go_wp2_with fail
      go_ret2
      exact HP.out _ _ _ HF.out HC.out.B
 · have hcb:=bne_t hc0
   have HF:Hid (((0:Int),ce)=cbR f r ws bs):=by
    show _=_
    have hln:lnErr f r ws bs=ce:=by unfold lnErr;rw [hce,if_pos hc0]
    rw [HE.out,if_pos (by rw [hln];exact hc0),hln]
   clear hc0 hce
   go_wp2_with fail
   go_ret2
   exact HP.out _ _ _ HF.out HC1.out.B
end Go.Proofs.YtbnganlfelgogaaGreat
