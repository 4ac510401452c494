/- steps: the iterator over the allowed lines from a place. -/
import Derived.RangeFuncNested
import Derived.RangeFuncBound
import Derived.RangeFuncCalls
import Derived.RangeFuncLeaves
import Derived.Shelf.Abstract
import Derived.Shelf.RegionOpen
import Derived.WalkKit
import Derived.OwnWalkIn
import Derived.TacticsInMore
import Derived.LoopNIn
import Derived.LoopIn
import Derived.IntWalk
import Derived.Test.YtbnganlfelgogaaGreatVDem
import Derived.Deep.RegionHeld3
import Derived.Test.YtbnganlfelgogaaGreatVRpw
import Derived.RangeFuncFrom
import Derived.Below
import Derived.RangeFuncRecord
import Derived.BigQuiet
import Derived.OrdersIn
set_option linter.unusedSimpArgs false
set_option linter.unusedVariables false
set_option maxRecDepth 100000
set_option maxHeartbeats 40000000
namespace Go.Proofs.YtbnganlfelgogaaGreat
open Go.RowKit Go.Shelf Go.Sort
attribute [local go_sem] Oper.semAt_some
def stp (t:Tb) (i:Nat):Nat→List Nat
 | 0=>[]
 | k+1=>if (t i (i+1+k)).isSome=true then stp t i k++[i+1+k] else stp t i k
theorem stp_len (t:Tb) (i:Nat):∀ k,(stp t i k).length≤k
 | 0=>Nat.le_refl _
 | k+1=>by
  have:=stp_len t i k
  unfold stp
  split
  · rw [List.length_append,List.length_singleton];omega
  · omega
theorem stp_stop {t:Tb} {i k:Nat} (h:∀ j,i+1+k≤j→t i j=none):∀ m,k≤m→stp t i m=stp t i k
 | 0,hm=>by rw [show k=0 by omega]
 | m+1,hm=>by
  by_cases e:k=m+1
  · rw [e]
  · have h1:=stp_stop h m (by omega)
    have h2:stp t i (m+1)=if (t i (i+1+m)).isSome=true then stp t i m++[i+1+m] else stp t i m:=rfl
    rw [h2,h (i+1+m) (by omega),if_neg (by simp)]
    exact h1
theorem tab_wide {ns:Nat} {f:Fnt} {r:Rls} {ws:List PWord} (h:WsOk ns ws) {i k:Nat} (hw:wideB (lineF f r ws i (i+1+k))=true):∀ j,i+1+k≤j→tab f r ws i j=none:=fun j hj=>by
 unfold tab
 rw [if_neg]
 intro ⟨h1,h2,h3⟩
 rw [wide_all h (by omega) hj h2 hw] at h3
 cases h3
theorem tab_some {f:Fnt} {r:Rls} {ws:List PWord} {i j:Nat} (hr:RuOk f r) (hij:i < j) (hj:j < (places ws).length) (ha:allowB r (lineF f r ws i j)=true) :
 (tab f r ws i j).isSome=true∧(((tab f r ws i j).getD 0:Nat):Int)=demF f r (lineF f r ws i j) (divB ws i) (divB ws j):=by
 unfold tab
 rw [if_pos ⟨hij,hj,ha⟩]
 exact ⟨rfl,by show (((demF f r (lineF f r ws i j) (divB ws i) (divB ws j)).toNat:Nat):Int)=_;exact Int.toNat_of_nonneg (dem_bound hr ha).1⟩
theorem tab_none {f:Fnt} {r:Rls} {ws:List PWord} {i j:Nat} (ha:allowB r (lineF f r ws i j)=false):(tab f r ws i j).isSome=false:=by
 unfold tab
 rw [if_neg]
 · rfl
 · intro h;rw [h.2.2] at ha;cases ha
theorem line_size {f:Fnt} {r:Rls} {ws:List PWord} (hok:POk f r ws) {i j:Nat} (hij:i < j) (hj:j < (places ws).length) :
 (lineF f r ws i j).ps.length≤200∧lenS (lineF f r ws i j).ps≤12001∧-2000000000≤(lineF f r ws i j).room∧(lineF f r ws i j).room≤2000000000:=by
 have hlx:=places_up hok.wo hij hj
 have hia:=places_in hok.wo (j:=i) (by omega)
 have hib:=places_ok hok.wo hj
 have hpr:=raw_pos hlx hia
 have hn:=hok.n
 have h1:=pieces_len60 hok.wo (hy:=r.hyphen) (a:=gpl (places ws) i) (by omega) hib hpr
 have h2:∀ s ∈ (piecesF ws r.hyphen (gpl (places ws) i) (gpl (places ws) j)).flatten,0≤s∧s < f.sorts.length:=fun s hs=>pieces_mem hok.wo hok.ru.hy (by omega) hpr hs
 have h3:=widL_bound hok.fn h2
 have h4:=hok.ru.me
 have h5:=hok.ru.ind
 refine ⟨by show (piecesF _ _ _ _).length≤200;omega,by show (piecesF _ _ _ _).flatten.length≤12001;omega,?_⟩
 show -2000000000≤r.measure-widL f (piecesF ws r.hyphen (gpl (places ws) i) (gpl (places ws) j)).flatten-(if i=0 then r.indent else 0)∧r.measure-widL f (piecesF ws r.hyphen (gpl (places ws) i) (gpl (places ws) j)).flatten-(if i=0 then r.indent else 0)≤2000000000
 split <;> omega
abbrev Al (f:Fnt) (r:Rls) (ws:List PWord) (i:Nat):={ j:Nat // (tab f r ws i j).isSome=true }
abbrev encS (f:Fnt) (r:Rls) (ws:List PWord) (i:Nat) (x:Al f r ws i):Array Value:=#[.agg #[.int .i64 (i:Int),.int .i64 (x.1:Int),.int .i64 (((tab f r ws i x.1).getD 0:Nat):Int)]]
def KpS (m bx bp:Nat) (A B:World):Prop:=Below m A B∧B.heap[bx]?=A.heap[bx]?∧B.heap[bp]?=A.heap[bp]?
theorem kpS_t {m bx bp:Nat} {A B C:World} (h:KpS m bx bp A B) (k:KpS m bx bp B C):KpS m bx bp A C:=⟨h.1.trans k.1,k.2.1.trans h.2.1,k.2.2.trans h.2.2⟩
theorem cell_blk {A B:World} {b o:Nat} (h:B.heap[b]?=A.heap[b]?):B.cell? ⟨b,o,none⟩=A.cell? ⟨b,o,none⟩:=by
 simp only [World.cell?,h]
structure SW (wm W:World) (bx bp i pb:Nat):Prop where
 B:Below wm.heap.size wm W
 x:W.cell? ⟨bx,0,none⟩=some (.int .i64 (i:Int))
 p:W.cell? ⟨bp,0,none⟩=some (.pointer (some ⟨pb,0,none⟩))
 bx:bx < W.heap.size
 bp:bp < W.heap.size
theorem SW.below {wm W W':World} {bx bp i pb:Nat} (h:SW wm W bx bp i pb) (hb:Below W.heap.size W W'):SW wm W' bx bp i pb:=
 ⟨h.B.trans (hb.mono h.B.size),(hb.cell (p:=⟨bx,0,none⟩) h.bx).trans h.x,(hb.cell (p:=⟨bp,0,none⟩) h.bp).trans h.p,Nat.lt_of_lt_of_le h.bx hb.size,Nat.lt_of_lt_of_le h.bp hb.size⟩
theorem SW.kp {wm W W':World} {bx bp i pb:Nat} (h:SW wm W bx bp i pb) (hb:KpS wm.heap.size bx bp W W'):SW wm W' bx bp i pb:=
 ⟨h.B.trans hb.1,(cell_blk hb.2.1).trans h.x,(cell_blk hb.2.2).trans h.p,Nat.lt_of_lt_of_le h.bx hb.1.size,Nat.lt_of_lt_of_le h.bp hb.1.size⟩
theorem abides_below {β:Type} {n:Nat} {J:β→World→Prop} (h:AbidesFrom n J) {s:β} {W W':World} (hs:J s W) (hb:Below W.heap.size W W'):J s W':=
 h s W W' none hs (grown_of_below hb none) (fun r e=>by cases e)
theorem steps_stops (f:Fnt) (v:Value) (r:Rls) (ws:List PWord) (vw vp:Value) (pb i bx bp:Nat) (wm w:World) (h:PA wm pb f v r ws vw vp) (hok:POk f r ws) (hi:i < (places ws).length) (hw:SW wm w bx bp i pb) (n:Nat) (hn:2≤n) :
 SeqStopsK Fence.wide n Tryz.prog 149 #[.pointer (some ⟨bx,0,none⟩),.pointer (some ⟨bp,0,none⟩)] (encS f r ws i) (KpS wm.heap.size bx bp) (fun xs=>xs.map Subtype.val=stp (tab f r ws) i ((places ws).length-1-i)) (fun _=>True) (places ws).length w:=fun l J Jx W hW hJ hJx hY h0=>by
 have hsw:=hw.below hW
 have hx0:=hsw.x
 have hxl:=hsw.bx
 have HSW:=Lib.hid hsw
 have HPA:=Lib.hid h
 have HOK:=Lib.hid hok
 have HJ:=Lib.hid hJ
 have HJX:=Lib.hid hJx
 have HY:=Lib.hid hY
 have hm:=hok.m
 have hpos:=places_pos ws
 have HLS:Hid (∀ W,SW wm W bx bp i pb→Calls Tryz.prog 87 #[.pointer (some ⟨pb,0,none⟩)] W fun e w'=>e=.returned (.int .i64 ((places ws).length-1:Nat))∧w'=W):=(show ∀ W,_ from fun W hW=>last_any f v r ws vw vp pb W (HPA.out.step hW.B) hm)
 have HST:Hid (stp (tab f r ws) i 0=[]):=rfl
 clear h hok hw hsw hJ hJx hY
 generalize hN:(places ws).length=N at *
 have HN:=Lib.hid hN
 clear hN
 refine callsIn_of_wp Tryz.func149 rfl trivial ?_ rfl
 simp only [Tryz.ntmps149,List.size_toArray,List.length_cons,List.length_nil,Nat.reduceAdd,Nat.reduceSub,Array.replicate_succ,Array.replicate_zero,List.push_toArray,List.append_toArray,List.nil_append,List.cons_append]
 gi_wp2
 gi_loopw [4] (fun s4 wr=>∃ (k:Nat) (pre:List (Al f r ws i)),k≤N-1-i∧s4=.int .i64 ((i+1+k:Nat):Int)∧pre.map Subtype.val=stp (tab f r ws) i k∧Hid (J pre wr)∧Hid (SW wm wr bx bp i pb)) (fun s4 wr=>N-(intOf s4).toNat)
 case atStart=>
  exact ⟨0,[],by omega,by go_num,rfl,h0,HSW.out⟩
 case round=>
  obtain ⟨k,pre,hk,rfl,hpre,HJS,HS⟩:=hrel
  have HPRE:=Lib.hid hpre
  clear hpre
  have y0:=HS.out.x
  have yl:=HS.out.bx
  have y1:=HS.out.p
  have y1l:=HS.out.bp
  have HL1:=Lib.hid (HLS.out wr HS.out)
  by_cases hlt:i+1+k < N
  · have HTO:Hid (i < i+1+k∧i+1+k < (places ws).length):=(show _∧_ from ⟨by omega,by rw [HN.out];exact hlt⟩)
    have HLN:=Lib.hid (line_any f v r ws vw vp pb i (i+1+k) wr (HPA.out.step HS.out.B) HOK.out HTO.out.1 HTO.out.2)
    generalize hto:i+1+k=to1 at *
    have hz:(to1:Int)≤((N-1:Nat):Int):=by omega
    have HSZ:Hid ((lineF f r ws i to1).ps.length≤200∧lenS (lineF f r ws i to1).ps≤12001∧-2000000000≤(lineF f r ws i to1).room∧(lineF f r ws i to1).room≤2000000000):=line_size HOK.out HTO.out.1 HTO.out.2
    have HWST:Hid (wideB (lineF f r ws i to1)=true→stp (tab f r ws) i (N-1-i)=stp (tab f r ws) i k):=(show _→_ from fun hw=>stp_stop (fun j hj=>tab_wide HOK.out.wo (by rw [hto];exact hw) j hj) _ hk)
    have HSTS:Hid (stp (tab f r ws) i (k+1)=if (tab f r ws i to1).isSome=true then stp (tab f r ws) i k++[to1] else stp (tab f r ws) i k):=by show _=_;rw [←hto];rfl
    have HRU:=Lib.hid HOK.out.ru
    have HTO1:=Lib.hid hto
    clear hto
    cases hwb:wideB (lineF f r ws i to1) with
    | true=>
     have HW2:=Lib.hid (HWST.out hwb)
     have HWD:Hid (∀ Av cv W,LV W (lineF f r ws i to1).ps (.slice Av (lineF f r ws i to1).ps.length cv)→Calls Tryz.prog 150 #[.agg (lcs i to1 (.slice Av (lineF f r ws i to1).ps.length cv) (lineF f r ws i to1).room (lineF f r ws i to1).ends)] W fun e w'=>e=.returned (.bool true)∧Below W.heap.size W w'):=(show ∀ Av cv W,_ from fun Av cv W hW=>by
      have:=wide_any i to1 (lineF f r ws i to1) _ W hW (by have:=HSZ.out;omega) (by have:=HSZ.out;omega)
      rwa [hwb] at this)
     clear hwb HWST HSTS
     gi_wp2_with (first
      | (refine ⟨trivial,(fun _=>by omega),?_⟩;gi_at_call 87;refine (callsIn_wide.2 HL1.out).mono ?_;rintro e w' ⟨rfl,hw'⟩;have hw'':=hw'.symm;subst hw'';clear HL1)
      | (refine ⟨trivial,(fun _=>by omega),?_⟩;gi_at_call 132;refine (callsIn_wide.2 HLN.out).mono ?_;rintro e w3 ⟨vps,rfl,⟨hd,hps⟩,hb3⟩;have hlv:=hps.lv;clear HLN hps;obtain ⟨Av,cv,rfl,-,-⟩:=hlv.shape;have HLV:=Lib.hid hlv;clear hlv)
      | (refine ⟨trivial,(fun _=>by omega),?_⟩;gi_at_call 150;refine (callsIn_wide.2 (HWD.out _ _ _ (HLV.out.below (below_new _ _)))).mono ?_;rintro e w4 ⟨rfl,hb4⟩))
     refine bodyPost_ret (results_none rfl _ _ _) rfl ?_
     have hb:=hb3.trans (((below_new w3 _).trans (hb4.mono (by simp))).mono hb3.size)
     exact ⟨⟨_,rfl⟩,.inl ⟨pre,by rw [HPRE.out,←HW2.out],abides_below HJ.out HJS.out hb⟩⟩
    | false=>
     have HWD:Hid (∀ Av cv W,LV W (lineF f r ws i to1).ps (.slice Av (lineF f r ws i to1).ps.length cv)→Calls Tryz.prog 150 #[.agg (lcs i to1 (.slice Av (lineF f r ws i to1).ps.length cv) (lineF f r ws i to1).room (lineF f r ws i to1).ends)] W fun e w'=>e=.returned (.bool false)∧Below W.heap.size W w'):=(show ∀ Av cv W,_ from fun Av cv W hW=>by
      have:=wide_any i to1 (lineF f r ws i to1) _ W hW (by have:=HSZ.out;omega) (by have:=HSZ.out;omega)
      rwa [hwb] at this)
     clear hwb HWST
     gi_wp2_with (first
      | (refine ⟨trivial,(fun _=>by omega),?_⟩;gi_at_call 87;refine (callsIn_wide.2 HL1.out).mono ?_;rintro e w' ⟨rfl,hw'⟩;have hw'':=hw'.symm;subst hw'';clear HL1)
      | (refine ⟨trivial,(fun _=>by omega),?_⟩;gi_at_call 132;refine (callsIn_wide.2 HLN.out).mono ?_;rintro e w3 ⟨vps,rfl,⟨hd,hps⟩,hb3⟩;have hlv:=hps.lv;clear HLN hps;obtain ⟨Av,cv,rfl,-,-⟩:=hlv.shape;have HLV:=Lib.hid hlv;clear hlv)
      | (refine ⟨trivial,(fun _=>by omega),?_⟩;gi_at_call 150;refine (callsIn_wide.2 (HWD.out _ _ _ (HLV.out.below (below_new _ _)))).mono ?_;rintro e w4 ⟨rfl,hb4⟩))
     have hbx3:Below wr.heap.size wr (w3.alloc (.cells (lcs i to1 (.slice Av (lineF f r ws i to1).ps.length cv) (lineF f r ws i to1).room (lineF f r ws i to1).ends) 155)):=hb3.trans ((below_new w3 _).mono hb3.size)
     have hbk:=Blk.new w3 155 (lcs i to1 (.slice Av (lineF f r ws i to1).ps.length cv) (lineF f r ws i to1).room (lineF f r ws i to1).ends)
     have HS4:=Lib.hid ((HS.out.below hbx3).below hb4)
     have HB4:=Lib.hid (hbk.below hb4 hbk.lt)
     have HJ4:Hid (∀ W,Below w4.heap.size w4 W→J pre W):=(show ∀ W,_ from fun W hW=>abides_below HJ.out (abides_below HJ.out (abides_below HJ.out HJS.out hbx3) hb4) hW)
     have HLV4:=Lib.hid ((HLV.out.below (below_new _ _)).below hb4)
     have HCE:Hid (∀ W,Below w4.heap.size w4 W→(W.cell? ⟨bx,0,none⟩=some (.int .i64 (i:Int))∧W.cell? ⟨bp,0,none⟩=some (.pointer (some ⟨pb,0,none⟩)))∧(W.cell? ⟨w3.heap.size,0,none⟩=some (.int .i64 (i:Int))∧W.cell? ⟨w3.heap.size,1,none⟩=some (.int .i64 (to1:Int))∧W.cell? ⟨w3.heap.size,2,none⟩=some (.slice Av (lineF f r ws i to1).ps.length cv)∧W.cell? ⟨w3.heap.size,3,none⟩=some (.int .i64 (lineF f r ws i to1).room)∧W.cell? ⟨w3.heap.size,4,none⟩=some (.bool (lineF f r ws i to1).ends))∧bx < W.heap.size∧bp < W.heap.size∧w3.heap.size < W.heap.size):=(show ∀ W,_ from fun W hW=>by
      have h1:=HS4.out.below hW
      have h2:=HB4.out.below hW HB4.out.lt
      exact ⟨⟨h1.x,h1.p⟩,⟨h2.cell 0,h2.cell 1,h2.cell 2,h2.cell 3,h2.cell 4⟩,h1.bx,h1.bp,h2.lt⟩)
     obtain ⟨⟨c0,c1⟩,⟨b0,b1,b2,b3,b4⟩,l0,l1,l2⟩:=HCE.out w4 (Below.refl _ _)
     clear hb3 hb4 hbx3 hbk HLV
     have HLVV:Hid (∀ b,allowB r (lineF f r ws i to1)=b→∀ W,Below w4.heap.size w4 W→Calls Tryz.prog 115 #[.pointer (some ⟨pb,0,none⟩),.agg (lcs i to1 (.slice Av (lineF f r ws i to1).ps.length cv) (lineF f r ws i to1).room (lineF f r ws i to1).ends)] W fun e w'=>e=.returned (.bool b)∧Below W.heap.size W w'):=(show ∀ b,_ from fun b hb W hW=>by
      have:=allowed_any f v r ws vw vp pb i to1 (lineF f r ws i to1) _ W (HPA.out.step (HS4.out.below hW).B) HRU.out (HLV4.out.below hW) (by have:=HSZ.out;omega) (by have:=HSZ.out;omega) (by have:=HSZ.out;omega)
      rwa [hb] at this)
     have HDEM:Hid (∀ W,Below w4.heap.size w4 W→Calls Tryz.prog 102 #[.pointer (some ⟨pb,0,none⟩),.agg (lcs i to1 (.slice Av (lineF f r ws i to1).ps.length cv) (lineF f r ws i to1).room (lineF f r ws i to1).ends)] W fun e w'=>e=.returned (.int .i64 (demF f r (lineF f r ws i to1) (divB ws i) (divB ws to1)))∧Below w4.heap.size w4 w'):=(show ∀ W,_ from fun W hW=>by
      have:=demerits_any f v r ws vw vp pb i to1 (lineF f r ws i to1) _ W (HPA.out.step (HS4.out.below hW).B) HOK.out (by have:=HTO.out;omega) HTO.out.2 (HLV4.out.below hW) (by have:=HSZ.out;omega) (by have:=HSZ.out;omega)
      exact this.mono fun e w' h=>⟨h.1,hW.trans (h.2.mono hW.size)⟩)
     cases hab:allowB r (lineF f r ws i to1) with
     | false=>
      have HAL:=Lib.hid (HLVV.out false hab)
      have HST1:Hid (stp (tab f r ws) i (k+1)=stp (tab f r ws) i k):=by show _=_;rw [HSTS.out,if_neg (by rw [tab_none hab];decide)]
      clear hab HLVV HDEM
      generalize hlf:lineF f r ws i to1=l at *
      clear hlf
      generalize hbq:w3.heap.size=bq at *
      refine wpIn_wide.2 ?_
      have xc0:=cell_regrown c0
      have xc1:=cell_regrown c1
      have xb0:=cell_regrown b0
      have xb1:=cell_regrown b1
      have xb2:=cell_regrown b2
      have xb3:=cell_regrown b3
      have xb4:=cell_regrown b4
      have cN:∀ d os,Calls Tryz.prog 115 #[.pointer (some ⟨pb,0,none⟩),.agg (lcs i to1 (.slice Av l.ps.length cv) l.room l.ends)] (grow (redrawn w4 d) os) fun e w''=>e=.returned (.bool false)∧∃ p:Regrown,w''=grow (redrawn w4 p.d) p.os:=fun d os=>Calls.regrown_of (HAL.out _ (below_regrown w4 d os))
      refine wp_region_quiet_below (by kernel_rfl) (by kernel_rfl) ?_
      repeat (first | go_big_quiet_step (exact cN _ _) | quiet_step (exact cN _ _))
      refine wpQuiet_nil ?_
      intro _ hw'
      obtain ⟨⟨dq,osq⟩,hw''⟩:=hw'
      subst hw''
      have b5:=below_regrown w4 dq osq
      have HS5:=Lib.hid (HS4.out.below b5)
      have HJ5:=Lib.hid (HJ4.out _ b5)
      clear xc0 xc1 xb0 xb1 xb2 xb3 xb4 cN b5
      generalize grow (redrawn w4 dq) osq=w5 at *
      clear c0 c1 b0 b1 b2 b3 b4 l0 l1 l2 HCE HAL
      gi_wp2
      refine ⟨⟨k+1,pre,by have:=HTO1.out;omega,by have:=HTO1.out;go_num,by rw [HPRE.out,HST1.out],HJ5.out,HS5.out⟩,?_⟩
      simp only [intOf,Int.toNat_natCast]
      rw [show (((to1:Int)+1).toNat)=to1+1 by omega]
      omega
     | true=>
      have HAL:=Lib.hid (HLVV.out true hab)
      have HTS:Hid ((tab f r ws i to1).isSome=true∧(((tab f r ws i to1).getD 0:Nat):Int)=demF f r (lineF f r ws i to1) (divB ws i) (divB ws to1)):=tab_some HRU.out HTO.out.1 HTO.out.2 hab
      have HST1:Hid (stp (tab f r ws) i (k+1)=stp (tab f r ws) i k++[to1]):=by show _=_;rw [HSTS.out,if_pos HTS.out.1]
      have HLEN:Hid (pre.length < N):=by
       show _ < _
       have h1:=congrArg List.length HPRE.out
       rw [List.length_map] at h1
       have h2:=stp_len (tab f r ws) i k
       omega
      have HYY:Hid (∀ W1,Below w4.heap.size w4 W1→YieldAt Fence.wide (n-1) Tryz.prog l #[.agg #[.int .i64 (i:Int),.int .i64 (to1:Int),.int .i64 (demF f r (lineF f r ws i to1) (divB ws i) (divB ws to1))]] W1 fun e W'=>∃ b:Bool,e=.returned (.bool b)∧((b=true∧J (pre++[⟨to1,HTS.out.1⟩]) W'∧SW wm W' bx bp i pb)∨(b=false∧Jx (pre++[⟨to1,HTS.out.1⟩]) W'))):=(show ∀ W1,_ from fun W1 hW1=>by
       obtain ⟨fn,tmps,assign,body,hy,hR⟩:=HY.out pre ⟨to1,HTS.out.1⟩ W1 (HJ4.out W1 hW1) HLEN.out
       dsimp only [encS] at hy
       rw [HTS.out.2] at hy
       refine ⟨fn,tmps,assign,body,hy,hR.mono ?_⟩
       rintro e W' (⟨rfl,h1,h2⟩ | ⟨rfl,h1⟩)
       · exact ⟨true,rfl,.inl ⟨rfl,h1,(HS4.out.below hW1).kp h2⟩⟩
       · exact ⟨false,rfl,.inr ⟨rfl,h1⟩⟩)
      clear hab HLVV HSTS HY
      generalize hdm:demF f r (lineF f r ws i to1) (divB ws i) (divB ws to1)=dm at *
      generalize hlf:lineF f r ws i to1=l0 at *
      clear hlf hdm
      generalize hbq:w3.heap.size=bq at *
      gi_region_with (first
       | (refine ⟨trivial,(fun _=>by omega),?_⟩;gi_at_call 115;refine (callsIn_wide.2 (HAL.out _ (Below.refl _ _).drew)).mono ?_;rintro e w5 ⟨rfl,hb5'⟩;have hb5:Below w4.heap.size w4 w5:=(Below.refl w4.heap.size w4).drew.trans hb5';obtain ⟨⟨c0',c1'⟩,⟨b0',b1',b2',b3',b4'⟩,l0',l1',l2'⟩:=HCE.out w5 hb5)
       | (refine ⟨trivial,(fun _=>by omega),?_⟩;gi_at_call 102;refine (callsIn_wide.2 (HDEM.out _ hb5)).mono ?_;rintro e w6 ⟨rfl,hb6⟩;obtain ⟨⟨c0'',c1''⟩,⟨b0'',b1'',b2'',b3'',b4''⟩,l0'',l1'',l2''⟩:=HCE.out w6 hb6;obtain ⟨fn,tmps,assign,body,hy,hR⟩:=HYY.out w6 hb6)
       | (refine ⟨(fun _=>by omega),hR.mono ?_⟩;rintro e W7 ⟨bb,rfl,hbb⟩))
      all_goals
       (rcases hbb with ⟨rfl,hJ3,hs3⟩ | ⟨rfl,hJx3⟩
        · have HJ3:=Lib.hid hJ3
          have HS3:=Lib.hid hs3
          clear hJ3 hs3 hR hy HYY HCE HAL HDEM HJ4 HS4
          gi_wp2
          refine ⟨⟨k+1,_,?_,?_,?_,HJ3.out,HS3.out⟩,?_⟩
          · have:=HTO1.out;omega
          · have:=HTO1.out;go_num
          · rw [List.map_append,HPRE.out,HST1.out];rfl
          simp only [intOf,Int.toNat_natCast]
          rw [show (((to1:Int)+1).toNat)=to1+1 by omega]
          omega
        · have HJX3:=Lib.hid hJx3
          clear hJx3 hR hy HYY HCE HAL HDEM HJ4 HS4
          gi_wp2
          refine bodyPost_ret (results_none rfl _ _ _) rfl ?_
          exact ⟨⟨_,rfl⟩,.inr ⟨_,trivial,HJX3.out⟩⟩)
  · have hke:k=N-1-i:=by omega
    have HFIN:Hid (pre.map Subtype.val=stp (tab f r ws) i (N-1-i)):=by show _=_;rw [HPRE.out,hke]
    clear hke HPRE
    generalize i+1+k=to1 at *
    have hz:¬(to1:Int)≤((N-1:Nat):Int):=by omega
    gi_wp2_with (first
     | (refine ⟨trivial,(fun _=>by omega),?_⟩;gi_at_call 87;refine (callsIn_wide.2 HL1.out).mono ?_;rintro e w' ⟨rfl,hw'⟩;have hw'':=hw'.symm;subst hw'';clear HL1))
    go_end0
    exact ⟨⟨_,rfl⟩,.inl ⟨pre,HFIN.out,HJS.out⟩⟩
end Go.Proofs.YtbnganlfelgogaaGreat
namespace Go.Proofs.YtbnganlfelgogaaGreat
open Go.RowKit
def wcl (h:Nat→Nat × Int):Nat→List Value
 | 0=>[]
 | n+1=>wcl h n++[.int .i64 (h n).2,.int .i64 ((h n).1:Int)]
theorem wcl_len (h:Nat→Nat × Int):∀ n,(wcl h n).length=n*2
 | 0=>rfl
 | n+1=>by simp only [wcl,List.length_append,wcl_len h n,List.length_cons,List.length_nil];omega
theorem wcl_get (h:Nat→Nat × Int):∀ n j,j < n→(wcl h n)[j*2]?=some (.int .i64 (h j).2)∧(wcl h n)[j*2+1]?=some (.int .i64 ((h j).1:Int))
 | 0,j,hj=>by omega
 | n+1,j,hj=>by
  have hl:=wcl_len h n
  simp only [wcl]
  by_cases e:j < n
  · rw [List.getElem?_append_left (by omega),List.getElem?_append_left (by omega)]
    exact wcl_get h n j e
  · have e':j=n:=by omega
    subst e'
    rw [List.getElem?_append_right (by omega),List.getElem?_append_right (by omega),hl,Nat.sub_self,show j*2+1-j*2=1 by omega]
    exact ⟨rfl,rfl⟩
theorem wcl_congr {h h':Nat→Nat × Int}:∀ n,(∀ j,j < n→h j=h' j)→wcl h n=wcl h' n
 | 0,_=>rfl
 | n+1,e=>by simp only [wcl];rw [wcl_congr n (fun j hj=>e j (by omega)),e n (by omega)]
theorem wcl_set (h:Nat→Nat × Int) (x:Nat × Int):∀ n j,j < n→((wcl h n).set (j*2) (.int .i64 x.2)).set (j*2+1) (.int .i64 (x.1:Int))=wcl (fun i=>if i=j then x else h i) n
 | 0,j,hj=>by omega
 | n+1,j,hj=>by
  have hl:=wcl_len h n
  simp only [wcl]
  by_cases e:j < n
  · rw [List.set_append_left _ _ (by omega),List.set_append_left _ _ (by rw [List.length_set];omega),wcl_set h x n j e,if_neg (by omega)]
  · have e':j=n:=by omega
    subst e'
    rw [List.set_append_right _ _ (by omega),List.set_append_right _ _ (by omega),hl,Nat.sub_self,show j*2+1-j*2=1 by omega,wcl_congr (h:=h) (h':=fun i=>if i=j then x else h i) j (fun i hi=>by rw [if_neg (by omega)]),if_pos rfl]
    rfl
theorem rp_wcl (y:Int) (m:Nat):∀ n,rp y (m:Int) n=wcl (fun _=>(m,y)) n
 | 0=>rfl
 | n+1=>by
  rw [rp_add,rp_wcl y m n]
  rfl
def WR (W:World) (g n:Nat) (h:Nat→Nat × Int):Prop:=Blk W g 182 (wcl h n).toArray
theorem WR.cells {W:World} {g n:Nat} {h:Nat→Nat × Int} (r:WR W g n h) {j:Nat} (hj:j < n):W.cell? ⟨g,j*2,none⟩=some (.int .i64 (h j).2)∧W.cell? ⟨g,j*2+1,none⟩=some (.int .i64 ((h j).1:Int)):=by
 have hg:=wcl_get h n j hj
 exact ⟨by rw [Blk.cell r,List.getElem?_toArray];exact hg.1,by rw [Blk.cell r,List.getElem?_toArray];exact hg.2⟩
theorem WR.put {W:World} {g n:Nat} {h:Nat→Nat × Int} (r:WR W g n h) {j:Nat} (hj:j < n) (x:Nat × Int) :
 WR ((W.setCell ⟨g,j*2,none⟩ (.int .i64 x.2)).setCell ⟨g,j*2+1,none⟩ (.int .i64 (x.1:Int))) g n (fun i=>if i=j then x else h i):=by
 have h1:=Blk.set_ (Blk.set_ r (j*2) (.int .i64 x.2)) (j*2+1) (.int .i64 (x.1:Int))
 have e:((wcl h n).toArray.setIfInBounds (j*2) (.int .i64 x.2)).setIfInBounds (j*2+1) (.int .i64 (x.1:Int))=(wcl (fun i=>if i=j then x else h i) n).toArray:=by
  rw [←wcl_set h x n j hj];simp
 rw [e] at h1
 exact h1
theorem steps_any (pb i:Nat) (w:World):Calls Tryz.prog 113 #[.pointer (some ⟨pb,0,none⟩),.int .i64 i] w fun e w'=>
 e=.returned (.func (.func 149) #[] #[.pointer (some ⟨w.heap.size+1,0,none⟩),.pointer (some ⟨w.heap.size,0,none⟩)])∧w'=(w.alloc (.cells #[.pointer (some ⟨pb,0,none⟩)] 133)).alloc (.cells #[.int .i64 i] 3):=by
 go_enter Tryz.func113,Tryz.ntmps113
 go_wp2_with fail
 go_ret
 exact ⟨rfl,rfl⟩
end Go.Proofs.YtbnganlfelgogaaGreat
namespace Go.Proofs.YtbnganlfelgogaaGreat
theorem stp_mem {t:Tb} {i:Nat}:∀ {m j:Nat},j ∈ stp t i m↔(i < j∧j≤i+m∧(t i j).isSome=true)
 | 0,j=>by simp [stp];omega
 | m+1,j=>by
  unfold stp
  have ih:=stp_mem (t:=t) (i:=i) (m:=m) (j:=j)
  by_cases h:(t i (i+1+m)).isSome=true
  · rw [if_pos h,List.mem_append,List.mem_singleton,ih]
    constructor
    · rintro (⟨h1,h2,h3⟩ | h1)
      · exact ⟨h1,by omega,h3⟩
      · subst h1;exact ⟨by omega,by omega,h⟩
    · rintro ⟨h1,h2,h3⟩
      by_cases e:j=i+1+m
      · exact .inr e
      · exact .inl ⟨h1,by omega,h3⟩
  · rw [if_neg h,ih]
    constructor
    · rintro ⟨h1,h2,h3⟩;exact ⟨h1,by omega,h3⟩
    · rintro ⟨h1,h2,h3⟩
      by_cases e:j=i+1+m
      · subst e;exact absurd h3 h
      · exact ⟨h1,by omega,h3⟩
def prt (t:Tb) (k:Nat) (pre:List Nat) (j:Nat):Nat × Int:=if j ∈ pre then fwd t (k+1) j else fwd t k j
theorem fwd_some {t:Tb} {k j d:Nat} (h:t k j=some d) (hk:(fwd t k k).1 < ML):fwd t (k+1) j=if (fwd t k k).1+d < (fwd t k j).1 then ((fwd t k k).1+d,(k:Int)) else fwd t k j:=by
 show (match t k j with | none=>fwd t k j | some d=>if (fwd t k k).1 < ML∧(fwd t k k).1+d < (fwd t k j).1 then ((fwd t k k).1+d,(k:Int)) else fwd t k j)=_
 rw [h]
 by_cases h2:(fwd t k k).1+d < (fwd t k j).1
 · show (if _ then _ else _)=_
   rw [if_pos ⟨hk,h2⟩,if_pos h2]
 · show (if _ then _ else _)=_
   rw [if_neg (fun h=>h2 h.2),if_neg h2]
theorem fwd_none {t:Tb} {k j:Nat} (h:t k j=none):fwd t (k+1) j=fwd t k j:=by
 show (match t k j with | none=>fwd t k j | some d=>_)=_
 rw [h]
theorem fwd_ml {t:Tb} {k:Nat} (h:(fwd t k k).1=ML) (j:Nat):fwd t (k+1) j=fwd t k j:=by
 cases hd:t k j with
 | none=>exact fwd_none hd
 | some d=>
  show (match t k j with | none=>fwd t k j | some d=>if (fwd t k k).1 < ML∧(fwd t k k).1+d < (fwd t k j).1 then ((fwd t k k).1+d,(k:Int)) else fwd t k j)=_
  rw [hd]
  show (if _ then _ else _)=_
  rw [if_neg (fun h2=>by omega)]
theorem prt_step {t:Tb} {k j d:Nat} {pre:List Nat} (h:t k j=some d) (hk:(fwd t k k).1 < ML) :
 (if (fwd t k k).1+d < (prt t k pre j).1 then ((fwd t k k).1+d,(k:Int)) else prt t k pre j)=fwd t (k+1) j:=by
 unfold prt
 by_cases hp:j ∈ pre
 · rw [if_pos hp]
   have h1:=fwd_some h hk
   by_cases h2:(fwd t k k).1+d < (fwd t k j).1
   · rw [if_pos h2] at h1
     rw [h1,if_neg (by simp)]
   · rw [if_neg h2] at h1
     rw [h1,if_neg h2]
 · rw [if_neg hp,fwd_some h hk]
theorem prt_snoc {t:Tb} {k j:Nat} {pre:List Nat}:prt t k (pre++[j])=fun i=>if i=j then fwd t (k+1) j else prt t k pre i:=by
 funext i
 unfold prt
 by_cases e:i=j
 · subst e;simp
 · simp [e]
theorem prt_stay {t:Tb} {k j d:Nat} {pre:List Nat} (h:t k j=some d) (hk:(fwd t k k).1 < ML) (hn:¬(fwd t k k).1+d < (prt t k pre j).1):prt t k (pre++[j])=prt t k pre:=by
 rw [prt_snoc]
 funext i
 by_cases e:i=j
 · subst e
   rw [if_pos rfl,←prt_step (pre:=pre) h hk,if_neg hn]
 · rw [if_neg e]
theorem prt_end {t:Tb} {n D k:Nat} (ht:TbOk t n D) (hk:k < n):∀ j,j < n→prt t k (stp t k (n-1-k)) j=fwd t (k+1) j:=fun j hj=>by
 unfold prt
 by_cases hp:j ∈ stp t k (n-1-k)
 · rw [if_pos hp]
 · rw [if_neg hp]
   symm
   apply fwd_none
   cases hd:t k j with
   | none=>rfl
   | some d=>
    exfalso
    apply hp
    have:=ht.up hd
    rw [stp_mem,hd]
    exact ⟨this.1,by omega,rfl⟩
theorem prt_nil (t:Tb) (k:Nat):prt t k []=fwd t k:=by funext i;simp [prt]
theorem prt_k {t:Tb} {n D k:Nat} (ht:TbOk t n D) {pre:List Nat}:(prt t k pre k)=fwd t k k:=by
 unfold prt
 by_cases hp:k ∈ pre
 · rw [if_pos hp]
   apply fwd_none
   cases hd:t k k with
   | none=>rfl
   | some d=>have:=ht.up hd;omega
 · rw [if_neg hp]
theorem fwd_start (t:Tb) (j:Nat):fwd t 0 j=if j=0 then (0,-1) else (ML,-1):=rfl
end Go.Proofs.YtbnganlfelgogaaGreat
namespace Go.Proofs.YtbnganlfelgogaaGreat
open Go.RowKit
abbrev mrk (D:Nat):Deferred:={ target:=.collected D,args:=#[] }
def ButM (Ds:List Nat) (W W':World):Prop:=W'.os=W.os∧W'.tape=W.tape∧W'.output=W.output∧W'.heap.size=W.heap.size∧∀ k,k ∉ Ds→W'.heap[k]?=W.heap[k]?
theorem ButM.below {Ds:List Nat} {W W':World} {B:Nat} (h:ButM Ds W W') (hB:∀ D,D ∈ Ds→B≤D):Below B W W':=
 ⟨h.1,h.2.1,h.2.2.1,by rw [h.2.2.2.1];exact Nat.le_refl _,fun k hk=>h.2.2.2.2 k (fun hm=>by have:=hB k hm;omega)⟩
theorem leaves_marks {F:Fence} {n:Nat} {P:Program} {fn:Func} {tmps:Array Value} {R:Ending→World→Prop} {u:FrameMode} (hu:u≠.run):∀ (Ds:List Nat) (W:World),Ds.Nodup→(∀ D,D ∈ Ds→W.heap[D]?=some (.deferred (some [])))→
 (∀ W',ButM Ds W W'→LeavesInM F n P fn tmps R [] u W')→LeavesInM F n P fn tmps R (Ds.map mrk) u W
 | [],W,_,_,h=>h W ⟨rfl,rfl,rfl,rfl,fun _ _=>rfl⟩
 | D :: Ds,W,hn,hD,h=>by
  have hD0:=hD D List.mem_cons_self
  obtain ⟨hn1,hn2⟩:=List.nodup_cons.1 hn
  refine ⟨hu,.inl ⟨D,_,rfl,run_takeDeferred hD0,?_⟩⟩
  refine leaves_marks hu Ds _ hn2 (fun D' h'=>?_) (fun W' hW'=>?_)
  · rw [World.putObj_heap_other (show D'≠D from fun e=>hn1 (by rw [←e];exact h'))]
    exact hD D' (List.mem_cons_of_mem _ h')
  · refine h W' ⟨hW'.1,hW'.2.1,hW'.2.2.1,?_,fun k hk=>?_⟩
    · rw [hW'.2.2.2.1];simp
    · rw [hW'.2.2.2.2 k (fun h'=>hk (List.mem_cons_of_mem _ h')),World.putObj_heap_other (fun e=>hk (by rw [e];exact List.mem_cons_self))]
end Go.Proofs.YtbnganlfelgogaaGreat
namespace Go.Proofs.YtbnganlfelgogaaGreat
section
variable {P:Program} {ops:Array Oper} {C:World→Prop} {n lr:Nat}
theorem wpIn_of_quiet_round {o:Oper} {a:Act} {K:Act→Prop} {K':Act→World→Prop} {Q':Exit→Act→World→Prop} {w:World} (hd:∀ c,o.op≠.defer c) (hw:C w) (h:∀ a w',C w'→K a→K' a w') (hh:o.quiet P a C K):o.wpIn (Fence.wide.inRound lr) n P a w K' Q':=by
 obtain ⟨v,h1,h2⟩:=hh
 have h3:=h1 w hw
 unfold Oper.quietAt at h3
 refine ⟨fun _ _=>trivial,?_⟩
 rw [Oper.semAt_plain _ _ _ hd]
 generalize (execOp a.eval o).run P w=r at *
 cases r with
 | ok x w'=>
  cases x <;> simp only [Oper.quietUpon] at h3 <;> simp only [Oper.uponIn]
  case value u=>
   obtain ⟨e1,e2⟩:=h3
   rw [e1,e2]
   exact h _ _ hw h2
  case skip=>
   obtain ⟨e1,e2⟩:=h3
   rw [e1,←e2]
   exact h _ _ hw h2
  case enter f args=>
   obtain ⟨e1,hc⟩:=h3
   rw [e1]
   refine ⟨fun e=>(by cases e),callsIn_wide.2 (hc.mono fun e w'' ⟨he,hw''⟩=>by subst he;exact h _ _ hw'' h2)⟩
 | halt x w'=>simp only [Oper.quietUpon] at h3
theorem wpOpIn_of_qOp_round (hd:∀ (i:Nat) (o:Oper),ops[i]?=some o→∀ c,o.op≠.defer c) {i:Nat} {a:Act} {K:Act→Prop} {K':Act→World→Prop} {Q':Exit→Act→World→Prop} {w:World} (hC:C w) (h:∀ a w',C w'→K a→K' a w') (hh:qOp P ops C i K a):wpOpIn (Fence.wide.inRound lr) n P ops Q' i K' a w:=by
 unfold qOp at hh
 unfold wpOpIn
 split
 · rename_i ho;simp only [ho] at hh;exact h _ _ hC hh
 · rename_i o ho
   simp only [ho] at hh
   split
   · rename_i hw;simp only [hw,if_true] at hh;exact wpIn_of_quiet_round (hd i o ho) hC h hh
   · rename_i hw;simp only [hw] at hh;exact ⟨fun _ _=>trivial,h _ _ hC hh⟩
theorem wpAnyIn_of_quiet_round {md:Region.Mode} (hd:∀ (i:Nat) (o:Oper),ops[i]?=some o→∀ c,o.op≠.defer c) {Q:Act→Prop} {Q':Exit→Act→World→Prop} (hQ:∀ a w,C w→Q a→Q' .normal a w):∀ (fuel:Nat) (listed:Array Bool) (a:Act) (w:World),C w→
 wpAnyQ P md ops C Q fuel listed a→wpAnyIn (Fence.wide.inRound lr) n P md ops Q' fuel listed a w
 | 0,_,_,_,hw,h=>⟨h.1,hQ _ _ hw h.2⟩
 | fuel+1,_,_,_,hw,h=>⟨fun h0=>hQ _ _ hw (h.1 h0),fun i hi=>wpOpIn_of_qOp_round hd hw (fun a' w' hw'=>wpAnyIn_of_quiet_round hd hQ fuel _ a' w' hw') (h.2 i hi)⟩
def noDefer (l:List Oper):Bool:=l.all fun o=>match o.op with | .defer _=>false | _=>true
theorem noDefer_spec {l:List Oper} (h:noDefer l=true) (i:Nat) (o:Oper) (ho:l.toArray[i]?=some o) (c:Call):o.op≠.defer c:=by
 intro e
 have:=List.all_eq_true.1 h o (by rw [List.getElem?_toArray] at ho;exact List.mem_of_getElem? ho)
 rw [e] at this
 cases this
theorem quiet_round {id:Nat} {Q:Exit→Act→World→Prop} {a:Act} {w:World} {l:List Oper} (hm:P.follows .mixedOrders=true) (hB:Region.lexB .any l.toArray=true) (hd:noDefer l=true)
 (h:wpQuiet P l.toArray (fun w'=>∃ n,w'=w.drewN n) (fun a'=>∀ w',(∃ n,w'=w.drewN n)→Q .normal a' w') l a):(Code.region id l.toArray true).wpIn (Fence.wide.inRound lr) n P Q a w:=by
 simp only [Region.lexB,Bool.and_eq_true] at hB
 refine wpIn_region_any hm (wpAnyIn_of_quiet_round (C:=fun w'=>∃ n,w'=w.drewN n) (noDefer_spec hd) (Q:=fun a'=>∀ w',(∃ n,w'=w.drewN n)→Q .normal a' w') (fun _ w' hw' h=>h w' hw') _ _ _ _ ⟨1,rfl⟩ ?_)
 have:=wpAnyQ_lex (C:=fun w'=>∃ n,w'=w.drewN n) (md:=.any) hB.1 l.toArray.toList 0 (Array.replicate l.toArray.size false) a (by simp) (by simpa using hB.2) (by simpa using h)
 simpa using this
end
end Go.Proofs.YtbnganlfelgogaaGreat
