/- join: words behind an indent, with gaps between. -/
import Derived.Test.YtbnganlfelgogaaGreatVOta
import Derived.Test.YtbnganlfelgogaaGreatVSpr
set_option linter.unusedSimpArgs false
set_option linter.unusedVariables false
set_option maxRecDepth 100000
set_option maxHeartbeats 40000000
namespace Go.Proofs.YtbnganlfelgogaaGreat
open Go.RowKit
def joinK (ind:List Int) (ws gs:List (List Int)):Nat→List Int
 | 0=>ind
 | k+1=>(if 0 < k then joinK ind ws gs k++gl gs (k-1) else joinK ind ws gs k)++gl ws k
theorem joinK_mono (ind:List Int) (ws gs:List (List Int)):∀ n k,k≤n→(joinK ind ws gs k).length≤(joinK ind ws gs n).length
 | 0,k,h=>by have:k=0:=by omega
             subst this;exact Nat.le_refl _
 | n+1,k,h=>by
  by_cases e:k=n+1
  · subst e;exact Nat.le_refl _
  · have:=joinK_mono ind ws gs n k (by omega)
    show _≤((if 0 < n then joinK ind ws gs n++gl gs (n-1) else joinK ind ws gs n)++gl ws n).length
    rw [List.length_append]
    split
    · rw [List.length_append];omega
    · omega
theorem join_any (ind:List Int) (ws gs:List (List Int)) (vi vw vg:Value) (w:World) (hi:IV w ind vi) (hw:LV w ws vw) (hg:LV w gs vg) (hl:ws.length≤gs.length+1) (hm:ws.length≤1000) (ht:(joinK ind ws gs ws.length).length≤100000) :
 Calls Tryz.prog 195 #[vi,vw,vg] w (CloPost w (joinK ind ws gs ws.length)):=by
 obtain ⟨i3,hi3,hz3,hy3,hx3⟩:=info_parts info3
 have HP:Hid (∀ W u,IO W w.heap.size (joinK ind ws gs ws.length) u→Below w.heap.size w W→CloPost w (joinK ind ws gs ws.length) (.returned u) W):=(show ∀ W u,_ from fun W u h1 h2=>⟨u,rfl,h1,h2⟩)
 have HW:=Lib.hid hw
 have HG:=Lib.hid hg
 obtain ⟨Ai,bi,oi,ci,rfl,hAi,hzi,-,-⟩:=hi.open
 have HC:=Lib.hid (cloneI_any ind Ai bi oi ci w hAi hzi (by
  have:=joinK_mono ind ws gs ws.length 0 (Nat.zero_le _)
  have e:joinK ind ws gs 0=ind:=rfl
  rw [e] at this;omega))
 have HLE:=Lib.hid (joinK_mono ind ws gs ws.length)
 have HST:Hid (∀ k,joinK ind ws gs (k+1)=(if 0 < k then joinK ind ws gs k++gl gs (k-1) else joinK ind ws gs k)++gl ws k):=(show ∀ k,_ from fun k=>rfl)
 have HS0:Hid (joinK ind ws gs 0=ind):=rfl
 obtain ⟨Aw,cw,rfl,-,-⟩:=hw.shape
 obtain ⟨Ag,cg,rfl,-,-⟩:=hg.shape
 clear hi hw hg hAi hzi
 have hJT:Hid (∀ k,k≤ws.length→(joinK ind ws gs k).length≤100000):=(show ∀ k,_ from fun k h=>by have:=HLE.out k h;omega)
 clear ht
 generalize hN:ws.length=N at *
 have HN:=Lib.hid hN
 have hgn:N≤gs.length+1:=hl
 generalize hM:gs.length=M at *
 have HM:=Lib.hid hM
 clear hN hM hl
 go_enter Tryz.func195,Tryz.ntmps195
 go_wp2_with fail
 refine HC.out.mono ?_
 rintro e w1 ⟨u1,rfl,hio1,hb1⟩
 have HI1:Hid (IO w1 w.heap.size (joinK ind ws gs 0) u1):=(show IO _ _ _ _ from by rw [HS0.out];exact hio1)
 have HB1:=Lib.hid hb1
 clear hio1 hb1 HC
 go_wp2_with fail
 go_loopg [7,8,9,14] N (fun gg s7 _ _ s14 wr=>∃ k:Nat,k≤N∧N-k≤gg∧s14=.int .i64 (k:Int)∧Hid (IO wr w.heap.size (joinK ind ws gs k) s7)∧Hid (Below w.heap.size w wr))
 case atStart=>exact ⟨0,by omega,by omega,rfl,HI1.out,HB1.out⟩
 case round=>
  obtain ⟨k,hk,hgk,rfl,HI,HB⟩:=hrel
  have hbz:=HB.out.size
  by_cases hlt:k < N
  · have hltz:(k:Int) < (N:Int):=by omega
    have hW:=HW.out
    rw [←HN.out] at hW
    obtain ⟨b,off,A',b',o',c',rfl,hbw,z1,hl1,hz1⟩:=hW.at (k:=k) (by rw [HN.out];exact hlt)
    have HWC:Hid (∀ W,Below w.heap.size w W→W.cell? ⟨b,off+k,none⟩=some (.slice A' (gl ws k).length c')∧Lies A' (gl ws k).length W.heap.size b' o'∧∀ j,j < (gl ws k).length*1→W.cell? ⟨b',o'+j,none⟩=(zv (gl ws k))[j]?):=(show ∀ W,_ from fun W hW2=>⟨(hW2.cell (p:=⟨b,off+k,none⟩) hbw).trans z1,hl1.mono hW2.size,fun j hj=>(hW2.cell (p:=⟨b',o'+j,none⟩) (hl1 (by omega)).2).trans (hz1.news j hj)⟩)
    obtain ⟨z0,hL0,hZ0⟩:=HWC.out wr HB.out
    have hj1:=hJT.out (k+1) (by omega)
    rw [HST.out k,List.length_append] at hj1
    have hj0:=hJT.out k hk
    have HLW:=Lib.hid (zv_len (gl ws k))
    have HOW:=Lib.hid (zv_one (gl ws k))
    have HLW1:Hid ((zv (gl ws k)).length=(gl ws k).length*1):=(show _=_ from by rw [zv_len,Nat.mul_one])
    clear hW z1 hl1 hz1
    by_cases hk0:0 < k
    · rw [if_pos hk0,List.length_append] at hj1
      have HNX:Hid (joinK ind ws gs (k+1)=(joinK ind ws gs k++gl gs (k-1))++gl ws k):=(show _=_ from by rw [HST.out k,if_pos hk0])
      obtain ⟨kp,rfl⟩:∃ q,k=q+1:=⟨k-1,by omega⟩
      rw [show kp+1-1=kp from rfl] at hj1 HNX
      have hkz:(0:Int) < ((kp+1:Nat):Int):=by omega
      have hkm:(kp:Int) < (M:Int):=by omega
      have hG:=HG.out
      rw [←HM.out] at hG
      obtain ⟨b2,off2,A2',b2',o2',c2',rfl,hbw2,z2,hl2,hz2⟩:=hG.at (k:=kp) (by rw [HM.out];omega)
      have z2r:=(HB.out.cell (p:=⟨b2,off2+kp,none⟩) hbw2).trans z2
      have HL2:=Lib.hid (hl2.mono HB.out.size)
      have HZ2:Hid (∀ j,j < (gl gs kp).length*1→wr.cell? ⟨b2',o2'+j,none⟩=(zv (gl gs kp))[j]?):=(show ∀ j,_ from fun j hj=>(HB.out.cell (p:=⟨b2',o2'+j,none⟩) (hl2 (by omega)).2).trans (hz2.news j hj))
      have HLG:Hid ((zv (gl gs kp)).length=(gl gs kp).length*1):=(show _=_ from by rw [zv_len,Nat.mul_one])
      have HOG:=Lib.hid (zv_one (gl gs kp))
      clear hG hl2 hz2 z2
      have HIL:=Lib.hid (zv_len (joinK ind ws gs (kp+1)))
      obtain ⟨A7,c7,rfl⟩:=HI.out.shape
      have hio:=HI.out
      generalize hZK:joinK ind ws gs (kp+1)=zk at *
      have hsub:((kp+1:Nat):Int)-1=(kp:Int):=by omega
      go_wp2_with (first
       | (at_builtin
          refine wpList_app rfl _ _ 34 rfl w.heap.size 3 i3 _ 1 8 Tryz.underlying34 hi3 hz3 hy3 hx3 rfl (by omega) _ (zk.length+(gl gs kp).length) _ (by rfl) hio5 A' b' o' (gl ws (kp+1)).length c' _ (by rfl) HLW1.out hL5 hZ5 HOW.out (by simp only [maxLen];omega) (by omega) hbz5 ?_
          intro v6 w6 hown6 hg6 hat6
          have HB6:Hid (Below w.heap.size w w6):=(show Below _ _ _ from HB5.out.grown hg6 hbz5 (fun t ht=>(World.ownsRow.lt hio5 t ht).1))
          have HI6:Hid (IO w6 w.heap.size (joinK ind ws gs (kp+1+1)) v6):=(show World.ownsRow _ _ _ _ _ _ _ from by
           rw [HNX.out,zv_app,zv_app,List.length_append,List.length_append];exact hown6)
          clear hown6 hg6 hat6)
       | (at_builtin
          refine wpList_app rfl _ _ 34 rfl w.heap.size 3 i3 _ 1 8 Tryz.underlying34 hi3 hz3 hy3 hx3 rfl (by omega) _ zk.length _ (by rfl) hio A2' b2' o2' (gl gs kp).length c2' _ (by rfl) HLG.out HL2.out HZ2.out HOG.out (by simp only [maxLen];omega) (by omega) hbz ?_
          intro v5 w5 hown5 hg5 hat5
          have HB5:Hid (Below w.heap.size w w5):=(show Below _ _ _ from HB.out.grown hg5 hbz (fun t ht=>(World.ownsRow.lt HI.out t ht).1))
          obtain ⟨_,hL5,hZ5⟩:=HWC.out w5 HB5.out
          have hbz5:=HB5.out.size
          obtain ⟨A5,c5,rfl⟩:∃ A5 c5,v5=.slice A5 (zk.length+(gl gs kp).length) c5:=by
           rcases hown5.2 with ⟨e,h0⟩ | ⟨g',cap',cur',e,_⟩
           · exact ⟨none,0,by rw [e,h0]⟩
           · exact ⟨_,_,e⟩
          have hio5:=hown5
          clear hown5 hg5 hat5))
      go_roundg (N-(kp+1+1))
      case measure=>omega
      case rel=>exact ⟨kp+1+1,by omega,by omega,by go_num,HI6.out,HB6.out⟩
    · have hkz:¬(0:Int) < (k:Int):=by omega
      rw [if_neg hk0] at hj1
      have HNX:Hid (joinK ind ws gs (k+1)=joinK ind ws gs k++gl ws k):=(show _=_ from by rw [HST.out k,if_neg hk0])
      obtain ⟨A7,c7,rfl⟩:=HI.out.shape
      have hio:=HI.out
      generalize hZK:joinK ind ws gs k=zk at *
      go_wp2_with (first
       | (at_builtin
          refine wpList_app rfl _ _ 34 rfl w.heap.size 3 i3 _ 1 8 Tryz.underlying34 hi3 hz3 hy3 hx3 rfl (by omega) _ _ _ (by rfl) hio A' b' o' (gl ws k).length c' _ (by rfl) HLW1.out hL0 hZ0 HOW.out (by simp only [maxLen];omega) (by omega) hbz ?_
          intro v6 w6 hown6 hg6 hat6
          have HB6:Hid (Below w.heap.size w w6):=(show Below _ _ _ from HB.out.grown hg6 hbz (fun t ht=>(World.ownsRow.lt hio t ht).1))
          have HI6:Hid (IO w6 w.heap.size (joinK ind ws gs (k+1)) v6):=(show World.ownsRow _ _ _ _ _ _ _ from by
           rw [HNX.out,zv_app,List.length_append];exact hown6)
          clear hown6 hg6 hat6))
      go_roundg (N-(k+1))
      case measure=>omega
      case rel=>exact ⟨k+1,by omega,by omega,by go_num,HI6.out,HB6.out⟩
  · have hltz:¬(k:Int) < (N:Int):=by omega
    have hke:k=N:=by omega
    subst hke
    go_wp2_with fail
    go_ret
    exact HP.out _ _ HI.out HB.out
end Go.Proofs.YtbnganlfelgogaaGreat
namespace Go.Proofs.YtbnganlfelgogaaGreat
open Go.RowKit
theorem perm_sum {l l':List Int} (h:l.Perm l') (g:Int→Int):(l.map g).sum=(l'.map g).sum:=by
 induction h with
 | nil=>rfl
 | cons x _ ih=>simp [ih]
 | swap x y l=>simp;omega
 | trans _ _ ih1 ih2=>exact ih1.trans ih2
theorem perm_sumN {l l':List Int} (h:l.Perm l') (g:Int→Nat):(l.map g).sum=(l'.map g).sum:=by
 induction h with
 | nil=>rfl
 | cons x _ ih=>simp [ih]
 | swap x y l=>simp;omega
 | trans _ _ ih1 ih2=>exact ih1.trans ih2
theorem spl_pair (l:List TSort):∀ k,(spl l k).Pairwise (· < ·)
 | 0=>List.Pairwise.nil
 | k+1=>by
  unfold spl
  split
  · rw [List.pairwise_append]
    refine ⟨spl_pair l k,List.pairwise_singleton _ _,fun a ha b hb=>?_⟩
    have:=(spl_in l k a ha).2
    have:b=(k:Int):=by simpa using hb
    omega
  · exact spl_pair l k
theorem pair_gz {l:List Int} (h:l.Pairwise (· < ·)) {i j:Nat} (hij:i < j) (hj:j < l.length):gz l i < gz l j:=by
 unfold gz
 rw [List.getD_eq_getElem?_getD,List.getD_eq_getElem?_getD,List.getElem?_eq_getElem hj,List.getElem?_eq_getElem (by omega)]
 exact List.pairwise_iff_getElem.1 h i j _ _ hij
theorem spl_kind (l:List TSort):∀ k,∀ x,x ∈ spl l k→((gs l x.toNat).kind == 3)=true
 | 0,x,h=>by cases h
 | k+1,x,h=>by
  unfold spl at h
  split at h
  · rename_i hk
    rcases List.mem_append.1 h with h | h
    · exact spl_kind l k x h
    · have:x=(k:Int):=by simpa using h
      subst this
      exact hk
  · exact spl_kind l k x h
def qsF (f:Fnt) (lf:List Int):List (Nat × Nat):=(spl f.sorts f.sorts.length).map fun s=>((gz lf s.toNat).toNat,(wd f s).toNat)
theorem putR_len:∀ (ps:List Int) (ks:List Nat) (out:List Int),(putR out ps ks).length=out.length
 | [],ks,out=>by unfold putR;rfl
 | p :: ps,[],out=>by unfold putR;rfl
 | p :: ps,k :: ks,out=>by unfold putR;rw [putR_len ps ks,List.length_set]
theorem putR_other:∀ (ps:List Int) (ks:List Nat) (out:List Int) (i:Nat),(∀ p,p ∈ ps→p.toNat≠i)→gz (putR out ps ks) i=gz out i
 | [],ks,out,i,_=>by unfold putR;rfl
 | p :: ps,[],out,i,_=>by unfold putR;rfl
 | p :: ps,k :: ks,out,i,h=>by
  unfold putR
  rw [putR_other ps ks _ i (fun q hq=>h q (by simp [hq]))]
  have h0:=h p (by simp)
  unfold gz
  rw [List.getD_eq_getElem?_getD,List.getD_eq_getElem?_getD,List.getElem?_set_ne h0]
theorem putR_at:∀ (ps:List Int) (ks:List Nat) (out:List Int),ps.Pairwise (· < ·)→(∀ p,p ∈ ps→0≤p∧p.toNat < out.length)→ps.length=ks.length→(ps.map fun p=>gz (putR out ps ks) p.toNat)=ks.map fun k:Nat=>(k:Int)
 | [],[],out,_,_,_=>rfl
 | [],k :: ks,out,_,_,h=>by simp at h
 | p :: ps,[],out,_,_,h=>by simp at h
 | p :: ps,k :: ks,out,hp,hi,hl=>by
  have hp2:=List.pairwise_cons.1 hp
  have h0:=hi p (by simp)
  have ih:=putR_at ps ks (out.set p.toNat (k:Int)) hp2.2 (fun q hq=>⟨(hi q (by simp [hq])).1,by rw [List.length_set];exact (hi q (by simp [hq])).2⟩) (by simpa using hl)
  unfold putR
  rw [List.map_cons,List.map_cons,ih]
  congr 1
  rw [putR_other ps ks _ p.toNat (fun q hq=>by have:=hp2.1 q hq;have:=(hi q (by simp [hq])).1;omega),gz_set h0.2,if_pos rfl]
theorem limN_len:∀ {qs:List (Nat × Nat)} {r:List Nat},limN qs r→r.length=qs.length
 | [],[],_=>rfl
 | [],k :: ks,h=>by cases h
 | q :: qs,[],h=>by cases h
 | q :: qs,k :: ks,h=>by
  have:=limN_len h.2
  simp [this]
theorem repK_len (cs:List Int):∀ (os:List Int) k,k≤os.length→(repK os cs k).length=((os.take k).map fun s=>(gz cs s.toNat).toNat).sum
 | os,0,_=>by simp [repK]
 | os,k+1,h=>by
  unfold repK
  rw [List.length_append,List.length_replicate,repK_len cs os k (by omega),take_snoc (by omega),List.map_append,List.sum_append]
  simp
theorem widL_rep (f:Fnt) (x:Int):∀ m,widL f (List.replicate m x)=(m:Int)*wd f x
 | 0=>by simp [widL]
 | m+1=>by
  rw [List.replicate_succ]
  have:=widL_rep f x m
  have e:widL f (x :: List.replicate m x)=wd f x+widL f (List.replicate m x):=by simp [widL]
  rw [e,this]
  push_cast
  rw [Int.add_mul]
  omega
theorem repK_wid (f:Fnt) (cs:List Int):∀ (os:List Int) k,k≤os.length→widL f (repK os cs k)=((os.take k).map fun s=>((gz cs s.toNat).toNat:Int)*wd f s).sum
 | os,0,_=>by simp [repK,widL]
 | os,k+1,h=>by
  unfold repK
  rw [widL_app,widL_rep,repK_wid f cs os k (by omega),take_snoc (by omega),List.map_append,List.sum_append]
  simp
theorem widR_len (f:Fnt) (cs:List Int):(widR f cs).length=((spl f.sorts f.sorts.length).map fun s=>(gz cs s.toNat).toNat).sum:=by
 unfold widR
 rw [repK_len cs _ _ (Nat.le_refl _),List.take_length]
 exact perm_sumN (ordW_perm f) _
theorem widR_wid (f:Fnt) (cs:List Int):widL f (widR f cs)=((spl f.sorts f.sorts.length).map fun s=>((gz cs s.toNat).toNat:Int)*wd f s).sum:=by
 unfold widR
 rw [repK_wid f cs _ _ (Nat.le_refl _),List.take_length]
 exact perm_sum (ordW_perm f) _
theorem sumN_eq (r:List Nat):sumN r=r.sum:=rfl
theorem sum_map_nat {g:Int→Nat} {h:Int→Int}:∀ {ps:List Int} {ks:List Nat},(ps.map h)=ks.map (fun k:Nat=>(k:Int))→(∀ p,p ∈ ps→g p=(h p).toNat)→(ps.map g).sum=ks.sum
 | [],[],_,_=>rfl
 | [],k :: ks,e,_=>by simp at e
 | p :: ps,[],e,_=>by simp at e
 | p :: ps,k :: ks,e,hg=>by
  simp only [List.map_cons,List.cons.injEq] at e
  have:=sum_map_nat e.2 (fun q hq=>hg q (by simp [hq]))
  rw [List.map_cons,List.sum_cons,List.sum_cons,this,hg p (by simp),e.1]
  rfl
theorem sum_map_wid {f:Fnt} {lf cnt:List Int}:∀ {ps:List Int} {ks:List Nat},(ps.map fun s=>gz cnt s.toNat)=ks.map (fun k:Nat=>(k:Int))→(∀ p,p ∈ ps→0≤wd f p)→
 (ps.map fun s=>((gz cnt s.toNat).toNat:Int)*wd f s).sum=(widN (ps.map fun s=>((gz lf s.toNat).toNat,(wd f s).toNat)) ks:Nat)
 | [],[],_,_=>rfl
 | [],k :: ks,e,_=>by simp at e
 | p :: ps,[],e,_=>by simp at e
 | p :: ps,k :: ks,e,hw=>by
  simp only [List.map_cons,List.cons.injEq] at e
  have ih:=sum_map_wid (f:=f) (lf:=lf) (cnt:=cnt) e.2 (fun q hq=>hw q (by simp [hq]))
  rw [List.map_cons,List.sum_cons,ih,e.1,List.map_cons]
  have h0:=hw p (by simp)
  show _=((k*(wd f p).toNat+widN (ps.map fun s=>((gz lf s.toNat).toNat,(wd f s).toNat)) ks:Nat):Int)
  push_cast
  have e2:((wd f p).toNat:Int)=wd f p:=by omega
  rw [Int.toNat_natCast]
  rw [e2]
structure ChzOk (f:Fnt) (lf:List Int) (w least most:Nat) (cnt:List Int):Prop where
 len:cnt.length=f.sorts.length
 no:∀ i:Nat,spB f (i:Int)=false→gz cnt i=0
 lim:∀ i:Nat,i < f.sorts.length→0≤gz cnt i∧(gz cnt i=0∨gz cnt i≤gz lf i)
 num:least≤(widR f cnt).length∧(widR f cnt).length≤most
 wid:widL f (widR f cnt)=(w:Int)
theorem limN_at {f:Fnt} {lf cnt:List Int}:∀ {ps:List Int} {ks:List Nat},limN (ps.map fun s=>((gz lf s.toNat).toNat,(wd f s).toNat)) ks→(ps.map fun s=>gz cnt s.toNat)=ks.map (fun k:Nat=>(k:Int))→∀ p,p ∈ ps→0≤gz cnt p.toNat∧gz cnt p.toNat≤((gz lf p.toNat).toNat:Int)
 | [],_,_,_,p,hp=>by cases hp
 | q :: ps,[],_,e,p,hp=>by simp at e
 | q :: ps,k :: ks,hl,e,p,hp=>by
  simp only [List.map_cons,List.cons.injEq] at e
  have hl':=hl
  rw [List.map_cons] at hl'
  unfold limN at hl'
  rcases List.mem_cons.1 hp with h | h
  · subst h
    rw [e.1]
    exact ⟨by omega,by have:=hl'.1;simp only at this;omega⟩
  · exact limN_at hl'.2 e.2 p h
theorem chz_ok {f:Fnt} (hok:(fnErr f).2=0) {lf:List Int} (hlf:CsOk f.sorts.length lf) {w least m:Nat} {r:List Nat} (h:fewS (qsF f lf) w least (m+1)=some r) :
 ChzOk f lf w least (least+m) (putR (List.replicate f.sorts.length 0) (spl f.sorts f.sorts.length) r):=by
 unfold fewS at h
 obtain ⟨k,hk,he,-⟩:=fsome_some h
 have hin:=spl_in f.sorts f.sorts.length
 have hpos:∀ p,p ∈ spl f.sorts f.sorts.length→1≤wd f p∧wd f p≤100000:=fun p hp=>wd_ok hok (by have:=hin p hp;exact ⟨this.1,this.2⟩)
 obtain ⟨h1,h2,h3⟩:=exq_sound (fun q hq=>by
  unfold qsF at hq
  obtain ⟨s,hs,rfl⟩:=List.mem_map.1 hq
  have:=hpos s hs
  show 0 < (wd f s).toNat
  omega) he
 have hl:(spl f.sorts f.sorts.length).length=r.length:=by
  have:=limN_len h3
  unfold qsF at this
  rw [List.length_map] at this
  exact this.symm
 have hat:=putR_at (spl f.sorts f.sorts.length) r (List.replicate f.sorts.length 0) (spl_pair _ _) (fun p hp=>by have:=hin p hp;rw [List.length_replicate];omega) hl
 have hlim:=limN_at (f:=f) (lf:=lf) h3 hat
 have hno:∀ i:Nat,(∀ p,p ∈ spl f.sorts f.sorts.length→p.toNat≠i)→gz (putR (List.replicate f.sorts.length 0) (spl f.sorts f.sorts.length) r) i=0:=fun i hi=>by
  rw [putR_other _ _ _ i hi,gz_rep]
 refine ⟨by rw [putR_len,List.length_replicate],fun i hi=>hno i (fun p hp e=>?_),fun i hi=>?_,?_,?_⟩
 · have:=spl_kind _ _ p hp
   rw [e] at this
   unfold spB at hi
   rw [show ((i:Nat):Int).toNat=i from rfl] at hi
   rw [this] at hi;cases hi
 · by_cases hm:∃ p,p ∈ spl f.sorts f.sorts.length∧p.toNat=i
   · obtain ⟨p,hp,rfl⟩:=hm
     have h5:=hlim p hp
     have h6:=(hlf.2 p.toNat hi).1
     exact ⟨h5.1,.inr (by omega)⟩
   · have:=hno i (fun p hp e=>hm ⟨p,hp,e⟩)
     exact ⟨by omega,.inl this⟩
 · rw [widR_len,sum_map_nat (g:=fun s=>(gz (putR (List.replicate f.sorts.length 0) (spl f.sorts f.sorts.length) r) s.toNat).toNat) hat (fun p _=>rfl),←sumN_eq,h1]
   omega
 · rw [widR_wid,sum_map_wid (lf:=lf) hat (fun p hp=>by have:=hpos p hp;omega)]
   show ((widN (qsF f lf) r:Nat):Int)=_
   rw [h2]
end Go.Proofs.YtbnganlfelgogaaGreat
