/- joiner.add: the words of a line behind others. -/
import Derived.Test.YtbnganlfelgogaaGreatVJnp
import Derived.Test.YtbnganlfelgogaaGreatVLsb
set_option linter.unusedSimpArgs false
set_option linter.unusedVariables false
set_option maxRecDepth 100000
set_option maxHeartbeats 40000000
namespace Go.Proofs.YtbnganlfelgogaaGreat
open Go.RowKit
theorem own_kx {w W:World} {B sz n:Nat} {e:TypeId} {v:Value} {xs:List Value} (h:w.ownsRow B e sz v n xs) (hs:∀ q,B≤q→q < w.heap.size→W.heap[q]?=w.heap[q]?):W.ownsRow B e sz v n xs:=by
 obtain ⟨h1,h2⟩:=h
 refine ⟨h1,?_⟩
 rcases h2 with h2 | ⟨g,cap,cur,he,hB,hh,h3⟩
 · exact .inl h2
 · exact .inr ⟨g,cap,cur,he,hB,(hs g hB (Array.getElem?_eq_some_iff.1 hh).1).trans hh,h3⟩
theorem PSt.kx {w W:World} {B:Nat} {ws:List (List Int)} {v:Value} {hd:List Value} (h:PSt w B ws v hd) (hs:∀ q,B≤q→q < w.heap.size→W.heap[q]?=w.heap[q]?):PSt W B ws v hd:=
 ⟨own_kx h.row hs,h.len,fun i hi=>own_kx (h.pc i hi) hs,h.sep⟩
structure JI (w W:World) (jb B B2:Nat) (vo:Value) (hd:List Value) (pss:List (List Int)) (op:Bool):Prop where
 K:∀ q,B2≤q→q < w.heap.size→W.heap[q]?=w.heap[q]?
 L:Below jb w W
 J:Blk W jb 161 #[vo,.bool op]
 P:PSt W B pss vo hd
 xo:∀ t,vo.ownBlock=some t→t < B2∨w.heap.size≤t
 xh:∀ i,i < pss.length→∀ t,(hd.getD i undef).ownBlock=some t→t < B2∨w.heap.size≤t
 s:w.heap.size≤W.heap.size
theorem JI.step {w W W':World} {jb B B2:Nat} {vo:Value} {hd:List Value} {pss:List (List Int)} {op:Bool} (h:JI w W jb B B2 vo hd pss op) (hb:Below W.heap.size W W'):JI w W' jb B B2 vo hd pss op:=
 ⟨fun q h1 h2=>(hb.block q (Nat.lt_of_lt_of_le h2 h.s)).trans (h.K q h1 h2),h.L.trans (hb.mono (Nat.le_of_lt h.J.lt)),h.J.below hb h.J.lt,h.P.below hb,h.xo,h.xh,Nat.le_trans h.s hb.size⟩
theorem JI.push {w W W1 W6:World} {jb B B2:Nat} {vo v v':Value} {hd:List Value} {pss:List (List Int)} {op:Bool} {zs:List Int} {o:Obj} (h:JI w W jb B B2 vo hd pss op) (hjB:jb < B) (hB:B≤W.heap.size) (hj2:jb < B2) (hb1:Below W.heap.size W W1) (hio:IO W1 W.heap.size zs v)
 (hown:W6.ownsRow B 34 1 v' (pss.length+1) (hd++[v])) (hg:(W1.alloc o).grownBy W6 vo.ownBlock) (hat:v'.ownBlock=vo.ownBlock∨v'.ownBlock=some (W1.alloc o).heap.size) :
 JI w (W6.setCell ⟨jb,0,none⟩ v') jb B B2 v' (hd++[v]) (pss++[zs]) op:=by
 have hb2:Below W.heap.size W (W1.alloc o):=hb1.trans ((below_new W1 o).mono hb1.size)
 have h2:=h.step hb2
 have hz:=hg.size
 have hzz:=hb2.size
 have hpu:=h.P.push hB hb1 hio hown hg
 have hne:∀ t,vo.ownBlock=some t→B≤t:=fun t ht=>(h.P.lt t ht).1
 have hblk:∀ q,q < (W1.alloc o).heap.size→q≠jb→(∀ t,vo.ownBlock=some t→t≠q)→(W6.setCell ⟨jb,0,none⟩ v').heap[q]?=(W1.alloc o).heap[q]?:=fun q h1 h2 h3=>
  (Below.heap_setCell _ _ _ _ (fun e=>h2 e)).trans (hg.block q h1 (fun e=>h3 q e.symm rfl))
 refine ⟨fun q h3 h4=>?_,?_,?_,?_,fun t ht=>?_,fun i hi t ht=>?_,?_⟩
 · have:=h.s
   refine (hblk q (by omega) (by omega) (fun t ht e=>?_)).trans (h2.K q h3 h4)
   rcases h.xo t ht with h5 | h5 <;> omega
 · refine (h2.L.grown hg (Nat.le_of_lt h2.J.lt) (fun t ht=>by have:=hne t ht;omega)).setCell (p:=⟨jb,0,none⟩) (Nat.le_refl _) _
 · have:=(h2.J.grown hg (fun e=>by have:=hne jb e.symm;omega)).set_ 0 v'
   simpa using this
 · exact hpu.set_ (a:=⟨jb,0,none⟩) hjB v'
 · rcases hat with h5 | h5
   · exact h.xo t (h5 ▸ ht)
   · rw [ht] at h5
     injection h5 with h5
     have:=h.s
     right;omega
 · by_cases e:i < pss.length
   · rw [gd_app_lt (by rw [h.P.len];exact e)] at ht
     exact h.xh i e t ht
   · have e':i=pss.length:=by simp at hi;omega
     subst e'
     rw [←h.P.len,gd_app_eq] at ht
     have h5:=(World.ownsRow.lt hio t ht).1
     have:=h.s
     right;omega
 · have:=h.s
   have e:(W6.setCell ⟨jb,0,none⟩ v').heap.size=W6.heap.size:=by simp [World.setCell]
   omega
theorem JI.last {w W W1 W6:World} {jb B B2:Nat} {vo v v':Value} {hd:List Value} {pss:List (List Int)} {op:Bool} {zs:List Int} {g c:Nat} (h:JI w W jb B B2 vo hd pss op) (hjB:jb < B) (hB:B≤W.heap.size) (hj2:jb < B2) (hn:0 < pss.length) (hvo:vo=.slice (some ⟨g,0,none⟩) pss.length c) (hv:v=hd.getD (pss.length-1) undef)
 (hb1:Below W.heap.size W W1) (hown:W6.ownsRow B 3 1 v' ((gl pss (pss.length-1)).length+zs.length) (zv (gl pss (pss.length-1))++zv zs)) (hg:W1.grownBy W6 v.ownBlock) (hat:v'.ownBlock=v.ownBlock∨v'.ownBlock=some W1.heap.size) :
 JI w (W6.setCell ⟨g,pss.length-1,none⟩ v') jb B B2 vo (hd.set (pss.length-1) v') (lapp zs pss) op:=by
 have h2:=h.step hb1
 have hz:=hg.size
 have hzz:=hb1.size
 have hpu:=h.P.lapp hn hB hvo hv hb1 hown hg hat
 have hlast:=h.P.pc (pss.length-1) (by omega)
 rw [←hv] at hlast
 have hne:∀ t,v.ownBlock=some t→B≤t:=fun t ht=>(World.ownsRow.lt hlast t ht).1
 have hgo:vo.ownBlock=some g:=by rw [hvo];rfl
 have hgB:=(h.P.lt g hgo).1
 have hblk:∀ q,q < W1.heap.size→q≠g→(∀ t,v.ownBlock=some t→t≠q)→(W6.setCell ⟨g,pss.length-1,none⟩ v').heap[q]?=W1.heap[q]?:=fun q h1 h2 h3=>
  (Below.heap_setCell _ _ _ _ (fun e=>h2 e)).trans (hg.block q h1 (fun e=>h3 q e.symm rfl))
 refine ⟨fun q h3 h4=>?_,?_,?_,hpu,h.xo,fun i hi t ht=>?_,?_⟩
 · have:=h.s
   refine (hblk q (by omega) (fun e=>?_) (fun t ht e=>?_)).trans (h2.K q h3 h4)
   · rcases h.xo g hgo with h5 | h5 <;> omega
   · rw [hv] at ht
     rcases h.xh (pss.length-1) (by omega) t ht with h5 | h5 <;> omega
 · exact (h2.L.grown hg (Nat.le_of_lt h2.J.lt) (fun t ht=>by have:=hne t ht;omega)).setCell (p:=⟨g,pss.length-1,none⟩) (by show jb≤g;omega) _
 · exact (Below.heap_setCell _ _ _ _ (fun e=>by have:jb=g:=e;omega)).trans (h2.J.grown hg (fun e=>by have:=hne jb e.symm;omega))
 · have hlen:(lapp zs pss).length=pss.length:=(lapp_gl hn).1
   rw [hlen] at hi
   by_cases e:i=pss.length-1
   · subst e
     rw [List.getD_eq_getElem?_getD,List.getElem?_set_self (by rw [h.P.len];omega)] at ht
     have ht:v'.ownBlock=some t:=ht
     rcases hat with h5 | h5
     · rw [h5,hv] at ht
       exact h.xh (pss.length-1) (by omega) t ht
     · rw [ht] at h5
       injection h5 with h5
       have:=h.s
       right;omega
   · rw [List.getD_eq_getElem?_getD,List.getElem?_set_ne (fun h=>e h.symm),←List.getD_eq_getElem?_getD] at ht
     exact h.xh i hi t ht
 · have:=h.s
   have e:(W6.setCell ⟨g,pss.length-1,none⟩ v').heap.size=W6.heap.size:=by simp [World.setCell]
   omega
def JaPost (jb B:Nat) (pk:List (List Int)) (br:Bool) (w:World) (e:Ending) (w':World):Prop:=e=.returned (.tuple #[])∧Below jb w w'∧∃ vo' hd',Blk w' jb 161 #[vo',.bool br]∧PSt w' B pk vo' hd'
theorem joinAdd_any (pss:List (List Int)) (op:Bool) (ws:List (List Int)) (br:Bool) (jb B B2:Nat) (vo vw:Value) (hd hdw:List Value) (w:World) (hJ:Blk w jb 161 #[vo,.bool op]) (hP:PSt w B pss vo hd) (hjB:jb < B) (hB2:B≤B2) (hBw:B2≤w.heap.size) (hw:PSt w B2 ws vw hdw)
 (hxo:∀ t,vo.ownBlock=some t→t < B2) (hxh:∀ i,i < pss.length→∀ t,(hd.getD i undef).ownBlock=some t→t < B2) (hne:∀ k,k < ws.length→1≤(gl ws k).length∧(gl ws k).length≤1000) (hop:op=true→0 < pss.length) (hn:ws.length≤1000) (hp:pss.length≤100000) (hq:∀ k,(gl pss k).length≤1000000) :
 Calls Tryz.prog 108 #[.pointer (some ⟨jb,0,none⟩),vw,.bool br] w (JaPost jb B (addW pss op ws br ws.length) br w):=by
 obtain ⟨i3,hi3,hz3,hy3,hx3⟩:=info_parts info3
 obtain ⟨i30,hi30,hz30,hy30,hx30⟩:=info_parts info30
 have HW:=Lib.hid hw
 have HNE:=Lib.hid hne
 have HQ:=Lib.hid hq
 have HOP:=Lib.hid hop
 have HJ0:Hid (JI w w jb B B2 vo hd (addW pss op ws br 0) op):=⟨fun _ _ _=>rfl,Below.refl _ _,hJ,hP,fun t ht=>.inl (hxo t ht),fun i hi t ht=>.inl (hxh i hi t ht),Nat.le_refl _⟩
 have HST:Hid (∀ k,addW pss op ws br (k+1)=if k=0∧op=true then lapp (jnC ws br k) (addW pss op ws br k) else addW pss op ws br k++[jnC ws br k]):=(show ∀ k,_ from fun k=>rfl)
 have HLN:Hid (∀ k,(addW pss op ws br k).length≤pss.length+k∧pss.length≤(addW pss op ws br k).length):=(show ∀ k,_ from addW_len pss op ws br)
 have HA0:Hid (addW pss op ws br 0=pss):=rfl
 have HJC:Hid (∀ k,jnC ws br k=if br=true∧k+1=ws.length then (gl ws k).take ((gl ws k).length-1) else gl ws k):=(show ∀ k,_ from fun k=>rfl)
 obtain ⟨Aw,cw,rfl⟩:=hw.shape
 clear hJ hP hw hxo hxh hne hop hq
 generalize hN:ws.length=N at *
 have HN:=Lib.hid hN
 clear hN
 go_enter Tryz.func108,Tryz.ntmps108
 go_wp2_with fail
 go_loopg [11] N (fun gg s11 wr=>∃ (k:Nat) (vo:Value) (hd:List Value),k≤N∧N-k≤gg∧s11=.int .i64 (k:Int)∧Hid (JI w wr jb B B2 vo hd (addW pss op ws br k) op))
 case atStart=>exact ⟨0,_,_,by omega,by omega,rfl,HJ0.out⟩
 case round=>
  obtain ⟨k,vo,hd,hk,hg,rfl,HJ⟩:=hrel
  obtain ⟨hlen1,hlen2⟩:=HLN.out k
  by_cases hlt:k < N
  · have hltz:(k:Int) < (N:Int):=by omega
    have hwk:=HW.out.kx HJ.out.K
    have hlv:=hwk.lv
    obtain ⟨b1,o1,x1,hAw,hbl1,z1,hx1⟩:=LV.elt (k:=k) (show LV wr ws (.slice Aw ws.length cw) from by rw [HN.out];exact hlv) (by rw [HN.out];exact hlt)
    subst hAw
    obtain ⟨hl1,hl2⟩:=HNE.out k hlt
    have HC:=Lib.hid (cloneV (gl ws k) x1 wr hx1 (by omega))
    obtain ⟨Ax,_,_,cx,rfl,-⟩:=hx1.open
    have HJK:=Lib.hid (HJC.out k)
    have HSK:=Lib.hid (HST.out k)
    have hjs:=HJ.out.s
    clear hwk hlv hx1
    generalize hzs:gl ws k=zs at *
    clear hzs
    go_wp2_with fail
    refine HC.out.mono ?_
    rintro e w5 ⟨u,rfl,hio,hb5⟩
    obtain ⟨Au,cu,rfl⟩:=hio.shape
    have HIO:=Lib.hid hio
    have HB5:=Lib.hid hb5
    have HJ5:=Lib.hid (HJ.out.step hb5)
    clear hio hb5 HC z1
    cases br with
    | true=>
     by_cases hke:k+1=N
     · have hkz:(k:Int)=(N:Int)-1:=by omega
       have HZ:Hid (jnC ws true k=zs.take (zs.length-1)):=(show _=_ from by rw [HJK.out,if_pos ⟨rfl,hke⟩])
       have HZI:Hid (IO w5 wr.heap.size (zs.take (zs.length-1)) (.slice Au (zs.length-1) cu)):=IO.take HIO.out (by omega) (by omega)
       have HZL:Hid ((zs.take (zs.length-1)).length=zs.length-1):=(show _=_ by rw [List.length_take];omega)
       have hlz:((zs.length:Nat):Int)-1=((zs.length-1:Nat):Int):=by omega
       have hcu:zs.length≤cu:=by
        obtain ⟨A',b',o',c',e,_,_,h1,_⟩:=(HIO.out.iv).open
        injection e with e1 e2 e3
        omega
       have hcz:((zs.length-1:Nat):Int)≤(cu:Int):=by omega
       have HKZ:=Lib.hid hkz
       go_upto_region 6 with fail
       rw [←HKZ.out]
       clear hkz hcu hcz hlz
       obtain ⟨zz,hzz⟩:∃ zz,zs.take (zs.length-1)=zz:=⟨_,rfl⟩
       rw [hzz] at HZI HZ HZL
       obtain ⟨nz,hnz⟩:∃ nz,zs.length-1=nz:=⟨_,rfl⟩
       have HZZ:Hid (IO w5 wr.heap.size zz (.slice Au nz cu)):=(show IO _ _ _ _ from by rw [←hnz];exact HZI.out)
       have HZL:Hid (zz.length=nz):=(show _=_ from by rw [←hnz];exact HZL.out)
       have hl2:nz≤1000:=by omega
       rw [hnz]
       clear hzz hnz HIO HZI
       generalize hpk:addW pss op ws true k=pk at *
       obtain ⟨Ao,co,hvo⟩:=HJ5.out.P.shape
       subst hvo
       have HZN:Hid (nz≤1000):=hl2
       have j0:=HJ5.out.J.cell 0
       have j1:=HJ5.out.J.cell 1
       have jl:=HJ5.out.J.lt
       have HLQ:Hid (pk.length≤pss.length+k∧pss.length≤pk.length):=⟨hlen1,hlen2⟩
       have HPK:=Lib.hid hpk
       clear hpk hlen1 hlen2
       have HPUSH:Hid (∀ v' W6,W6.ownsRow B 34 1 v' (pk.length+1) (hd++[.slice Au nz cu])→(w5.alloc (.cells #[.slice Au nz cu] 34)).grownBy W6 (Value.slice Ao pk.length co).ownBlock→(v'.ownBlock=(Value.slice Ao pk.length co).ownBlock∨v'.ownBlock=some (w5.alloc (.cells #[.slice Au nz cu] 34)).heap.size)→JI w (W6.setCell ⟨jb,0,none⟩ v') jb B B2 v' (hd++[.slice Au nz cu]) (pk++[zz]) op):=(show ∀ v' W6,_ from fun v' W6 h1 h2 h3=>HJ.out.push hjB (by omega) (by omega) HB5.out HZZ.out h1 h2 h3)
       by_cases hko:k=0∧op=true
       · obtain ⟨rfl,rfl⟩:=hko
         have HSE:Hid (addW pss true ws true 1=lapp zz pk):=(show _=_ from by rw [HSK.out,if_pos ⟨rfl,rfl⟩,HZ.out])
         have hpk0:pk=pss:=HPK.out.symm.trans HA0.out
         have hp0:0 < pk.length:=by rw [hpk0];exact HOP.out rfl
         obtain ⟨g,c,vl,hvo,hBg,hgl,hgc,hgf,hvl,hvle⟩:=HJ5.out.P.last hp0
         have hlq:=HQ.out (pk.length-1)
         rw [←hpk0] at hlq
         obtain ⟨q,hq⟩:∃ q,pk.length=q+1:=⟨pk.length-1,by omega⟩
         rw [hq] at hvo
         injection hvo with e1 e2 e3
         subst e1 e3
         have e4:pk.length-1=q:=by omega
         have HQE:=Lib.hid hq
         rw [e4] at hgc hgf hvl hvle hlq
         have HVL:=Lib.hid hvl
         have HVLE:=Lib.hid hvle
         obtain ⟨Al,cl,rfl⟩:=hvl.shape
         have HGNE:Hid (some g≠(Value.slice Al (gl pk q).length cl).ownBlock):=(show _≠_ from fun e=>by
          rcases own_ne HJ5.out.P.row HVL.out (by decide) with h | h
          · cases h
          · exact h e)
         have hsub:((q+1:Nat):Int)-1=(q:Int):=by omega
         have hq0:(0:Int)≤(q:Int):=by omega
         have hq1:(q:Int) < (q:Int)+1:=by omega
         have HWQ:Hid (wrap64 (q:Int)=(q:Int)):=IntWalk.wrap64_in _ (by have:=HLQ.out;omega)
         have HGC:Hid (∀ W,Below w5.heap.size w5 W→W.cell? ⟨jb,0,none⟩=some (.slice (some ⟨g,0,none⟩) (q+1) co)∧W.cell? ⟨g,q,none⟩=some (.slice Al (gl pk q).length cl)):=(show ∀ W,_ from fun W hW=>⟨by rw [←HQE.out];exact (HJ5.out.J.below hW HJ5.out.J.lt).cell 0,(hW.cell (p:=⟨g,q,none⟩) hgl).trans hgc⟩)
         have HGL:=Lib.hid hgl
         have HGF:=Lib.hid hgf
         rw [hq] at j0
         generalize hln:(gl pk q).length=ln at *
         have HLNN:=Lib.hid hln
         clear hpk0 e4 hvl hvle hq hln e2
         go_wp2_with fail
         go_upto_region 8 with fail
         have hbd:Below w5.heap.size w5 w5.drew:=(Below.refl _ _).drew
         have hS0:=HGC.out _ hbd
         have hwq:=HWQ.out
         refine wp_region_split (fun W=>(W.cell? ⟨jb,0,none⟩=some (.slice (some ⟨g,0,none⟩) (q+1) co)∧W.cell? ⟨g,q,none⟩=some (.slice Al ln cl))) 15 (by kernel_rfl) (by decide) ?_
         refine wpG_take 15 0 (v:=?_) rfl (by kernel_rfl) (fun _ _ _ h=>h) (Or.inl ⟨by rfl,?_⟩) (by assumption) ?_
         rotate_left
         · intro w hSw;(try dsimp only at hSw);go_simp;(try with_reducible rfl)
         (try simp only [pz])
         refine wpG_take 15 1 (v:=?_) rfl (by kernel_rfl) (fun _ _ _ h=>h) (Or.inl ⟨by rfl,?_⟩) (by assumption) ?_
         rotate_left
         · intro w hSw;(try dsimp only at hSw);go_simp;(try with_reducible rfl)
         (try simp only [pz])
         refine wpG_take 15 2 (v:=?_) rfl (by kernel_rfl) (fun _ _ _ h=>h) (Or.inl ⟨by rfl,?_⟩) (by assumption) ?_
         rotate_left
         · intro w hSw;(try dsimp only at hSw);go_simp;(try with_reducible rfl)
         (try simp only [pz])
         refine wpG_take 15 3 (v:=?_) rfl (by kernel_rfl) (fun _ _ _ h=>h) (Or.inl ⟨by rfl,?_⟩) (by assumption) ?_
         rotate_left
         · intro w hSw;(try dsimp only at hSw);go_simp;(try with_reducible rfl)
         (try simp only [pz])
         refine wpG_take 15 4 (v:=?_) rfl (by kernel_rfl) (fun _ _ _ h=>h) (Or.inl ⟨by rfl,?_⟩) (by assumption) ?_
         rotate_left
         · intro w hSw;(try dsimp only at hSw);go_simp;(try with_reducible rfl)
         (try simp only [pz])
         refine wpG_take 15 5 (v:=?_) rfl (by kernel_rfl) (fun _ _ _ h=>h) (Or.inl ⟨by rfl,?_⟩) (by assumption) ?_
         rotate_left
         · intro w hSw;(try dsimp only at hSw);go_simp;(try with_reducible rfl)
         (try simp only [pz])
         refine wpG_take 15 6 (v:=?_) rfl (by kernel_rfl) (fun _ _ _ h=>h) (Or.inl ⟨by rfl,?_⟩) (by assumption) ?_
         rotate_left
         · intro w hSw;(try dsimp only at hSw);go_simp;(try with_reducible rfl)
         (try simp only [pz])
         refine wpG_take 15 7 (v:=?_) rfl (by kernel_rfl) (fun _ _ _ h=>h) (Or.inl ⟨by rfl,?_⟩) (by assumption) ?_
         rotate_left
         · intro w hSw;(try dsimp only at hSw);go_simp;(try with_reducible rfl)
         (try simp only [pz])
         refine wpG_take 15 8 (v:=?_) rfl (by kernel_rfl) (fun _ _ _ h=>h) (Or.inl ⟨by rfl,?_⟩) (by assumption) ?_
         rotate_left
         · intro w hSw;(try dsimp only at hSw);go_simp;(try with_reducible rfl)
         (try simp only [pz])
         refine wpG_take 15 9 (v:=?_) rfl (by kernel_rfl) (fun _ _ _ h=>h) (Or.inl ⟨by rfl,?_⟩) (by assumption) ?_
         rotate_left
         · intro w hSw;(try dsimp only at hSw);go_simp;(try with_reducible rfl)
         (try simp only [pz])
         refine wpG_take 15 10 (v:=?_) rfl (by kernel_rfl) (fun _ _ _ h=>h) (Or.inl ⟨by rfl,?_⟩) (by assumption) ?_
         rotate_left
         · intro w hSw;(try dsimp only at hSw);go_simp;(try with_reducible rfl)
         (try simp only [pz])
         refine wpG_take 15 11 (v:=?_) rfl (by kernel_rfl) (fun _ _ _ h=>h) (Or.inl ⟨by rfl,?_⟩) (by assumption) ?_
         rotate_left
         · intro w hSw;(try dsimp only at hSw);go_simp;(try with_reducible rfl)
         (try simp only [pz])
         refine wpG_take 15 12 (v:=?_) rfl (by kernel_rfl) (fun _ _ _ h=>h) (Or.inl ⟨by rfl,?_⟩) (by assumption) ?_
         rotate_left
         · intro w hSw;(try dsimp only at hSw);go_simp;(try with_reducible rfl)
         (try simp only [pz])
         clear hwq
         refine wpG_one (i:=13) (by kernel_rfl) ?_
         refine wpOp_step rfl (fun K hK=>?_)
         obtain ⟨AE,bE,oE,cE,hEe,hLE,hZE,-,-⟩:=((HZZ.out.below hbd).iv).open
         have hEe:=hEe
         injection hEe with f1 f2 f3
         subst f1
         have hown0:World.ownsRow w5.drew B 3 1 (.slice Al ln cl) ln (zv (gl pk q)):=(HVL.out.below hbd) |> fun h=>(by have h2:World.ownsRow w5.drew B 3 1 (.slice Al ln cl) (gl pk q).length (zv (gl pk q)):=h;rwa [HLNN.out] at h2)
         refine step_app rfl _ _ 34 rfl B 3 i3 _ 1 8 Tryz.underlying34 hi3 hz3 hy3 hx3 rfl (by omega) (.slice Al ln cl) ln (zv (gl pk q)) (by rfl) hown0 Au bE oE nz cu (zv zz) (by rfl) (by rw [zv_len,HZL.out]) (HZL.out ▸ hLE) (fun j hj=>hZE.news j (by rw [HZL.out];exact hj)) (zv_one zz) (by simp only [maxLen];have:=HZN.out;omega) (by have:=HZN.out;omega) (by have:=hbd.size;have:=HB5.out.size;omega) ?_
         intro v6 W6 hown6 hg6 hat6
         have HLAST:Hid (JI w (W6.setCell ⟨g,q,none⟩ v6) jb B B2 (.slice (some ⟨g,0,none⟩) pk.length co) (hd.set q v6) (lapp zz pk) true):=(show JI _ _ _ _ _ _ _ _ _ from by
          have h1:=HJ.out.last (W1:=w5.drew) (W6:=W6) (zs:=zz) (v:=.slice Al ln cl) (v':=v6) (g:=g) (c:=co) hjB (by omega) (by omega) hp0 rfl (by rw [show pk.length-1=q from by have:=HQE.out;omega];exact HVLE.out) (HB5.out.trans (hbd.mono HB5.out.size)) (by rw [show pk.length-1=q from by have:=HQE.out;omega,HLNN.out,HZL.out];exact hown6) hg6 hat6
          rw [show pk.length-1=q from by have:=HQE.out;omega] at h1
          exact h1)
         have y2:=(hg6.cell_far ⟨g,q,none⟩ (by show g < w5.heap.size;exact HGL.out) HGNE.out).trans (HGC.out _ hbd).2
         have y2f:W6.frozen? ⟨g,q,none⟩=false:=(hg6.frozen_far ⟨g,q,none⟩ (by show g < w5.heap.size;exact HGL.out) HGNE.out).trans HGF.out
         have y2l:g < W6.heap.size:=Nat.lt_of_lt_of_le HGL.out hg6.size
         have HN6:Hid (W6.cell? ⟨jb,0,none⟩=some (.slice (some ⟨g,0,none⟩) (q+1) co)):=(hg6.cell_far ⟨jb,0,none⟩ (by show jb < w5.heap.size;exact jl) (fun e=>by have:=(World.ownsRow.lt hown0 jb e.symm).1;omega)).trans (HGC.out _ hbd).1
         have n6:W6.cell? ⟨jb,0,none⟩=some (.slice (some ⟨g,0,none⟩) (q+1) co)∧W6.cell? ⟨g,q,none⟩=some (.slice Al ln cl):=⟨(hg6.cell_far ⟨jb,0,none⟩ (by show jb < w5.heap.size;exact jl) (fun e=>by have:=(World.ownsRow.lt hown0 jb e.symm).1;omega)).trans (HGC.out _ hbd).1,y2⟩
         obtain ⟨A6,c6,rfl⟩:∃ A6 c6,v6=.slice A6 (ln+nz) c6:=by
          rcases hown6.2 with ⟨e,h0⟩ | ⟨g',cap',cur',e,_⟩
          · exact ⟨none,0,by rw [e,h0]⟩
          · exact ⟨_,_,e⟩
         refine hK _ _ ⟨n6,?_⟩
         clear hK K hS0 hbd hown6 hg6 hat6 hown0 hLE hZE
         (try simp only [pz])
         have hwq:=HWQ.out
         refine wpG_take 15 14 (v:=?_) rfl (by kernel_rfl) (fun _ _ _ h=>h) (Or.inl ⟨by rfl,?_⟩) (by assumption) ?_
         rotate_left
         · intro w hSw;(try dsimp only at hSw);go_simp;(try with_reducible rfl)
         (try simp only [pz])
         clear hwq n6
         refine ⟨by kernel_rfl,?_⟩
         simp only [List.drop_succ_cons,List.drop_zero]
         go_wp2_with fail
         go_roundg (N-(0+1))
         case measure=>omega
         case rel=>exact ⟨0+1,_,_,by omega,by omega,by go_num,(show JI _ _ _ _ _ _ _ _ _ from by rw [HSE.out];exact HLAST.out)⟩
       · have HSE:Hid (addW pss op ws true (k+1)=pk++[zz]):=(show _=_ from by rw [HSK.out,if_neg hko,HZ.out])
         have HKO:=Lib.hid hko
         have hb6:=below_new w5 (.cells #[.slice Au nz cu] 34)
         have hrow:=(HJ5.out.P.below hb6).row
         have hnews:∀ j u,[Value.slice Au nz cu][j]?=some u→(w5.alloc (.cells #[.slice Au nz cu] 34)).cell? ((⟨w5.heap.size,0,none⟩:Addr).add j)=some u:=World.news_of_block (w:=w5.alloc (.cells #[.slice Au nz cu] 34)) (heap_alloc_new w5 _)
         have hbz:B≤(w5.alloc (.cells #[.slice Au nz cu] 34)).heap.size:=by have:=HB5.out.size;have:=hb6.size;omega
         have hpl:pk.length≤101000:=by have:=HLQ.out;omega
         have HJ6:=Lib.hid (HJ5.out.J.below hb6 jl)
         have HJL:=Lib.hid jl
         have HGO:Hid ((k=0∧op=false)∨¬k=0):=(show _∨_ from by
          by_cases h:k=0
          · left;refine ⟨h,?_⟩;cases op with | false=>rfl | true=>exact absurd ⟨h,rfl⟩ hko
          · exact .inr h)
         clear hko HKO
         rcases HGO.out with ⟨hk0,rfl⟩ | hk0
         all_goals
          (go_upto_region 9 with fail
           go_wp2_with ((at_builtin
                         refine wpList_append_lies _ rfl _ _ 86 (by rfl) B 34 i30 _ 1 24 Tryz.underlying86 hi30 hz30 hy30 hx30 rfl (by omega) _ pk.length hd (by rfl) hrow ⟨w5.heap.size,0,none⟩ 1 1 [.slice Au nz cu] (by rfl) (by rfl) hnews (by simp [Value.oneCell']) (by omega) (by simp only [maxLen];omega) (by omega) hbz _ rfl ?_
                         intro g6 cap6 w6 hown hgrow hat hlt6
                         have HJP:=Lib.hid (HPUSH.out _ _ hown hgrow (by rcases hat with h | h;exact .inl h.symm;exact .inr (by rw [h,ownBlock_some,World.size_alloc])))
                         have HO6:=Lib.hid (HJ6.out.grown hgrow (fun e=>by have:=(World.ownsRow.lt hrow jb e.symm).1;omega))
                         have o6:=HO6.out.cell 0
                         have o6f:=Blk.frozen HO6.out 0
                         have o6l:=HO6.out.lt
                         clear hnews hown hgrow hat hlt6 hrow))
           go_roundg (N-(k+1))
           case measure=>omega
           case rel=>exact ⟨k+1,_,_,by omega,by omega,by go_num,(show JI _ _ _ _ _ _ _ _ _ from by rw [HSE.out];exact HJP.out)⟩)
     · have hkz:¬(k:Int)=(N:Int)-1:=by omega
       have HZ:Hid (jnC ws true k=zs):=(show _=_ from by rw [HJK.out,if_neg (fun h=>hke h.2)])
       have HZZ:Hid (IO w5 wr.heap.size zs (.slice Au zs.length cu)):=HIO.out
       obtain ⟨zz,hzz⟩:∃ zz,zs=zz:=⟨_,rfl⟩
       rw [hzz] at HZZ HZ
       obtain ⟨nz,hnz⟩:∃ nz,zs.length=nz:=⟨_,rfl⟩
       have HZL:Hid (zz.length=nz):=(show _=_ from by rw [←hzz];exact hnz)
       have HZZ:Hid (IO w5 wr.heap.size zz (.slice Au nz cu)):=(show IO _ _ _ _ from by rw [←HZL.out];exact HZZ.out)
       rw [hnz] at hl1 hl2 ⊢
       clear hzz hnz HIO
       go_upto_region 6 with fail
       generalize hpk:addW pss op ws true k=pk at *
       obtain ⟨Ao,co,hvo⟩:=HJ5.out.P.shape
       subst hvo
       have HZN:Hid (nz≤1000):=hl2
       have j0:=HJ5.out.J.cell 0
       have j1:=HJ5.out.J.cell 1
       have jl:=HJ5.out.J.lt
       have HLQ:Hid (pk.length≤pss.length+k∧pss.length≤pk.length):=⟨hlen1,hlen2⟩
       have HPK:=Lib.hid hpk
       clear hpk hlen1 hlen2
       have HPUSH:Hid (∀ v' W6,W6.ownsRow B 34 1 v' (pk.length+1) (hd++[.slice Au nz cu])→(w5.alloc (.cells #[.slice Au nz cu] 34)).grownBy W6 (Value.slice Ao pk.length co).ownBlock→(v'.ownBlock=(Value.slice Ao pk.length co).ownBlock∨v'.ownBlock=some (w5.alloc (.cells #[.slice Au nz cu] 34)).heap.size)→JI w (W6.setCell ⟨jb,0,none⟩ v') jb B B2 v' (hd++[.slice Au nz cu]) (pk++[zz]) op):=(show ∀ v' W6,_ from fun v' W6 h1 h2 h3=>HJ.out.push hjB (by omega) (by omega) HB5.out HZZ.out h1 h2 h3)
       by_cases hko:k=0∧op=true
       · obtain ⟨rfl,rfl⟩:=hko
         have HSE:Hid (addW pss true ws true 1=lapp zz pk):=(show _=_ from by rw [HSK.out,if_pos ⟨rfl,rfl⟩,HZ.out])
         have hpk0:pk=pss:=HPK.out.symm.trans HA0.out
         have hp0:0 < pk.length:=by rw [hpk0];exact HOP.out rfl
         obtain ⟨g,c,vl,hvo,hBg,hgl,hgc,hgf,hvl,hvle⟩:=HJ5.out.P.last hp0
         have hlq:=HQ.out (pk.length-1)
         rw [←hpk0] at hlq
         obtain ⟨q,hq⟩:∃ q,pk.length=q+1:=⟨pk.length-1,by omega⟩
         rw [hq] at hvo
         injection hvo with e1 e2 e3
         subst e1 e3
         have e4:pk.length-1=q:=by omega
         have HQE:=Lib.hid hq
         rw [e4] at hgc hgf hvl hvle hlq
         have HVL:=Lib.hid hvl
         have HVLE:=Lib.hid hvle
         obtain ⟨Al,cl,rfl⟩:=hvl.shape
         have HGNE:Hid (some g≠(Value.slice Al (gl pk q).length cl).ownBlock):=(show _≠_ from fun e=>by
          rcases own_ne HJ5.out.P.row HVL.out (by decide) with h | h
          · cases h
          · exact h e)
         have hsub:((q+1:Nat):Int)-1=(q:Int):=by omega
         have hq0:(0:Int)≤(q:Int):=by omega
         have hq1:(q:Int) < (q:Int)+1:=by omega
         have HWQ:Hid (wrap64 (q:Int)=(q:Int)):=IntWalk.wrap64_in _ (by have:=HLQ.out;omega)
         have HGC:Hid (∀ W,Below w5.heap.size w5 W→W.cell? ⟨jb,0,none⟩=some (.slice (some ⟨g,0,none⟩) (q+1) co)∧W.cell? ⟨g,q,none⟩=some (.slice Al (gl pk q).length cl)):=(show ∀ W,_ from fun W hW=>⟨by rw [←HQE.out];exact (HJ5.out.J.below hW HJ5.out.J.lt).cell 0,(hW.cell (p:=⟨g,q,none⟩) hgl).trans hgc⟩)
         have HGL:=Lib.hid hgl
         have HGF:=Lib.hid hgf
         rw [hq] at j0
         generalize hln:(gl pk q).length=ln at *
         have HLNN:=Lib.hid hln
         clear hpk0 e4 hvl hvle hq hln e2
         go_wp2_with fail
         go_upto_region 8 with fail
         have hbd:Below w5.heap.size w5 w5.drew:=(Below.refl _ _).drew
         have hS0:=HGC.out _ hbd
         have hwq:=HWQ.out
         refine wp_region_split (fun W=>(W.cell? ⟨jb,0,none⟩=some (.slice (some ⟨g,0,none⟩) (q+1) co)∧W.cell? ⟨g,q,none⟩=some (.slice Al ln cl))) 15 (by kernel_rfl) (by decide) ?_
         refine wpG_take 15 0 (v:=?_) rfl (by kernel_rfl) (fun _ _ _ h=>h) (Or.inl ⟨by rfl,?_⟩) (by assumption) ?_
         rotate_left
         · intro w hSw;(try dsimp only at hSw);go_simp;(try with_reducible rfl)
         (try simp only [pz])
         refine wpG_take 15 1 (v:=?_) rfl (by kernel_rfl) (fun _ _ _ h=>h) (Or.inl ⟨by rfl,?_⟩) (by assumption) ?_
         rotate_left
         · intro w hSw;(try dsimp only at hSw);go_simp;(try with_reducible rfl)
         (try simp only [pz])
         refine wpG_take 15 2 (v:=?_) rfl (by kernel_rfl) (fun _ _ _ h=>h) (Or.inl ⟨by rfl,?_⟩) (by assumption) ?_
         rotate_left
         · intro w hSw;(try dsimp only at hSw);go_simp;(try with_reducible rfl)
         (try simp only [pz])
         refine wpG_take 15 3 (v:=?_) rfl (by kernel_rfl) (fun _ _ _ h=>h) (Or.inl ⟨by rfl,?_⟩) (by assumption) ?_
         rotate_left
         · intro w hSw;(try dsimp only at hSw);go_simp;(try with_reducible rfl)
         (try simp only [pz])
         refine wpG_take 15 4 (v:=?_) rfl (by kernel_rfl) (fun _ _ _ h=>h) (Or.inl ⟨by rfl,?_⟩) (by assumption) ?_
         rotate_left
         · intro w hSw;(try dsimp only at hSw);go_simp;(try with_reducible rfl)
         (try simp only [pz])
         refine wpG_take 15 5 (v:=?_) rfl (by kernel_rfl) (fun _ _ _ h=>h) (Or.inl ⟨by rfl,?_⟩) (by assumption) ?_
         rotate_left
         · intro w hSw;(try dsimp only at hSw);go_simp;(try with_reducible rfl)
         (try simp only [pz])
         refine wpG_take 15 6 (v:=?_) rfl (by kernel_rfl) (fun _ _ _ h=>h) (Or.inl ⟨by rfl,?_⟩) (by assumption) ?_
         rotate_left
         · intro w hSw;(try dsimp only at hSw);go_simp;(try with_reducible rfl)
         (try simp only [pz])
         refine wpG_take 15 7 (v:=?_) rfl (by kernel_rfl) (fun _ _ _ h=>h) (Or.inl ⟨by rfl,?_⟩) (by assumption) ?_
         rotate_left
         · intro w hSw;(try dsimp only at hSw);go_simp;(try with_reducible rfl)
         (try simp only [pz])
         refine wpG_take 15 8 (v:=?_) rfl (by kernel_rfl) (fun _ _ _ h=>h) (Or.inl ⟨by rfl,?_⟩) (by assumption) ?_
         rotate_left
         · intro w hSw;(try dsimp only at hSw);go_simp;(try with_reducible rfl)
         (try simp only [pz])
         refine wpG_take 15 9 (v:=?_) rfl (by kernel_rfl) (fun _ _ _ h=>h) (Or.inl ⟨by rfl,?_⟩) (by assumption) ?_
         rotate_left
         · intro w hSw;(try dsimp only at hSw);go_simp;(try with_reducible rfl)
         (try simp only [pz])
         refine wpG_take 15 10 (v:=?_) rfl (by kernel_rfl) (fun _ _ _ h=>h) (Or.inl ⟨by rfl,?_⟩) (by assumption) ?_
         rotate_left
         · intro w hSw;(try dsimp only at hSw);go_simp;(try with_reducible rfl)
         (try simp only [pz])
         refine wpG_take 15 11 (v:=?_) rfl (by kernel_rfl) (fun _ _ _ h=>h) (Or.inl ⟨by rfl,?_⟩) (by assumption) ?_
         rotate_left
         · intro w hSw;(try dsimp only at hSw);go_simp;(try with_reducible rfl)
         (try simp only [pz])
         refine wpG_take 15 12 (v:=?_) rfl (by kernel_rfl) (fun _ _ _ h=>h) (Or.inl ⟨by rfl,?_⟩) (by assumption) ?_
         rotate_left
         · intro w hSw;(try dsimp only at hSw);go_simp;(try with_reducible rfl)
         (try simp only [pz])
         clear hwq
         refine wpG_one (i:=13) (by kernel_rfl) ?_
         refine wpOp_step rfl (fun K hK=>?_)
         obtain ⟨AE,bE,oE,cE,hEe,hLE,hZE,-,-⟩:=((HZZ.out.below hbd).iv).open
         have hEe:=hEe
         injection hEe with f1 f2 f3
         subst f1
         have hown0:World.ownsRow w5.drew B 3 1 (.slice Al ln cl) ln (zv (gl pk q)):=(HVL.out.below hbd) |> fun h=>(by have h2:World.ownsRow w5.drew B 3 1 (.slice Al ln cl) (gl pk q).length (zv (gl pk q)):=h;rwa [HLNN.out] at h2)
         refine step_app rfl _ _ 34 rfl B 3 i3 _ 1 8 Tryz.underlying34 hi3 hz3 hy3 hx3 rfl (by omega) (.slice Al ln cl) ln (zv (gl pk q)) (by rfl) hown0 Au bE oE nz cu (zv zz) (by rfl) (by rw [zv_len,HZL.out]) (HZL.out ▸ hLE) (fun j hj=>hZE.news j (by rw [HZL.out];exact hj)) (zv_one zz) (by simp only [maxLen];have:=HZN.out;omega) (by have:=HZN.out;omega) (by have:=hbd.size;have:=HB5.out.size;omega) ?_
         intro v6 W6 hown6 hg6 hat6
         have HLAST:Hid (JI w (W6.setCell ⟨g,q,none⟩ v6) jb B B2 (.slice (some ⟨g,0,none⟩) pk.length co) (hd.set q v6) (lapp zz pk) true):=(show JI _ _ _ _ _ _ _ _ _ from by
          have h1:=HJ.out.last (W1:=w5.drew) (W6:=W6) (zs:=zz) (v:=.slice Al ln cl) (v':=v6) (g:=g) (c:=co) hjB (by omega) (by omega) hp0 rfl (by rw [show pk.length-1=q from by have:=HQE.out;omega];exact HVLE.out) (HB5.out.trans (hbd.mono HB5.out.size)) (by rw [show pk.length-1=q from by have:=HQE.out;omega,HLNN.out,HZL.out];exact hown6) hg6 hat6
          rw [show pk.length-1=q from by have:=HQE.out;omega] at h1
          exact h1)
         have y2:=(hg6.cell_far ⟨g,q,none⟩ (by show g < w5.heap.size;exact HGL.out) HGNE.out).trans (HGC.out _ hbd).2
         have y2f:W6.frozen? ⟨g,q,none⟩=false:=(hg6.frozen_far ⟨g,q,none⟩ (by show g < w5.heap.size;exact HGL.out) HGNE.out).trans HGF.out
         have y2l:g < W6.heap.size:=Nat.lt_of_lt_of_le HGL.out hg6.size
         have HN6:Hid (W6.cell? ⟨jb,0,none⟩=some (.slice (some ⟨g,0,none⟩) (q+1) co)):=(hg6.cell_far ⟨jb,0,none⟩ (by show jb < w5.heap.size;exact jl) (fun e=>by have:=(World.ownsRow.lt hown0 jb e.symm).1;omega)).trans (HGC.out _ hbd).1
         have n6:W6.cell? ⟨jb,0,none⟩=some (.slice (some ⟨g,0,none⟩) (q+1) co)∧W6.cell? ⟨g,q,none⟩=some (.slice Al ln cl):=⟨(hg6.cell_far ⟨jb,0,none⟩ (by show jb < w5.heap.size;exact jl) (fun e=>by have:=(World.ownsRow.lt hown0 jb e.symm).1;omega)).trans (HGC.out _ hbd).1,y2⟩
         obtain ⟨A6,c6,rfl⟩:∃ A6 c6,v6=.slice A6 (ln+nz) c6:=by
          rcases hown6.2 with ⟨e,h0⟩ | ⟨g',cap',cur',e,_⟩
          · exact ⟨none,0,by rw [e,h0]⟩
          · exact ⟨_,_,e⟩
         refine hK _ _ ⟨n6,?_⟩
         clear hK K hS0 hbd hown6 hg6 hat6 hown0 hLE hZE
         (try simp only [pz])
         have hwq:=HWQ.out
         refine wpG_take 15 14 (v:=?_) rfl (by kernel_rfl) (fun _ _ _ h=>h) (Or.inl ⟨by rfl,?_⟩) (by assumption) ?_
         rotate_left
         · intro w hSw;(try dsimp only at hSw);go_simp;(try with_reducible rfl)
         (try simp only [pz])
         clear hwq n6
         refine ⟨by kernel_rfl,?_⟩
         simp only [List.drop_succ_cons,List.drop_zero]
         go_wp2_with fail
         go_roundg (N-(0+1))
         case measure=>omega
         case rel=>exact ⟨0+1,_,_,by omega,by omega,by go_num,(show JI _ _ _ _ _ _ _ _ _ from by rw [HSE.out];exact HLAST.out)⟩
       · have HSE:Hid (addW pss op ws true (k+1)=pk++[zz]):=(show _=_ from by rw [HSK.out,if_neg hko,HZ.out])
         have HKO:=Lib.hid hko
         have hb6:=below_new w5 (.cells #[.slice Au nz cu] 34)
         have hrow:=(HJ5.out.P.below hb6).row
         have hnews:∀ j u,[Value.slice Au nz cu][j]?=some u→(w5.alloc (.cells #[.slice Au nz cu] 34)).cell? ((⟨w5.heap.size,0,none⟩:Addr).add j)=some u:=World.news_of_block (w:=w5.alloc (.cells #[.slice Au nz cu] 34)) (heap_alloc_new w5 _)
         have hbz:B≤(w5.alloc (.cells #[.slice Au nz cu] 34)).heap.size:=by have:=HB5.out.size;have:=hb6.size;omega
         have hpl:pk.length≤101000:=by have:=HLQ.out;omega
         have HJ6:=Lib.hid (HJ5.out.J.below hb6 jl)
         have HJL:=Lib.hid jl
         have HGO:Hid ((k=0∧op=false)∨¬k=0):=(show _∨_ from by
          by_cases h:k=0
          · left;refine ⟨h,?_⟩;cases op with | false=>rfl | true=>exact absurd ⟨h,rfl⟩ hko
          · exact .inr h)
         clear hko HKO
         rcases HGO.out with ⟨hk0,rfl⟩ | hk0
         all_goals
          (go_upto_region 9 with fail
           go_wp2_with ((at_builtin
                         refine wpList_append_lies _ rfl _ _ 86 (by rfl) B 34 i30 _ 1 24 Tryz.underlying86 hi30 hz30 hy30 hx30 rfl (by omega) _ pk.length hd (by rfl) hrow ⟨w5.heap.size,0,none⟩ 1 1 [.slice Au nz cu] (by rfl) (by rfl) hnews (by simp [Value.oneCell']) (by omega) (by simp only [maxLen];omega) (by omega) hbz _ rfl ?_
                         intro g6 cap6 w6 hown hgrow hat hlt6
                         have HJP:=Lib.hid (HPUSH.out _ _ hown hgrow (by rcases hat with h | h;exact .inl h.symm;exact .inr (by rw [h,ownBlock_some,World.size_alloc])))
                         have HO6:=Lib.hid (HJ6.out.grown hgrow (fun e=>by have:=(World.ownsRow.lt hrow jb e.symm).1;omega))
                         have o6:=HO6.out.cell 0
                         have o6f:=Blk.frozen HO6.out 0
                         have o6l:=HO6.out.lt
                         clear hnews hown hgrow hat hlt6 hrow))
           go_roundg (N-(k+1))
           case measure=>omega
           case rel=>exact ⟨k+1,_,_,by omega,by omega,by go_num,(show JI _ _ _ _ _ _ _ _ _ from by rw [HSE.out];exact HJP.out)⟩)
    | false=>
     have HZ:Hid (jnC ws false k=zs):=(show _=_ from by rw [HJK.out,if_neg (fun h=>by cases h.1)])
     have HZZ:Hid (IO w5 wr.heap.size zs (.slice Au zs.length cu)):=HIO.out
     obtain ⟨zz,hzz⟩:∃ zz,zs=zz:=⟨_,rfl⟩
     rw [hzz] at HZZ HZ
     obtain ⟨nz,hnz⟩:∃ nz,zs.length=nz:=⟨_,rfl⟩
     have HZL:Hid (zz.length=nz):=(show _=_ from by rw [←hzz];exact hnz)
     have HZZ:Hid (IO w5 wr.heap.size zz (.slice Au nz cu)):=(show IO _ _ _ _ from by rw [←HZL.out];exact HZZ.out)
     rw [hnz] at hl1 hl2 ⊢
     clear hzz hnz HIO
     go_upto_region 6 with fail
     generalize hpk:addW pss op ws false k=pk at *
     obtain ⟨Ao,co,hvo⟩:=HJ5.out.P.shape
     subst hvo
     have HZN:Hid (nz≤1000):=hl2
     have j0:=HJ5.out.J.cell 0
     have j1:=HJ5.out.J.cell 1
     have jl:=HJ5.out.J.lt
     have HLQ:Hid (pk.length≤pss.length+k∧pss.length≤pk.length):=⟨hlen1,hlen2⟩
     have HPK:=Lib.hid hpk
     clear hpk hlen1 hlen2
     have HPUSH:Hid (∀ v' W6,W6.ownsRow B 34 1 v' (pk.length+1) (hd++[.slice Au nz cu])→(w5.alloc (.cells #[.slice Au nz cu] 34)).grownBy W6 (Value.slice Ao pk.length co).ownBlock→(v'.ownBlock=(Value.slice Ao pk.length co).ownBlock∨v'.ownBlock=some (w5.alloc (.cells #[.slice Au nz cu] 34)).heap.size)→JI w (W6.setCell ⟨jb,0,none⟩ v') jb B B2 v' (hd++[.slice Au nz cu]) (pk++[zz]) op):=(show ∀ v' W6,_ from fun v' W6 h1 h2 h3=>HJ.out.push hjB (by omega) (by omega) HB5.out HZZ.out h1 h2 h3)
     by_cases hko:k=0∧op=true
     · obtain ⟨rfl,rfl⟩:=hko
       have HSE:Hid (addW pss true ws false 1=lapp zz pk):=(show _=_ from by rw [HSK.out,if_pos ⟨rfl,rfl⟩,HZ.out])
       have hpk0:pk=pss:=HPK.out.symm.trans HA0.out
       have hp0:0 < pk.length:=by rw [hpk0];exact HOP.out rfl
       obtain ⟨g,c,vl,hvo,hBg,hgl,hgc,hgf,hvl,hvle⟩:=HJ5.out.P.last hp0
       have hlq:=HQ.out (pk.length-1)
       rw [←hpk0] at hlq
       obtain ⟨q,hq⟩:∃ q,pk.length=q+1:=⟨pk.length-1,by omega⟩
       rw [hq] at hvo
       injection hvo with e1 e2 e3
       subst e1 e3
       have e4:pk.length-1=q:=by omega
       have HQE:=Lib.hid hq
       rw [e4] at hgc hgf hvl hvle hlq
       have HVL:=Lib.hid hvl
       have HVLE:=Lib.hid hvle
       obtain ⟨Al,cl,rfl⟩:=hvl.shape
       have HGNE:Hid (some g≠(Value.slice Al (gl pk q).length cl).ownBlock):=(show _≠_ from fun e=>by
        rcases own_ne HJ5.out.P.row HVL.out (by decide) with h | h
        · cases h
        · exact h e)
       have hsub:((q+1:Nat):Int)-1=(q:Int):=by omega
       have hq0:(0:Int)≤(q:Int):=by omega
       have hq1:(q:Int) < (q:Int)+1:=by omega
       have HWQ:Hid (wrap64 (q:Int)=(q:Int)):=IntWalk.wrap64_in _ (by have:=HLQ.out;omega)
       have HGC:Hid (∀ W,Below w5.heap.size w5 W→W.cell? ⟨jb,0,none⟩=some (.slice (some ⟨g,0,none⟩) (q+1) co)∧W.cell? ⟨g,q,none⟩=some (.slice Al (gl pk q).length cl)):=(show ∀ W,_ from fun W hW=>⟨by rw [←HQE.out];exact (HJ5.out.J.below hW HJ5.out.J.lt).cell 0,(hW.cell (p:=⟨g,q,none⟩) hgl).trans hgc⟩)
       have HGL:=Lib.hid hgl
       have HGF:=Lib.hid hgf
       rw [hq] at j0
       generalize hln:(gl pk q).length=ln at *
       have HLNN:=Lib.hid hln
       clear hpk0 e4 hvl hvle hq hln e2
       go_wp2_with fail
       go_upto_region 8 with fail
       have hbd:Below w5.heap.size w5 w5.drew:=(Below.refl _ _).drew
       have hS0:=HGC.out _ hbd
       have hwq:=HWQ.out
       refine wp_region_split (fun W=>(W.cell? ⟨jb,0,none⟩=some (.slice (some ⟨g,0,none⟩) (q+1) co)∧W.cell? ⟨g,q,none⟩=some (.slice Al ln cl))) 15 (by kernel_rfl) (by decide) ?_
       refine wpG_take 15 0 (v:=?_) rfl (by kernel_rfl) (fun _ _ _ h=>h) (Or.inl ⟨by rfl,?_⟩) (by assumption) ?_
       rotate_left
       · intro w hSw;(try dsimp only at hSw);go_simp;(try with_reducible rfl)
       (try simp only [pz])
       refine wpG_take 15 1 (v:=?_) rfl (by kernel_rfl) (fun _ _ _ h=>h) (Or.inl ⟨by rfl,?_⟩) (by assumption) ?_
       rotate_left
       · intro w hSw;(try dsimp only at hSw);go_simp;(try with_reducible rfl)
       (try simp only [pz])
       refine wpG_take 15 2 (v:=?_) rfl (by kernel_rfl) (fun _ _ _ h=>h) (Or.inl ⟨by rfl,?_⟩) (by assumption) ?_
       rotate_left
       · intro w hSw;(try dsimp only at hSw);go_simp;(try with_reducible rfl)
       (try simp only [pz])
       refine wpG_take 15 3 (v:=?_) rfl (by kernel_rfl) (fun _ _ _ h=>h) (Or.inl ⟨by rfl,?_⟩) (by assumption) ?_
       rotate_left
       · intro w hSw;(try dsimp only at hSw);go_simp;(try with_reducible rfl)
       (try simp only [pz])
       refine wpG_take 15 4 (v:=?_) rfl (by kernel_rfl) (fun _ _ _ h=>h) (Or.inl ⟨by rfl,?_⟩) (by assumption) ?_
       rotate_left
       · intro w hSw;(try dsimp only at hSw);go_simp;(try with_reducible rfl)
       (try simp only [pz])
       refine wpG_take 15 5 (v:=?_) rfl (by kernel_rfl) (fun _ _ _ h=>h) (Or.inl ⟨by rfl,?_⟩) (by assumption) ?_
       rotate_left
       · intro w hSw;(try dsimp only at hSw);go_simp;(try with_reducible rfl)
       (try simp only [pz])
       refine wpG_take 15 6 (v:=?_) rfl (by kernel_rfl) (fun _ _ _ h=>h) (Or.inl ⟨by rfl,?_⟩) (by assumption) ?_
       rotate_left
       · intro w hSw;(try dsimp only at hSw);go_simp;(try with_reducible rfl)
       (try simp only [pz])
       refine wpG_take 15 7 (v:=?_) rfl (by kernel_rfl) (fun _ _ _ h=>h) (Or.inl ⟨by rfl,?_⟩) (by assumption) ?_
       rotate_left
       · intro w hSw;(try dsimp only at hSw);go_simp;(try with_reducible rfl)
       (try simp only [pz])
       refine wpG_take 15 8 (v:=?_) rfl (by kernel_rfl) (fun _ _ _ h=>h) (Or.inl ⟨by rfl,?_⟩) (by assumption) ?_
       rotate_left
       · intro w hSw;(try dsimp only at hSw);go_simp;(try with_reducible rfl)
       (try simp only [pz])
       refine wpG_take 15 9 (v:=?_) rfl (by kernel_rfl) (fun _ _ _ h=>h) (Or.inl ⟨by rfl,?_⟩) (by assumption) ?_
       rotate_left
       · intro w hSw;(try dsimp only at hSw);go_simp;(try with_reducible rfl)
       (try simp only [pz])
       refine wpG_take 15 10 (v:=?_) rfl (by kernel_rfl) (fun _ _ _ h=>h) (Or.inl ⟨by rfl,?_⟩) (by assumption) ?_
       rotate_left
       · intro w hSw;(try dsimp only at hSw);go_simp;(try with_reducible rfl)
       (try simp only [pz])
       refine wpG_take 15 11 (v:=?_) rfl (by kernel_rfl) (fun _ _ _ h=>h) (Or.inl ⟨by rfl,?_⟩) (by assumption) ?_
       rotate_left
       · intro w hSw;(try dsimp only at hSw);go_simp;(try with_reducible rfl)
       (try simp only [pz])
       refine wpG_take 15 12 (v:=?_) rfl (by kernel_rfl) (fun _ _ _ h=>h) (Or.inl ⟨by rfl,?_⟩) (by assumption) ?_
       rotate_left
       · intro w hSw;(try dsimp only at hSw);go_simp;(try with_reducible rfl)
       (try simp only [pz])
       clear hwq
       refine wpG_one (i:=13) (by kernel_rfl) ?_
       refine wpOp_step rfl (fun K hK=>?_)
       obtain ⟨AE,bE,oE,cE,hEe,hLE,hZE,-,-⟩:=((HZZ.out.below hbd).iv).open
       have hEe:=hEe
       injection hEe with f1 f2 f3
       subst f1
       have hown0:World.ownsRow w5.drew B 3 1 (.slice Al ln cl) ln (zv (gl pk q)):=(HVL.out.below hbd) |> fun h=>(by have h2:World.ownsRow w5.drew B 3 1 (.slice Al ln cl) (gl pk q).length (zv (gl pk q)):=h;rwa [HLNN.out] at h2)
       refine step_app rfl _ _ 34 rfl B 3 i3 _ 1 8 Tryz.underlying34 hi3 hz3 hy3 hx3 rfl (by omega) (.slice Al ln cl) ln (zv (gl pk q)) (by rfl) hown0 Au bE oE nz cu (zv zz) (by rfl) (by rw [zv_len,HZL.out]) (HZL.out ▸ hLE) (fun j hj=>hZE.news j (by rw [HZL.out];exact hj)) (zv_one zz) (by simp only [maxLen];have:=HZN.out;omega) (by have:=HZN.out;omega) (by have:=hbd.size;have:=HB5.out.size;omega) ?_
       intro v6 W6 hown6 hg6 hat6
       have HLAST:Hid (JI w (W6.setCell ⟨g,q,none⟩ v6) jb B B2 (.slice (some ⟨g,0,none⟩) pk.length co) (hd.set q v6) (lapp zz pk) true):=(show JI _ _ _ _ _ _ _ _ _ from by
        have h1:=HJ.out.last (W1:=w5.drew) (W6:=W6) (zs:=zz) (v:=.slice Al ln cl) (v':=v6) (g:=g) (c:=co) hjB (by omega) (by omega) hp0 rfl (by rw [show pk.length-1=q from by have:=HQE.out;omega];exact HVLE.out) (HB5.out.trans (hbd.mono HB5.out.size)) (by rw [show pk.length-1=q from by have:=HQE.out;omega,HLNN.out,HZL.out];exact hown6) hg6 hat6
        rw [show pk.length-1=q from by have:=HQE.out;omega] at h1
        exact h1)
       have y2:=(hg6.cell_far ⟨g,q,none⟩ (by show g < w5.heap.size;exact HGL.out) HGNE.out).trans (HGC.out _ hbd).2
       have y2f:W6.frozen? ⟨g,q,none⟩=false:=(hg6.frozen_far ⟨g,q,none⟩ (by show g < w5.heap.size;exact HGL.out) HGNE.out).trans HGF.out
       have y2l:g < W6.heap.size:=Nat.lt_of_lt_of_le HGL.out hg6.size
       have HN6:Hid (W6.cell? ⟨jb,0,none⟩=some (.slice (some ⟨g,0,none⟩) (q+1) co)):=(hg6.cell_far ⟨jb,0,none⟩ (by show jb < w5.heap.size;exact jl) (fun e=>by have:=(World.ownsRow.lt hown0 jb e.symm).1;omega)).trans (HGC.out _ hbd).1
       have n6:W6.cell? ⟨jb,0,none⟩=some (.slice (some ⟨g,0,none⟩) (q+1) co)∧W6.cell? ⟨g,q,none⟩=some (.slice Al ln cl):=⟨(hg6.cell_far ⟨jb,0,none⟩ (by show jb < w5.heap.size;exact jl) (fun e=>by have:=(World.ownsRow.lt hown0 jb e.symm).1;omega)).trans (HGC.out _ hbd).1,y2⟩
       obtain ⟨A6,c6,rfl⟩:∃ A6 c6,v6=.slice A6 (ln+nz) c6:=by
        rcases hown6.2 with ⟨e,h0⟩ | ⟨g',cap',cur',e,_⟩
        · exact ⟨none,0,by rw [e,h0]⟩
        · exact ⟨_,_,e⟩
       refine hK _ _ ⟨n6,?_⟩
       clear hK K hS0 hbd hown6 hg6 hat6 hown0 hLE hZE
       (try simp only [pz])
       have hwq:=HWQ.out
       refine wpG_take 15 14 (v:=?_) rfl (by kernel_rfl) (fun _ _ _ h=>h) (Or.inl ⟨by rfl,?_⟩) (by assumption) ?_
       rotate_left
       · intro w hSw;(try dsimp only at hSw);go_simp;(try with_reducible rfl)
       (try simp only [pz])
       clear hwq n6
       refine ⟨by kernel_rfl,?_⟩
       simp only [List.drop_succ_cons,List.drop_zero]
       go_wp2_with fail
       go_roundg (N-(0+1))
       case measure=>omega
       case rel=>exact ⟨0+1,_,_,by omega,by omega,by go_num,(show JI _ _ _ _ _ _ _ _ _ from by rw [HSE.out];exact HLAST.out)⟩
     · have HSE:Hid (addW pss op ws false (k+1)=pk++[zz]):=(show _=_ from by rw [HSK.out,if_neg hko,HZ.out])
       have HKO:=Lib.hid hko
       have hb6:=below_new w5 (.cells #[.slice Au nz cu] 34)
       have hrow:=(HJ5.out.P.below hb6).row
       have hnews:∀ j u,[Value.slice Au nz cu][j]?=some u→(w5.alloc (.cells #[.slice Au nz cu] 34)).cell? ((⟨w5.heap.size,0,none⟩:Addr).add j)=some u:=World.news_of_block (w:=w5.alloc (.cells #[.slice Au nz cu] 34)) (heap_alloc_new w5 _)
       have hbz:B≤(w5.alloc (.cells #[.slice Au nz cu] 34)).heap.size:=by have:=HB5.out.size;have:=hb6.size;omega
       have hpl:pk.length≤101000:=by have:=HLQ.out;omega
       have HJ6:=Lib.hid (HJ5.out.J.below hb6 jl)
       have HJL:=Lib.hid jl
       have HGO:Hid ((k=0∧op=false)∨¬k=0):=(show _∨_ from by
        by_cases h:k=0
        · left;refine ⟨h,?_⟩;cases op with | false=>rfl | true=>exact absurd ⟨h,rfl⟩ hko
        · exact .inr h)
       clear hko HKO
       rcases HGO.out with ⟨hk0,rfl⟩ | hk0
       all_goals
        (go_upto_region 9 with fail
         go_wp2_with ((at_builtin
                       refine wpList_append_lies _ rfl _ _ 86 (by rfl) B 34 i30 _ 1 24 Tryz.underlying86 hi30 hz30 hy30 hx30 rfl (by omega) _ pk.length hd (by rfl) hrow ⟨w5.heap.size,0,none⟩ 1 1 [.slice Au nz cu] (by rfl) (by rfl) hnews (by simp [Value.oneCell']) (by omega) (by simp only [maxLen];omega) (by omega) hbz _ rfl ?_
                       intro g6 cap6 w6 hown hgrow hat hlt6
                       have HJP:=Lib.hid (HPUSH.out _ _ hown hgrow (by rcases hat with h | h;exact .inl h.symm;exact .inr (by rw [h,ownBlock_some,World.size_alloc])))
                       have HO6:=Lib.hid (HJ6.out.grown hgrow (fun e=>by have:=(World.ownsRow.lt hrow jb e.symm).1;omega))
                       have o6:=HO6.out.cell 0
                       have o6f:=Blk.frozen HO6.out 0
                       have o6l:=HO6.out.lt
                       clear hnews hown hgrow hat hlt6 hrow))
         go_roundg (N-(k+1))
         case measure=>omega
         case rel=>exact ⟨k+1,_,_,by omega,by omega,by go_num,(show JI _ _ _ _ _ _ _ _ _ from by rw [HSE.out];exact HJP.out)⟩)
  · have hltz:¬(k:Int) < (N:Int):=by omega
    have hkn:k=N:=by omega
    subst hkn
    have j1:=HJ.out.J.cell 1
    have j1f:=Blk.frozen HJ.out.J 1
    have jl:=HJ.out.J.lt
    go_wp2_with fail
    go_end0
    refine ⟨rfl,HJ.out.L.setCell (p:=⟨jb,1,none⟩) (Nat.le_refl _) _,vo,hd,?_,HJ.out.P.set_ (a:=⟨jb,1,none⟩) hjB _⟩
    have:=HJ.out.J.set_ 1 (.bool br)
    simpa using this
end Go.Proofs.YtbnganlfelgogaaGreat
