/- Copies: CopyInts, ref04.Copy (words). -/
import Derived.Test.YtbnganlfelgogaaGreatVLwa
import Derived.Test.YtbnganlfelgogaaGreatVLne
import Derived.Deep.RegionHeld3
import Derived.Shelf.Slices.Reverse
import Derived.Shelf.Slices.Cells
import Derived.Test.YtbnganlfelgogaaGreatVPst
set_option linter.unusedSimpArgs false
set_option linter.unusedVariables false
set_option maxRecDepth 100000
set_option maxHeartbeats 40000000
namespace Go.Proofs.YtbnganlfelgogaaGreat
open Go.RowKit
theorem copyInts_any (zs:List Int) (v:Value) (w:World) (hv:IV w zs v) (hm:zs.length≤1000000):Calls Tryz.prog 34 #[v] w (CloPost w zs):=by
 have HP:Hid (∀ v w',w'.ownsRow w.heap.size 3 1 v zs.length (zv zs)→Below w.heap.size w w'→CloPost w zs (.returned v) w'):=(show ∀ v w',_ from fun v w' h hb=>⟨v,rfl,h,hb⟩)
 obtain ⟨A,b,off,c,rfl,hA,hz,-,-⟩:=hv.open
 obtain ⟨i0,hi0,hz0,hz1,hz2⟩:=info_parts info3
 have HH:=Lib.hid hz.news
 clear hz
 have HL:=Lib.hid (zv_len zs)
 have HO1:=Lib.hid (zv_one zs)
 go_enter Tryz.func34,Tryz.ntmps34
 go_wp2_with ((at_builtin
               refine wpList_copy rfl (.tmp 3) (.tmp 4) 34 rfl 3 i0 _ 1 8 Tryz.underlying34 hi0 hz0 hz1 hz2 rfl (by omega) rfl rfl A b off zs.length c _ rfl HL.out hA HH.out HO1.out (by simp only [maxLen];omega) (by omega) ?_
               intro v1 w1 hown1 hg1
               have HO:=Lib.hid hown1
               have HG:=Lib.hid hg1
               clear hown1 hg1))
 go_ret
 exact HP.out _ _ HO.out HG.out
def wdc (hd:List (Value × Value)):List Value:=hd.flatMap fun p=>[p.1,p.2]
theorem wdc_app (a b:List (Value × Value)):wdc (a++b)=wdc a++wdc b:=by simp [wdc]
theorem wdc_len (hd:List (Value × Value)):(wdc hd).length=hd.length*2:=by
 induction hd with
 | nil=>rfl
 | cons p l ih=>have e:wdc (p :: l)=[p.1,p.2]++wdc l:=rfl;rw [e,List.length_append,ih];simp only [List.length_cons,List.length_nil];omega
def ghd (hd:List (Value × Value)) (i:Nat):Value × Value:=hd.getD i (undef,undef)
theorem wdc_get:∀ (hd:List (Value × Value)) (j:Nat),j < hd.length→(wdc hd)[j*2]?=some (ghd hd j).1∧(wdc hd)[j*2+1]?=some (ghd hd j).2
 | [],j,h=>by simp at h
 | p :: l,0,_=>⟨rfl,rfl⟩
 | p :: l,j+1,h=>by
  have e:wdc (p :: l)=p.1 :: p.2 :: wdc l:=rfl
  have ih:=wdc_get l j (by simpa using h)
  rw [e,show (j+1)*2=j*2+1+1 by omega,show j*2+1+1+1=(j*2+1)+1+1 by omega]
  simpa [ghd] using ih
structure WoS (W:World) (B:Nat) (ws:List PWord) (v:Value) (hd:List (Value × Value)):Prop where
 row:W.ownsRow B 40 2 v ws.length (wdc hd)
 len:hd.length=ws.length
 pc:∀ i,i < ws.length→IO W B (gw ws i).sorts (ghd hd i).1∧IO W B (gw ws i).breaks (ghd hd i).2
theorem WoS.nil (W:World) (B:Nat):WoS W B [] (.slice none 0 0) []:=⟨World.ownsRow_nil _ _ _ _,rfl,fun i hi=>by simp at hi⟩
theorem WoS.below {W W':World} {B:Nat} {ws:List PWord} {v:Value} {hd:List (Value × Value)} (h:WoS W B ws v hd) (hb:Below W.heap.size W W'):WoS W' B ws v hd:=
 ⟨World.ownsRow.kept h.row (grown_of_below hb none) (Classical.em _),h.len,fun i hi=>⟨(h.pc i hi).1.below hb,(h.pc i hi).2.below hb⟩⟩
theorem IO.keptG {W W':World} {B:Nat} {zs:List Int} {v:Value} {row:Option Nat} (h:IO W B zs v) (hg:W.grownBy W' row) (hne:v.ownBlock=none∨v.ownBlock≠row):IO W' B zs v:=World.ownsRow.kept h hg hne
theorem IO.base {W:World} {B B':Nat} {zs:List Int} {v:Value} (h:IO W B zs v) (hB:B'≤B):IO W B' zs v:=by
 refine ⟨h.1,?_⟩
 rcases h.2 with hh | ⟨g,cap,cur,e,hb,h4⟩
 · exact .inl hh
 · exact .inr ⟨g,cap,cur,e,Nat.le_trans hB hb,h4⟩
theorem WoS.wov {W:World} {B:Nat} {ws:List PWord} {v:Value} {hd:List (Value × Value)} (h:WoS W B ws v hd):WoV W ws v:=by
 obtain ⟨A,b,off,c,rfl,h1,h2,h3⟩:=rv_of_own h.row (by rw [wdc_len,h.len])
 refine ⟨A,b,off,c,rfl,h1,fun j hj=>?_,h3⟩
 have hg:=wdc_get hd j (by rw [h.len];exact hj)
 have ha:=h2 (j*2) (by omega)
 have hb:=h2 (j*2+1) (by omega)
 dsimp only at ha hb
 rw [List.getD_eq_getElem?_getD,hg.1] at ha
 rw [List.getD_eq_getElem?_getD,hg.2] at hb
 exact ⟨_,_,ha,hb,(h.pc j hj).1.iv,(h.pc j hj).2.iv⟩
theorem ghd_lt {a:List (Value × Value)} {x:Value × Value} {i:Nat} (h:i < a.length):ghd (a++[x]) i=ghd a i:=by
 unfold ghd
 rw [List.getD_eq_getElem?_getD,List.getD_eq_getElem?_getD,List.getElem?_append_left h]
theorem ghd_eq {a:List (Value × Value)} {x:Value × Value}:ghd (a++[x]) a.length=x:=by
 unfold ghd
 rw [List.getD_eq_getElem?_getD,List.getElem?_append_right (Nat.le_refl _),Nat.sub_self]
 rfl
theorem gw_take {ws:List PWord} {k i:Nat} (h:i < k):gw (ws.take k) i=gw ws i:=by
 unfold gw
 rw [List.getD_eq_getElem?_getD,List.getD_eq_getElem?_getD,List.getElem?_take,if_pos h]
theorem WoS.push {W W':World} {B k:Nat} {ws:List PWord} {v v' a b:Value} {hd:List (Value × Value)} (h:WoS W B (ws.take k) v hd) (hk:k < ws.length) (ha:IO W B (gw ws k).sorts a) (hb:IO W B (gw ws k).breaks b)
 (hown:W'.ownsRow B 40 2 v' (k+1) (wdc hd++[a,b])) (hg:W.grownBy W' v.ownBlock):WoS W' B (ws.take (k+1)) v' (hd++[(a,b)]):=by
 have hl:(ws.take k).length=k:=by rw [List.length_take];omega
 have hl1:(ws.take (k+1)).length=k+1:=by rw [List.length_take];omega
 have hlen:=h.len
 rw [hl] at hlen
 have hkp:∀ (zs:List Int) (u:Value),IO W B zs u→IO W' B zs u:=fun zs u hu=>hu.keptG hg (own_ne hu h.row (by decide))
 refine ⟨by rw [hl1,wdc_app];exact hown,by rw [hl1,List.length_append,hlen];rfl,fun i hi=>?_⟩
 rw [hl1] at hi
 by_cases e:i < k
 · rw [gw_take (by omega),ghd_lt (by omega)]
   have:=h.pc i (by omega)
   rw [gw_take e] at this
   exact ⟨hkp _ _ this.1,hkp _ _ this.2⟩
 · obtain rfl:i=k:=by omega
   rw [gw_take (by omega),show ghd (hd++[(a,b)]) i=(a,b) by rw [←hlen];exact ghd_eq]
   exact ⟨hkp _ _ ha,hkp _ _ hb⟩
theorem info97:(Tryz.prog.info? 40).map (fun i=>(i.zero,i.size,i.bytes))=some (some (.agg #[.slice none 0 0,.slice none 0 0]),2,48):=by kernel_rfl
def CwPost (ws:List PWord) (w:World) (e:Ending) (w':World):Prop:=∃ v hd,e=.returned v∧WoS w' w.heap.size ws v hd∧Below w.heap.size w w'
theorem copyWords_any (ws:List PWord) (v:Value) (w:World) (hv:WoV w ws v) (hm:ws.length≤1000) (hl:∀ i,i < ws.length→(gw ws i).sorts.length≤1000∧(gw ws i).breaks.length≤1000):Calls Tryz.prog 22 #[v] w (CwPost ws w):=by
 obtain ⟨A,c,rfl,-⟩:=hv.shape
 have HV:=Lib.hid hv
 have HLN:=Lib.hid hl
 have HP:Hid (∀ W v hd,WoS W w.heap.size (ws.take ws.length) v hd→Below w.heap.size w W→CwPost ws w (.returned v) W):=(show ∀ W v hd,_ from fun W v hd h hb=>⟨v,hd,rfl,by rw [List.take_length] at h;exact h,hb⟩)
 clear hv hl
 obtain ⟨i0,hi0,hz0,hz1,hz2⟩:=info_parts info97
 generalize hN:ws.length=N at *
 have HN:=Lib.hid hN
 clear hN
 go_enter Tryz.func22,Tryz.ntmps22
 go_wp2_with fail
 go_loopg [4,3] N (fun gg s4 s3 wr=>∃ (k:Nat) (hd:List (Value × Value)),k≤N∧N-k≤gg∧s4=.int .i64 k∧Hid (Below w.heap.size w wr)∧Hid (WoS wr w.heap.size (ws.take k) s3 hd))
 case atStart=>exact ⟨0,[],by omega,by omega,rfl,Below.refl _ _,WoS.nil _ _⟩
 case round=>
  obtain ⟨k,hd,hk,hg,rfl,HB,HS⟩:=hrel
  by_cases hlt:k < N
  · have hltz:(k:Int) < (N:Int):=by omega
    have hV:=HV.out
    rw [←HN.out] at hV
    obtain ⟨b,off,A1,c1,A2,c2,rfl,hbl,z1,z2,i1,i2,hm3,hm4,hm1,hm2⟩:=hV.at (k:=k) (by rw [HN.out];exact hlt)
    have hl:=HLN.out k hlt
    have HC1:Hid (∀ W,Below w.heap.size w W→Calls Tryz.prog 34 #[.slice A1 (gw ws k).sorts.length c1] W (CloPost W (gw ws k).sorts)):=(show ∀ W,_ from fun W hW=>copyInts_any _ _ W (i1.below hW) (by omega))
    have HC2:Hid (∀ W,Below w.heap.size w W→Calls Tryz.prog 34 #[.slice A2 (gw ws k).breaks.length c2] W (CloPost W (gw ws k).breaks)):=(show ∀ W,_ from fun W hW=>copyInts_any _ _ W (i2.below hW) (by omega))
    have HKS:Hid (∀ W,Below w.heap.size w W→W.cell? ⟨b,off+k*2,none⟩=some (.slice A1 (gw ws k).sorts.length c1)∧W.cell? ⟨b,off+k*2+1,none⟩=some (.slice A2 (gw ws k).breaks.length c2)):=(show ∀ W,_ from fun W hW=>⟨(hW.cell (p:=⟨b,off+k*2,none⟩) hbl).trans z1,(hW.cell (p:=⟨b,off+k*2+1,none⟩) hbl).trans z2⟩)
    have hblr:b < wr.heap.size:=by have:=HB.out.size;omega
    clear hV i1 i2 hm1 hm2 hm3 hm4 hl z1 z2
    have hbz:=HB.out.size
    have hbd:Below wr.heap.size wr wr.drew:=(Below.refl _ _).drew
    have hbdw:Below w.heap.size w wr.drew:=HB.out.trans (hbd.mono hbz)
    have hS0:=HKS.out _ hbdw
    have z1:=(HKS.out _ HB.out).1
    have z2:=(HKS.out _ HB.out).2
    go_wp2_with fail
    have htl:(ws.take k).length=k:=by rw [List.length_take,HN.out];omega
    have HOW:Hid (∀ W,Below wr.heap.size wr W→W.ownsRow w.heap.size 40 2 u3 k (wdc hd)):=(show ∀ W,_ from fun W hW=>by
     have:=(HS.out.below hW).row
     rw [htl] at this
     exact this)
    have HOL:Hid (∀ t,u3.ownBlock=some t→w.heap.size≤t):=(show ∀ t,_ from fun t ht=>(HS.out.row.lt t ht).1)
    clear htl
    generalize hn1:(gw ws k).sorts.length=n1 at *
    generalize hn2:(gw ws k).breaks.length=n2 at *
    go_region_held3 (fun W=>W.cell? ⟨b,off+k*2,none⟩=some (.slice A1 n1 c1)∧W.cell? ⟨b,off+k*2+1,none⟩=some (.slice A2 n2 c2))
     (first | exact hS0 | exact HKS.out _ hb7 | exact HKS.out _ hb6 | exact HKS.out _ hbw5 | exact HKS.out _ hbw4 | go_keep)
     ((first
       | (go_at_call 34;(with_reducible refine (HC1.out _ hbdw).mono ?_);rintro e w4 ⟨va,rfl,hio4,hb4'⟩
          have hb4:Below wr.heap.size wr w4:=hbd.trans (hb4'.mono hbd.size)
          have hbw4:Below w.heap.size w w4:=HB.out.trans (hb4.mono hbz)
          obtain ⟨Aa,ca,hva⟩:=hio4.shape
          rw [hn1] at hva
          subst hva)
       | (go_at_call 34;(with_reducible refine (HC2.out _ hbw4).mono ?_);rintro e w5 ⟨vb,rfl,hio5,hb5'⟩
          have hb5:Below wr.heap.size wr w5:=hb4.trans (hb5'.mono hb4.size)
          have hbw5:Below w.heap.size w w5:=HB.out.trans (hb5.mono hbz)
          obtain ⟨Ab,cb,hvb⟩:=hio5.shape
          rw [hn2] at hvb
          subst hvb
          have hbn:=below_new w5 (.cells #[.slice Aa n1 ca,.slice Ab n2 cb] 40)
          have hb6r:Below wr.heap.size wr (w5.alloc (.cells #[.slice Aa n1 ca,.slice Ab n2 cb] 40)):=hb5.trans (hbn.mono hb5.size)
          have hb6:Below w.heap.size w (w5.alloc (.cells #[.slice Aa n1 ca,.slice Ab n2 cb] 40)):=hbw5.trans (hbn.mono hbw5.size)
          have hnews:∀ j u,([.slice Aa n1 ca,.slice Ab n2 cb]:List Value)[j]?=some u→(w5.alloc (.cells #[.slice Aa n1 ca,.slice Ab n2 cb] 40)).cell? ((⟨w5.heap.size,0,none⟩:Addr).add j)=some u:=World.news_of_block (w:=w5.alloc (.cells #[.slice Aa n1 ca,.slice Ab n2 cb] 40)) (heap_alloc_new w5 _)
          have how6:=HOW.out _ hb6r)
       | (refine step_append_lies _ rfl (.tmp 11) (.tmp 25) 27 rfl w.heap.size 40 i0 _ 2 48 Tryz.underlying27 hi0 hz0 hz1 hz2 rfl (by omega) u3 k (wdc hd) rfl how6 ⟨w5.heap.size,0,none⟩ 1 1 [.slice Aa n1 ca,.slice Ab n2 cb] rfl rfl hnews (by simp [Value.oneCell']) (by omega) (by simp only [maxLen];omega) (by omega) hb6.size _ rfl ?_
          intro g7 c7 w7 hown7 hgrow7 hat7 hlt7
          have hb7:Below w.heap.size w w7:=hb6.grown hgrow7 hb6.size (fun t ht=>HOL.out t ht))))
    have HS7:Hid (WoS w7 w.heap.size (ws.take (k+1)) (.slice (some ⟨g7,0,none⟩) (k+1) c7) (hd++[(.slice Aa n1 ca,.slice Ab n2 cb)])):=
     WoS.push (HS.out.below hb6r) (by rw [HN.out];exact hlt) (((hio4.base (B':=w.heap.size) (by show _≤wr.drew.heap.size;exact hbdw.size)).below hb5').below hbn) ((hio5.base (B':=w.heap.size) hbw4.size).below hbn) hown7 hgrow7
    have HB7:=Lib.hid hb7
    clear hnews how6 hown7 hgrow7 hat7 hio4 hio5 hS0
    go_wp2_with fail
    go_roundg (N-(k+1))
    case measure=>omega
    case rel=>exact ⟨k+1,_,by omega,by omega,by go_num,HB7.out,HS7.out⟩
  · have hltz:¬(k:Int) < (N:Int):=by omega
    have hke:k=N:=by omega
    have HS2:Hid (∃ hd,WoS wr w.heap.size (ws.take N) u3 hd):=by rw [hke] at HS;exact ⟨hd,HS.out⟩
    clear hke hlt HS
    obtain ⟨hd2,hs2⟩:=HS2.out
    go_wp2_with fail
    go_ret
    exact HP.out _ _ _ hs2 HB.out
end Go.Proofs.YtbnganlfelgogaaGreat
namespace Go.Proofs
open Go.Shelf
def Tryz.lays112_ren:Go.Shelf.Ren:=⟨fun | 112=>120 | n=>n,fun | 28=>34 | 3=>3 | 4=>4 | 0=>0 | n=>n,fun | n=>n⟩
theorem Tryz.lays112:Go.Proofs.Lays.n112 Tryz.prog Tryz.lays112_ren:={
 mixed:=by kernel_rfl
 f112:=Tryz.func120.trans (congrArg some (by kernel_rfl))
 t0:=Tryz.underlying0
 a0:=Tryz.isAgg0
 z0:=Tryz.sizeOf0
 v0:=Tryz.zeroValue0
 t3:=Tryz.underlying3
 a3:=Tryz.isAgg3
 z3:=Tryz.sizeOf3
 v3:=Tryz.zeroValue3
 t4:=Tryz.underlying4
 a4:=Tryz.isAgg4
 z4:=Tryz.sizeOf4
 v4:=Tryz.zeroValue4
 t28:=Tryz.underlying34
 a28:=Tryz.isAgg34
 z28:=Tryz.sizeOf34
 v28:=Tryz.zeroValue34 }
open Go.RowKit Go.Lib Go.Sort in
open Go.RowKit Go.Lib Go.Sort in
open Go.RowKit Go.Lib Go.Sort in
theorem Tryz.slices_Reverse_int_empty (a:Option Addr) (cap:Nat) (w:World) :
 Calls Tryz.prog 120 #[.slice a 0 cap] w fun e w'=>e=.returned (.tuple #[])∧w'=w:=Any.slices_Reverse_int_empty Tryz.lays112 a cap w
open Go.RowKit Go.Lib Go.Sort in
theorem Tryz.slices_Reverse_int_cells (b off n c:Nat) (zs:List Int) (w:World) (hz:n≤zs.length) (hbig:n≤9223372036854775807) (hc:∀ j,j < zs.length→w.cell? ⟨b,off+j,none⟩=some (.int .i64 (zs.getD j 0))) (hf:∀ j,j < n→w.frozen? ⟨b,off+j,none⟩=false) :
 Calls Tryz.prog 120 #[.slice (some ⟨b,off,none⟩) n c] w fun e w'=>e=.returned (.tuple #[])∧∃ q,w'=(w.drewN q).setCells b off ((zs.take n).reverse.map (Value.int .i64)):=Any.slices_Reverse_int_cells Tryz.lays112 b off n c zs w hz hbig hc hf
end Go.Proofs
namespace Go.Proofs.YtbnganlfelgogaaGreat
open Go.RowKit
theorem grown_trans {A B C:World} {row:Option Nat} (h:A.grownBy B row) (k:B.grownBy C row):A.grownBy C row:=
 ⟨k.os.trans h.os,k.tape.trans h.tape,k.output.trans h.output,Nat.le_trans h.size k.size,fun j hj hn=>(k.block j (Nat.lt_of_lt_of_le hj h.size) hn).trans (h.block j hj hn)⟩
theorem grown_setCell (W:World) (g o:Nat) (v:Value):W.grownBy (W.setCell ⟨g,o,none⟩ v) (some g):=
 ⟨rfl,rfl,rfl,by simp [World.setCell],fun k _ hn=>Below.heap_setCell _ _ _ _ (fun e=>hn (by rw [e]))⟩
theorem grown_setCells (g:Nat):∀ (vs:List Value) (o:Nat) (W:World),W.grownBy (W.setCells g o vs) (some g)
 | [],_,W=>⟨rfl,rfl,rfl,Nat.le_refl _,fun _ _ _=>rfl⟩
 | v :: vs,o,W=>grown_trans (grown_setCell W g o v) (grown_setCells g vs (o+1) _)
theorem size_setCells (g:Nat):∀ (vs:List Value) (o:Nat) (W:World),(W.setCells g o vs).heap.size=W.heap.size
 | [],_,W=>rfl
 | v :: vs,o,W=>(size_setCells g vs (o+1) (W.setCell ⟨g,o,none⟩ v)).trans (by simp [World.setCell])
theorem block_setCells (g:Nat) {t:TypeId}:∀ (vs:List Value) (o:Nat) (W:World) (cur:Array Value),W.heap[g]?=some (.cells cur t (0,0))→o+vs.length≤cur.size→
 ∃ cur',(W.setCells g o vs).heap[g]?=some (.cells cur' t (0,0))∧cur'.size=cur.size∧(∀ j,j < o→cur'[j]?=cur[j]?)∧(∀ j,j < vs.length→cur'[o+j]?=vs[j]?)
 | [],o,W,cur,h,_=>⟨cur,h,rfl,fun _ _=>rfl,fun j hj=>absurd hj (Nat.not_lt_zero _)⟩
 | v :: vs,o,W,cur,h,hl=>by
  have h1:Blk (W.setCell ⟨g,o,none⟩ v) g t (cur.setIfInBounds o v):=Blk.set_ h o v
  obtain ⟨cur',a1,a2,a3,a4⟩:=block_setCells g vs (o+1) _ _ h1 (by simp only [List.length_cons,Array.size_setIfInBounds] at hl ⊢;omega)
  refine ⟨cur',a1,by rw [a2,Array.size_setIfInBounds],fun j hj=>?_,fun j hj=>?_⟩
  · rw [a3 j (by omega),Array.getElem?_setIfInBounds,if_neg (by omega)]
  · cases j with
    | zero=>
     rw [Nat.add_zero,a3 o (by omega),Array.getElem?_setIfInBounds,if_pos rfl,if_pos (by simp only [List.length_cons] at hl;omega)]
     rfl
    | succ j=>
     have:=a4 j (by simpa using hj)
     rw [show o+(j+1)=o+1+j by omega,this]
     rfl
theorem own_of_block {W:World} {B g:Nat} {t:TypeId} {sz n cap:Nat} {cur:Array Value} {xs:List Value} (hg:W.heap[g]?=some (.cells cur t (0,0))) (hB:B≤g) (hl:xs.length=n*sz) (hnc:n≤cap) (hc:cap≤maxLen) (hs:cur.size=cap*sz)
 (hx:∀ j,j < n*sz→cur[j]?=xs[j]?):W.ownsRow B t sz (.slice (some ⟨g,0,none⟩) n cap) n xs:=by
 refine ⟨hl,.inr ⟨g,cap,cur,rfl,hB,hg,hnc,hc,hs,?_⟩⟩
 have hle:n*sz≤cap*sz:=Nat.mul_le_mul_right _ hnc
 apply List.ext_getElem?
 intro j
 by_cases hj:j < n*sz
 · rw [List.getElem?_take,if_pos hj,Array.getElem?_toList]
   exact hx j hj
 · rw [List.getElem?_eq_none (by rw [List.length_take,Array.length_toList];omega),List.getElem?_eq_none (by omega)]
def RevPost (w:World) (B:Nat) (zs:List Int) (v:Value) (e:Ending) (w':World):Prop:=e=.returned (.tuple #[])∧IO w' B zs.reverse v∧w.grownBy w' v.ownBlock∧w'.heap.size=w.heap.size
theorem rev_any (zs:List Int) (v:Value) (B:Nat) (w:World) (h:IO w B zs v):Calls Tryz.prog 120 #[v] w (RevPost w B zs v):=by
 have h2:=h.2
 rcases h2 with ⟨rfl,h0⟩ | ⟨g,cap,cur,rfl,hB,hg,hnc,hc2,hcs,ht⟩
 · refine (Tryz.slices_Reverse_int_empty none 0 w).mono ?_
   rintro e w' ⟨rfl,rfl⟩
   have hz:zs=[]:=List.eq_nil_of_length_eq_zero h0
   subst hz
   exact ⟨rfl,h,⟨rfl,rfl,rfl,Nat.le_refl _,fun _ _ _=>rfl⟩,rfl⟩
 · have hiv:=h.iv
   obtain ⟨A,b,off,c,he,hA,hz,hzc,-⟩:=hiv.open
   by_cases hn:zs.length=0
   · have hz0:zs=[]:=List.eq_nil_of_length_eq_zero hn
     subst hz0
     refine (Tryz.slices_Reverse_int_empty (some ⟨g,0,none⟩) cap w).mono ?_
     rintro e w' ⟨rfl,rfl⟩
     exact ⟨rfl,h,⟨rfl,rfl,rfl,Nat.le_refl _,fun _ _ _=>rfl⟩,rfl⟩
   obtain ⟨hA1,-⟩:=hA (by omega)
   injection he with e1 e2 e3
   rw [←e1] at hA1
   injection hA1 with hA1
   injection hA1 with hb ho
   subst hb
   subst ho
   refine (Tryz.slices_Reverse_int_cells g 0 zs.length cap zs w (Nat.le_refl _) (by unfold maxLen at hc2;omega) (fun j hj=>hz j hj) (fun j _=>Blk.frozen (t:=3) hg _)).mono ?_
   rintro e w' ⟨rfl,q,rfl⟩
   have hdr:(w.drewN q).heap=w.heap:=rfl
   have hlen:((zs.take zs.length).reverse.map (Value.int .i64))=zv zs.reverse:=by rw [List.take_length];rfl
   rw [hlen]
   obtain ⟨cur',a1,a2,-,a4⟩:=block_setCells g (zv zs.reverse) 0 (w.drewN q) cur (by rw [hdr];exact hg) (by rw [zv_len,List.length_reverse];omega)
   refine ⟨rfl,?_,?_,?_⟩
   · have:=own_of_block (B:=B) (sz:=1) (n:=zs.reverse.length) (cap:=cap) (xs:=zv zs.reverse) a1 hB (zv_len _) (by rw [List.length_reverse];exact hnc) hc2 (by rw [a2];exact hcs) (fun j hj=>by
      have:=a4 j (by rw [zv_len];exact hj)
      rwa [Nat.zero_add] at this)
     show World.ownsRow _ _ _ _ _ _ _
     rw [List.length_reverse] at this ⊢
     exact this
   · have h0:w.grownBy (w.drewN q) (some g):=⟨rfl,rfl,rfl,Nat.le_refl _,fun _ _ _=>rfl⟩
     exact grown_trans h0 (grown_setCells g _ _ _)
   · rw [size_setCells];rfl
end Go.Proofs.YtbnganlfelgogaaGreat
