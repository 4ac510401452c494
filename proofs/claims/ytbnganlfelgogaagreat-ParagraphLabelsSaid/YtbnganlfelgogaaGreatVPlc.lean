/- The places of words, in memory: placesOf, ref.Places. -/
import Derived.Test.YtbnganlfelgogaaGreatVWrd
set_option linter.unusedSimpArgs false
set_option linter.unusedVariables false
set_option maxRecDepth 100000
set_option maxHeartbeats 40000000
namespace Go.Proofs.YtbnganlfelgogaaGreat
open Go.RowKit
def WsAt (W:World) (b off:Nat) (ws:List PWord):Prop:=∀ j,j < ws.length→∃ v1 v2,W.cell? ⟨b,off+j*2,none⟩=some v1∧W.cell? ⟨b,off+j*2+1,none⟩=some v2∧IV W (gw ws j).sorts v1∧IV W (gw ws j).breaks v2
def WoV (W:World) (ws:List PWord) (v:Value):Prop:=∃ A b off c,v=.slice A ws.length c∧Lies A ws.length W.heap.size b off∧WsAt W b off ws∧ws.length≤c∧c≤9223372036854775807
theorem WoV.below {W W':World} {ws:List PWord} {v:Value} (h:WoV W ws v) (hb:Below W.heap.size W W'):WoV W' ws v:=by
 obtain ⟨A,b,off,c,rfl,h1,h2,h3⟩:=h
 refine ⟨A,b,off,c,rfl,h1.mono hb.size,fun j hj=>?_,h3⟩
 obtain ⟨v1,v2,a1,a2,a3,a4⟩:=h2 j hj
 exact ⟨v1,v2,(hb.cell (p:=⟨b,_,none⟩) (h1 (by omega)).2).trans a1,(hb.cell (p:=⟨b,_,none⟩) (h1 (by omega)).2).trans a2,a3.below hb,a4.below hb⟩
theorem WoV.shape {W:World} {ws:List PWord} {v:Value} (h:WoV W ws v):∃ A c,v=.slice A ws.length c∧ws.length≤9223372036854775807:=by
 obtain ⟨A,b,off,c,rfl,-,-,h1,h2⟩:=h
 exact ⟨A,c,rfl,by omega⟩
theorem WoV.at {W:World} {ws:List PWord} {A:Option Addr} {c k:Nat} (h:WoV W ws (.slice A ws.length c)) (hk:k < ws.length) :
 ∃ b off A1 c1 A2 c2,A=some ⟨b,off,none⟩∧b < W.heap.size∧W.cell? ⟨b,off+k*2,none⟩=some (.slice A1 (gw ws k).sorts.length c1)∧W.cell? ⟨b,off+k*2+1,none⟩=some (.slice A2 (gw ws k).breaks.length c2)∧
  IV W (gw ws k).sorts (.slice A1 (gw ws k).sorts.length c1)∧IV W (gw ws k).breaks (.slice A2 (gw ws k).breaks.length c2)∧(gw ws k).breaks.length≤c2∧c2≤9223372036854775807∧(gw ws k).sorts.length≤c1∧c1≤9223372036854775807:=by
 obtain ⟨A',b,off,c',he,h1,h2,-⟩:=h
 injection he with hA hn hc
 subst hA
 obtain ⟨rfl,hb⟩:=h1 (by omega)
 obtain ⟨v1,v2,a1,a2,a3,a4⟩:=h2 k hk
 obtain ⟨A1,_,_,c1,rfl,-,-,e1,e2⟩:=a3.open
 obtain ⟨A2,_,_,c2,rfl,-,-,e3,e4⟩:=a4.open
 exact ⟨b,off,A1,c1,A2,c2,rfl,hb,a1,a2,a3,a4,e3,e4,e1,e2⟩
def pcl (pl:List (Nat × Nat)):List Value:=pl.flatMap fun p=>[.int .i64 (p.1:Int),.int .i64 (p.2:Int)]
theorem pcl_app (a b:List (Nat × Nat)):pcl (a++b)=pcl a++pcl b:=by simp [pcl]
theorem pcl_len (pl:List (Nat × Nat)):(pcl pl).length=pl.length*2:=by
 induction pl with
 | nil=>rfl
 | cons a l ih=>simp only [pcl,List.flatMap_cons,List.length_append,List.length_cons,List.length_nil] at ih ⊢;omega
theorem pcl_get (pl:List (Nat × Nat)):∀ j,j < pl.length→(pcl pl)[j*2]?=some (.int .i64 ((gpl pl j).1:Int))∧(pcl pl)[j*2+1]?=some (.int .i64 ((gpl pl j).2:Int)):=by
 induction pl with
 | nil=>intro j hj;simp at hj
 | cons a l ih=>
  intro j hj
  have e:pcl (a :: l)=.int .i64 (a.1:Int) :: .int .i64 (a.2:Int) :: pcl l:=rfl
  cases j with
  | zero=>rw [e];exact ⟨rfl,rfl⟩
  | succ j=>
   have:=ih j (by simpa using hj)
   rw [e,show (j+1)*2=j*2+1+1 from by omega,show j*2+1+1+1=(j*2+1)+1+1 from rfl]
   simpa [gpl] using this
theorem rv_of_own {w:World} {base:Nat} {e:TypeId} {sz n:Nat} {v:Value} {xs:List Value} (h:w.ownsRow base e sz v n xs) (hl:xs.length=n*sz):RV w v n sz (fun j=>xs.getD j undef):=by
 rcases h.2 with ⟨rfl,h0⟩ | ⟨g,cap,cur,rfl,_,hg,hnc,hc2,hcs,ht⟩
 · subst h0
   exact RV.nil w sz _
 · refine ⟨some ⟨g,0,none⟩,g,0,cap,rfl,fun _=>⟨rfl,?_⟩,fun j hj=>?_,hnc,by unfold maxLen at hc2;omega⟩
   · rcases Nat.lt_or_ge g w.heap.size with hlt | hge
     · exact hlt
     · rw [Array.getElem?_eq_none hge] at hg;cases hg
   · rw [cell_of_row w g (0+j) cur e (0,0) hg]
     have:(cur.toList.take (n*sz))[j]?=xs[j]?:=by rw [ht]
     rw [List.getElem?_take,if_pos (by omega)] at this
     simp only [Array.getElem?_toList] at this
     rw [Nat.zero_add,this,List.getElem?_eq_getElem (by omega)]
     simp [List.getD_eq_getElem?_getD,List.getElem?_eq_getElem (show j < xs.length by omega)]
def PlV (W:World) (pl:List (Nat × Nat)) (v:Value):Prop:=RV W v pl.length 2 (fun j=>(pcl pl).getD j undef)
theorem PlV.below {W W':World} {pl:List (Nat × Nat)} {v:Value} (h:PlV W pl v) (hb:Below W.heap.size W W'):PlV W' pl v:=RV.below h hb
theorem PlV.at {W:World} {pl:List (Nat × Nat)} {A:Option Addr} {c k:Nat} (h:PlV W pl (.slice A pl.length c)) (hk:k < pl.length) :
 ∃ b off,A=some ⟨b,off,none⟩∧b < W.heap.size∧W.cell? ⟨b,off+k*2,none⟩=some (.int .i64 ((gpl pl k).1:Int))∧W.cell? ⟨b,off+k*2+1,none⟩=some (.int .i64 ((gpl pl k).2:Int)):=by
 obtain ⟨A',b,off,c',he,h1,h2,-⟩:=h
 injection he with hA hn hc
 subst hA
 obtain ⟨rfl,hb⟩:=h1 (by omega)
 have hg:=pcl_get pl k hk
 refine ⟨b,off,rfl,hb,?_,?_⟩
 · rw [h2 (k*2) (by omega)];simp [List.getD_eq_getElem?_getD,hg.1]
 · rw [Nat.add_assoc,h2 (k*2+1) (by omega)];simp [List.getD_eq_getElem?_getD,hg.2]
theorem PlV.shape {W:World} {pl:List (Nat × Nat)} {v:Value} (h:PlV W pl v):∃ A c,v=.slice A pl.length c∧pl.length≤c∧c≤9223372036854775807:=by
 obtain ⟨A,b,off,c,rfl,-,-,h1,h2⟩:=h
 exact ⟨A,c,rfl,h1,h2⟩
theorem PlV.of_own {W:World} {base:Nat} {pl:List (Nat × Nat)} {v:Value} (h:W.ownsRow base 55 2 v pl.length (pcl pl)):PlV W pl v:=rv_of_own h (pcl_len pl)
theorem br_len {ns:Nat} {w:PWord} (h:WOk ns w):w.breaks.length < w.sorts.length:=by
 have key:∀ j,j < w.breaks.length→(j:Int)+1≤gz w.breaks j:=by
  intro j
  induction j with
  | zero=>intro hj;have:=(h.br 0 hj).1;omega
  | succ j ih=>
   intro hj
   have h1:=ih (by omega)
   have h2:=h.up (j+1) (by omega) hj
   rw [Nat.add_sub_cancel] at h2
   omega
 have hs:=h.some
 rcases Nat.eq_zero_or_pos w.breaks.length with e | e
 · omega
 · have h1:=key (w.breaks.length-1) (by omega)
   have h2:=(h.br (w.breaks.length-1) (by omega)).2
   omega
theorem plTo_len {ns:Nat} {ws:List PWord} (h:WsOk ns ws):∀ {k:Nat},k≤ws.length→(plTo ws k).length≤k*60:=by
 intro k
 induction k with
 | zero=>intro _;simp [plTo]
 | succ k ih=>
  intro hk
  have h1:=br_len (h k (by omega))
  have h2:=(h k (by omega)).most
  have h3:=ih (by omega)
  simp only [plTo,plW,List.length_append,List.length_cons,List.length_map]
  omega
def curP (ws:List PWord) (i k:Nat):List (Nat × Nat):=plTo ws i++((i,0) :: ((gw ws i).breaks.take k).map fun b=>(i,b.toNat))
theorem curP_zero (ws:List PWord) (i:Nat):curP ws i 0=plTo ws i++[(i,0)]:=by simp [curP]
theorem curP_succ {ws:List PWord} {i k:Nat} (hk:k < (gw ws i).breaks.length):curP ws i (k+1)=curP ws i k++[(i,(gz (gw ws i).breaks k).toNat)]:=by
 unfold curP
 rw [List.take_succ_eq_append_getElem hk,gz_get hk,List.map_append,List.map_singleton,List.append_assoc,List.cons_append]
theorem curP_end (ws:List PWord) (i:Nat):curP ws i (gw ws i).breaks.length=plTo ws (i+1):=by
 unfold curP
 rw [List.take_length]
 rfl
theorem curP_len {ns:Nat} {ws:List PWord} (h:WsOk ns ws) {i k:Nat} (hi:i < ws.length):(curP ws i k).length≤i*60+61:=by
 have h1:=plTo_len h (k:=i) (by omega)
 have h2:=br_len (h i hi)
 have h3:=(h i hi).most
 simp only [curP,List.length_append,List.length_cons,List.length_map,List.length_take]
 omega
theorem news_two (w:World) (o:Obj) (cs:Array Value) (t:TypeId):∀ j u,cs.toList[j]?=some u→((w.alloc o).alloc (.cells cs t)).cell? ((⟨w.heap.size+1,0,none⟩:Addr).add j)=some u:=by
 have h:=heap_alloc_new (w.alloc o) (.cells cs t)
 rw [World.size_alloc] at h
 exact World.news_of_block h
def PlPost (ws:List PWord) (w:World) (e:Ending) (w':World):Prop:=∃ v,e=.returned v∧PlV w' (places ws) v∧Below w.heap.size w w'∧(∀ k,v.ownBlock=some k→w.heap.size≤k)
theorem info95:(Tryz.prog.info? 55).map (fun i=>(i.zero,i.size,i.bytes))=some (some (.agg #[.int .i64 0,.int .i64 0]),2,16):=by kernel_rfl
theorem placesOf_any (ns:Nat) (ws:List PWord) (v:Value) (w:World) (hv:WoV w ws v) (hok:WsOk ns ws) (hm:ws.length≤200) :
 Calls Tryz.prog 92 #[v] w (PlPost ws w):=by
 obtain ⟨A,c,rfl,-⟩:=hv.shape
 obtain ⟨i0,hi0,hz0,hz1,hz2⟩:=info_parts info95
 have HV:=Lib.hid hv
 have HOK:=Lib.hid hok
 have HP:Hid (∀ W v,W.ownsRow w.heap.size 55 2 v (places ws).length (pcl (places ws))→Below w.heap.size w W→PlPost ws w (.returned v) W):=(show ∀ W v,_ from fun W v h hb=>⟨v,rfl,PlV.of_own h,hb,fun k hk=>(World.ownsRow.lt h k hk).1⟩)
 clear hv hok
 generalize hn:ws.length=n at *
 have HN:=Lib.hid hn
 clear hn
 go_enter Tryz.func92,Tryz.ntmps92
 go_wp2_with fail
 go_loopg [10,3,4,5,7] n (fun gg s10 s3 _ _ _ wr=>∃ (i:Nat) (vo:Value),i≤n∧n-i≤gg∧s10=.int .i64 i∧vo=s3∧Hid (wr.ownsRow w.heap.size 55 2 vo (plTo ws i).length (pcl (plTo ws i)))∧Hid (Below w.heap.size w wr))
 case atStart=>exact ⟨0,.slice none 0 0,by omega,by omega,rfl,rfl,World.ownsRow_nil _ _ _ _,Below.refl _ _⟩
 case round=>
  obtain ⟨i,vo,hi,hg,rfl,rfl,HR,HB⟩:=hrel
  have hbz:=HB.out.size
  have hpl:=plTo_len HOK.out (k:=i) (by rw [HN.out];exact hi)
  by_cases hlt:i < n
  · have hltz:(i:Int) < (n:Int):=by omega
    have hVr:=HV.out
    rw [←HN.out] at hVr
    obtain ⟨b,off,A1,c1,A2,c2,rfl,hbw0,zw0,zw1,I1,I2,l1,l2,l3,l4⟩:=hVr.at (k:=i) (by rw [HN.out];exact hlt)
    have z0:=(HB.out.cell (p:=⟨b,off+i*2,none⟩) hbw0).trans zw0
    have z1:=(HB.out.cell (p:=⟨b,off+i*2+1,none⟩) hbw0).trans zw1
    have hbw:b < wr.heap.size:=by omega
    have HI2:=Lib.hid I2
    have hbl:=br_len (HOK.out i (by rw [HN.out];exact hlt))
    have hml:=(HOK.out i (by rw [HN.out];exact hlt)).most
    have HBR:Hid (∀ j,j < (gw ws i).breaks.length→1≤gz (gw ws i).breaks j):=(show ∀ j,_ from fun j hj=>((HOK.out i (by rw [HN.out];exact hlt)).br j hj).1)
    have HC0:Hid (curP ws i 0=plTo ws i++[(i,0)]):=curP_zero ws i
    have HCS:Hid (∀ k,k < (gw ws i).breaks.length→curP ws i (k+1)=curP ws i k++[(i,(gz (gw ws i).breaks k).toNat)]):=(show ∀ k,_ from fun k hk=>curP_succ hk)
    have HCE:Hid (curP ws i (gw ws i).breaks.length=plTo ws (i+1)):=curP_end ws i
    have HCL:Hid (∀ k,(curP ws i k).length≤i*60+61):=(show ∀ k,_ from fun k=>curP_len HOK.out (by rw [HN.out];exact hlt))
    clear hVr I1 I2
    generalize hmm:(gw ws i).breaks.length=m at *
    have HM:=Lib.hid hmm
    generalize hzs:(gw ws i).breaks=zs at *
    have HZS:=Lib.hid hzs
    generalize hsl:(gw ws i).sorts.length=sl at *
    generalize hpn:(plTo ws i).length=pn at *
    have HPN:=Lib.hid hpn
    clear hmm hzs hsl hpn
    have HX:=Lib.hid (Blk.new wr 40 #[.slice A1 sl c1,.slice A2 m c2])
    have HBX:=Lib.hid (HB.out.alloc HB.out.size (Obj.cells #[.slice A1 sl c1,.slice A2 m c2] 40))
    have HRX:=Lib.hid (HR.out.alloc (Obj.cells #[.slice A1 sl c1,.slice A2 m c2] 40))
    have HOB:Hid (∀ t,vo.ownBlock=some t→w.heap.size≤t∧t < wr.heap.size):=(show ∀ t,_ from fun t ht=>HR.out.lt t ht)
    have hws4:(wr.alloc (Obj.cells #[Value.slice A1 sl c1,Value.slice A2 m c2] 40)).heap.size=wr.heap.size+1:=by simp
    go_wp2_with ((at_builtin
                  refine wpList_append_lies _ rfl (.tmp 15) (.tmp 18) 46 (by rfl) w.heap.size 55 i0 _ 2 16 Tryz.underlying46 hi0 hz0 hz1 hz2 rfl (by omega) vo pn _ (by rfl) (HRX.out.alloc _) ⟨wr.heap.size+1,0,none⟩ 1 1 [.int .i64 i,.int .i64 0] (by rfl) (by rfl) (news_two wr _ _ 55) (by simp [Value.oneCell']) (by omega) (by simp only [maxLen];omega) (by omega) (by simp;omega) (wr.heap.size+1+1) (by simp) ?_
                  intro g8 cap8 w8 hown hgrow hat hlt8
                  have HO8:=Lib.hid hown
                  have HG8:=Lib.hid hgrow
                  have e1:w8.cell? ⟨wr.heap.size,1,none⟩=some (.slice A2 m c2):=((HX.out.below (below_new _ _) (by simp)).grown hgrow (fun e=>by have:=HOB.out _ e.symm;omega)).cell 1
                  clear hown hgrow hat))
    have HB8:=Lib.hid ((HBX.out.alloc (by rw [hws4];omega) (Obj.cells #[.int .i64 (i:Int),.int .i64 0] 55)).grown HG8.out (by simp;omega) (fun t ht=>(HOB.out t ht).1))
    have HW8:=Lib.hid (HV.out.below HB8.out)
    have HR8:Hid (w8.ownsRow w.heap.size 55 2 (.slice (some ⟨g8,0,none⟩) (pn+1) cap8) (curP ws i 0).length (pcl (curP ws i 0))):=by
     show World.ownsRow _ _ _ _ _ _ _
     rw [HC0.out,List.length_append,pcl_app,HPN.out]
     exact HO8.out
    clear HO8 HG8 HB HR HBX HRX HX hws4
    go_wp2_with fail
    obtain ⟨wo,rfl⟩:∃ wo:World,wo=wr:=⟨_,rfl⟩
    go_loopg [23,3,7] m (fun gg s23 s3 _ wr=>∃ (k:Nat) (vo:Value),k≤m∧m-k≤gg∧s23=.int .i64 k∧vo=s3∧Hid (wr.ownsRow w.heap.size 55 2 vo (curP ws i k).length (pcl (curP ws i k)))∧Hid (Below w.heap.size w wr))
    case atStart=>exact ⟨0,_,by omega,by omega,rfl,rfl,HR8.out,HB8.out⟩
    case round=>
     obtain ⟨k,vo,hk,hg2,rfl,rfl,HR,HB⟩:=hrel
     have hbz2:=HB.out.size
     have hcl:=HCL.out k
     by_cases hlt2:k < m
     · have hltz2:(k:Int) < (m:Int):=by omega
       have J2:=HI2.out.below HB.out
       rw [←HM.out] at J2
       obtain ⟨bb,ob,rfl,hbb,zz⟩:=J2.at (k:=k) (by rw [HM.out];exact hlt2)
       have hbr1:=HBR.out k hlt2
       have HCS1:=Lib.hid (HCS.out k hlt2)
       have y1:=(HB.out.cell (p:=⟨b,off+i*2+1,none⟩) hbw0).trans zw1
       have y0:b < wr.heap.size:=by omega
       have HOB2:Hid (∀ t,vo.ownBlock=some t→w.heap.size≤t∧t < wr.heap.size):=(show ∀ t,_ from fun t ht=>HR.out.lt t ht)
       have HTN:Hid (((gz zs k).toNat:Int)=gz zs k):=Int.toNat_of_nonneg (by omega)
       generalize hcn:(curP ws i k).length=cn at *
       have HCN:=Lib.hid hcn
       clear J2 hcn
       go_wp2_with ((at_builtin
                     refine wpList_append_lies _ rfl (.tmp 27) (.tmp 31) 46 (by rfl) w.heap.size 55 i0 _ 2 16 Tryz.underlying46 hi0 hz0 hz1 hz2 rfl (by omega) vo cn _ (by rfl) (HR.out.alloc _) ⟨wr.heap.size,0,none⟩ 1 1 [.int .i64 i,.int .i64 (gz zs k)] (by rfl) (by rfl) (World.news_of_block (cs:=#[.int .i64 i,.int .i64 (gz zs k)]) (t:=55) (fr:=(0,0)) (heap_alloc_new wr _)) (by simp [Value.oneCell']) (by omega) (by simp only [maxLen];omega) (by omega) (by simp;omega) (wr.heap.size+1) (by simp) ?_
                     intro g9 cap9 w9 hown hgrow hat hlt8
                     have HO9:=Lib.hid hown
                     have HG9:=Lib.hid hgrow
                     clear hown hgrow hat))
       have HB9:=Lib.hid ((HB.out.alloc HB.out.size (Obj.cells #[.int .i64 (i:Int),.int .i64 (gz zs k)] 55)).grown HG9.out (by simp;omega) (fun t ht=>(HOB2.out t ht).1))
       have HR9:Hid (w9.ownsRow w.heap.size 55 2 (.slice (some ⟨g9,0,none⟩) (cn+1) cap9) (curP ws i (k+1)).length (pcl (curP ws i (k+1)))):=by
        show World.ownsRow _ _ _ _ _ _ _
        rw [HCS1.out,List.length_append,pcl_app,HCN.out,show pcl [(i,(gz zs k).toNat)]=[.int .i64 (i:Int),.int .i64 (gz zs k)] by simp only [pcl,List.flatMap_cons,List.flatMap_nil,List.append_nil,HTN.out]]
        exact HO9.out
       go_roundg (m-(k+1))
       case measure=>omega
       case rel=>exact ⟨k+1,_,by omega,by omega,by go_num,rfl,HR9.out,HB9.out⟩
     · have hltz2:¬(k:Int) < (m:Int):=by omega
       have hke:k=m:=by omega
       have y1:=(HB.out.cell (p:=⟨b,off+i*2+1,none⟩) hbw0).trans zw1
       have y0:b < wr.heap.size:=by omega
       have HR9:Hid (wr.ownsRow w.heap.size 55 2 vo (plTo ws (i+1)).length (pcl (plTo ws (i+1)))):=by
        show World.ownsRow _ _ _ _ _ _ _
        rw [←HCE.out,←hke]
        exact HR.out
       clear hke
       go_wp2_with fail
       go_roundg (n-(i+1))
       case measure=>omega
       case rel=>exact ⟨i+1,_,by omega,by omega,by go_num,rfl,HR9.out,HB.out⟩
  · have hltz:¬(i:Int) < (n:Int):=by omega
    have hke:i=n:=by omega
    have HOB:Hid (∀ t,vo.ownBlock=some t→w.heap.size≤t∧t < wr.heap.size):=(show ∀ t,_ from fun t ht=>HR.out.lt t ht)
    have HPE:Hid (places ws=plTo ws i++[(n,0)]):=by show _=_;unfold places;rw [HN.out,hke]
    generalize hpn:(plTo ws i).length=pn at *
    have HPN:=Lib.hid hpn
    clear hpn hke
    go_wp2_with ((at_builtin
                  refine wpList_append_lies _ rfl (.tmp 35) (.tmp 39) 46 (by rfl) w.heap.size 55 i0 _ 2 16 Tryz.underlying46 hi0 hz0 hz1 hz2 rfl (by omega) vo pn _ (by rfl) (HR.out.alloc _) ⟨wr.heap.size,0,none⟩ 1 1 [.int .i64 n,.int .i64 0] (by rfl) (by rfl) (World.news_of_block (cs:=#[.int .i64 n,.int .i64 0]) (t:=55) (fr:=(0,0)) (heap_alloc_new wr _)) (by simp [Value.oneCell']) (by omega) (by simp only [maxLen];omega) (by omega) (by simp;omega) (wr.heap.size+1) (by simp) ?_
                  intro g9 cap9 w9 hown hgrow hat hlt8
                  have HO9:=Lib.hid hown
                  have HG9:=Lib.hid hgrow
                  clear hown hgrow hat))
    have HB9:=Lib.hid ((HB.out.alloc HB.out.size (Obj.cells #[.int .i64 (n:Int),.int .i64 0] 55)).grown HG9.out (by simp;omega) (fun t ht=>(HOB.out t ht).1))
    have HR9:Hid (w9.ownsRow w.heap.size 55 2 (.slice (some ⟨g9,0,none⟩) (pn+1) cap9) (places ws).length (pcl (places ws))):=by
     show World.ownsRow _ _ _ _ _ _ _
     rw [HPE.out,List.length_append,pcl_app,HPN.out]
     exact HO9.out
    go_ret
    exact HP.out _ _ HR9.out HB9.out
theorem refPlaces_any (ns:Nat) (ws:List PWord) (v:Value) (w:World) (hv:WoV w ws v) (hok:WsOk ns ws) (hm:ws.length≤200) :
 Calls Tryz.prog 30 #[v] w (PlPost ws w):=by
 obtain ⟨A,c,rfl,-⟩:=hv.shape
 obtain ⟨i0,hi0,hz0,hz1,hz2⟩:=info_parts info95
 have HV:=Lib.hid hv
 have HOK:=Lib.hid hok
 have HP:Hid (∀ W v,W.ownsRow w.heap.size 55 2 v (places ws).length (pcl (places ws))→Below w.heap.size w W→PlPost ws w (.returned v) W):=(show ∀ W v,_ from fun W v h hb=>⟨v,rfl,PlV.of_own h,hb,fun k hk=>(World.ownsRow.lt h k hk).1⟩)
 clear hv hok
 generalize hn:ws.length=n at *
 have HN:=Lib.hid hn
 clear hn
 go_enter Tryz.func30,Tryz.ntmps30
 go_wp2_with fail
 go_loopg [4,3] n (fun gg s4 s3 wr=>∃ (i:Nat) (vo:Value),i≤n∧n-i≤gg∧s4=.int .i64 i∧vo=s3∧Hid (wr.ownsRow w.heap.size 55 2 vo (plTo ws i).length (pcl (plTo ws i)))∧Hid (Below w.heap.size w wr))
 case atStart=>exact ⟨0,.slice none 0 0,by omega,by omega,rfl,rfl,World.ownsRow_nil _ _ _ _,Below.refl _ _⟩
 case round=>
  obtain ⟨i,vo,hi,hg,rfl,rfl,HR,HB⟩:=hrel
  have hbz:=HB.out.size
  have hpl:=plTo_len HOK.out (k:=i) (by rw [HN.out];exact hi)
  by_cases hlt:i < n
  · have hltz:(i:Int) < (n:Int):=by omega
    have hVr:=HV.out
    rw [←HN.out] at hVr
    obtain ⟨b,off,A1,c1,A2,c2,rfl,hbw0,zw0,zw1,I1,I2,l1,l2,l3,l4⟩:=hVr.at (k:=i) (by rw [HN.out];exact hlt)
    have z0:=(HB.out.cell (p:=⟨b,off+i*2,none⟩) hbw0).trans zw0
    have z1:=(HB.out.cell (p:=⟨b,off+i*2+1,none⟩) hbw0).trans zw1
    have hbw:b < wr.heap.size:=by omega
    have HI2:=Lib.hid I2
    have hbl:=br_len (HOK.out i (by rw [HN.out];exact hlt))
    have hml:=(HOK.out i (by rw [HN.out];exact hlt)).most
    have HBR:Hid (∀ j,j < (gw ws i).breaks.length→1≤gz (gw ws i).breaks j):=(show ∀ j,_ from fun j hj=>((HOK.out i (by rw [HN.out];exact hlt)).br j hj).1)
    have HC0:Hid (curP ws i 0=plTo ws i++[(i,0)]):=curP_zero ws i
    have HCS:Hid (∀ k,k < (gw ws i).breaks.length→curP ws i (k+1)=curP ws i k++[(i,(gz (gw ws i).breaks k).toNat)]):=(show ∀ k,_ from fun k hk=>curP_succ hk)
    have HCE:Hid (curP ws i (gw ws i).breaks.length=plTo ws (i+1)):=curP_end ws i
    have HCL:Hid (∀ k,(curP ws i k).length≤i*60+61):=(show ∀ k,_ from fun k=>curP_len HOK.out (by rw [HN.out];exact hlt))
    clear hVr I1 I2
    generalize hmm:(gw ws i).breaks.length=m at *
    have HM:=Lib.hid hmm
    generalize hzs:(gw ws i).breaks=zs at *
    have HZS:=Lib.hid hzs
    generalize hsl:(gw ws i).sorts.length=sl at *
    generalize hpn:(plTo ws i).length=pn at *
    have HPN:=Lib.hid hpn
    clear hmm hzs hsl hpn
    have HOB:Hid (∀ t,vo.ownBlock=some t→w.heap.size≤t∧t < wr.heap.size):=(show ∀ t,_ from fun t ht=>HR.out.lt t ht)
    go_wp2_with ((at_builtin
                  refine wpList_append_lies _ rfl (.tmp 12) (.tmp 15) 46 (by rfl) w.heap.size 55 i0 _ 2 16 Tryz.underlying46 hi0 hz0 hz1 hz2 rfl (by omega) vo pn _ (by rfl) (HR.out.alloc _) ⟨wr.heap.size,0,none⟩ 1 1 [.int .i64 i,.int .i64 0] (by rfl) (by rfl) (World.news_of_block (cs:=#[.int .i64 i,.int .i64 0]) (t:=55) (fr:=(0,0)) (heap_alloc_new wr _)) (by simp [Value.oneCell']) (by omega) (by simp only [maxLen];omega) (by omega) (by simp;omega) (wr.heap.size+1) (by simp) ?_
                  intro g8 cap8 w8 hown hgrow hat hlt8
                  have HO8:=Lib.hid hown
                  have HG8:=Lib.hid hgrow
                  clear hown hgrow hat))
    have HB8:=Lib.hid ((HB.out.alloc HB.out.size (Obj.cells #[.int .i64 (i:Int),.int .i64 0] 55)).grown HG8.out (by simp;omega) (fun t ht=>(HOB.out t ht).1))
    have HW8:=Lib.hid (HV.out.below HB8.out)
    have HR8:Hid (w8.ownsRow w.heap.size 55 2 (.slice (some ⟨g8,0,none⟩) (pn+1) cap8) (curP ws i 0).length (pcl (curP ws i 0))):=by
     show World.ownsRow _ _ _ _ _ _ _
     rw [HC0.out,List.length_append,pcl_app,HPN.out]
     exact HO8.out
    clear HO8 HG8 HB HR
    go_wp2_with fail
    obtain ⟨wo,rfl⟩:∃ wo:World,wo=wr:=⟨_,rfl⟩
    go_loopg [5,3] m (fun gg s5 s3 wr=>∃ (k:Nat) (vo:Value),k≤m∧m-k≤gg∧s5=.int .i64 k∧vo=s3∧Hid (wr.ownsRow w.heap.size 55 2 vo (curP ws i k).length (pcl (curP ws i k)))∧Hid (Below w.heap.size w wr))
    case atStart=>exact ⟨0,_,by omega,by omega,rfl,rfl,HR8.out,HB8.out⟩
    case round=>
     obtain ⟨k,vo,hk,hg2,rfl,rfl,HR,HB⟩:=hrel
     have hbz2:=HB.out.size
     have hcl:=HCL.out k
     by_cases hlt2:k < m
     · have hltz2:(k:Int) < (m:Int):=by omega
       have J2:=HI2.out.below HB.out
       rw [←HM.out] at J2
       obtain ⟨bb,ob,rfl,hbb,zz⟩:=J2.at (k:=k) (by rw [HM.out];exact hlt2)
       have hbr1:=HBR.out k hlt2
       have HCS1:=Lib.hid (HCS.out k hlt2)
       have y1:=(HB.out.cell (p:=⟨b,off+i*2+1,none⟩) hbw0).trans zw1
       have y0:b < wr.heap.size:=by omega
       have HOB2:Hid (∀ t,vo.ownBlock=some t→w.heap.size≤t∧t < wr.heap.size):=(show ∀ t,_ from fun t ht=>HR.out.lt t ht)
       have HTN:Hid (((gz zs k).toNat:Int)=gz zs k):=Int.toNat_of_nonneg (by omega)
       generalize hcn:(curP ws i k).length=cn at *
       have HCN:=Lib.hid hcn
       clear J2 hcn
       go_wp2_with ((at_builtin
                     refine wpList_append_lies _ rfl (.tmp 27) (.tmp 38) 46 (by rfl) w.heap.size 55 i0 _ 2 16 Tryz.underlying46 hi0 hz0 hz1 hz2 rfl (by omega) vo cn _ (by rfl) (HR.out.alloc _) ⟨wr.heap.size,0,none⟩ 1 1 [.int .i64 i,.int .i64 (gz zs k)] (by rfl) (by rfl) (World.news_of_block (cs:=#[.int .i64 i,.int .i64 (gz zs k)]) (t:=55) (fr:=(0,0)) (heap_alloc_new wr _)) (by simp [Value.oneCell']) (by omega) (by simp only [maxLen];omega) (by omega) (by simp;omega) (wr.heap.size+1) (by simp) ?_
                     intro g9 cap9 w9 hown hgrow hat hlt8
                     have HO9:=Lib.hid hown
                     have HG9:=Lib.hid hgrow
                     clear hown hgrow hat))
       have HB9:=Lib.hid ((HB.out.alloc HB.out.size (Obj.cells #[.int .i64 (i:Int),.int .i64 (gz zs k)] 55)).grown HG9.out (by simp;omega) (fun t ht=>(HOB2.out t ht).1))
       have HR9:Hid (w9.ownsRow w.heap.size 55 2 (.slice (some ⟨g9,0,none⟩) (cn+1) cap9) (curP ws i (k+1)).length (pcl (curP ws i (k+1)))):=by
        show World.ownsRow _ _ _ _ _ _ _
        rw [HCS1.out,List.length_append,pcl_app,HCN.out,show pcl [(i,(gz zs k).toNat)]=[.int .i64 (i:Int),.int .i64 (gz zs k)] by simp only [pcl,List.flatMap_cons,List.flatMap_nil,List.append_nil,HTN.out]]
        exact HO9.out
       go_roundg (m-(k+1))
       case measure=>omega
       case rel=>exact ⟨k+1,_,by omega,by omega,by go_num,rfl,HR9.out,HB9.out⟩
     · have hltz2:¬(k:Int) < (m:Int):=by omega
       have hke:k=m:=by omega
       have y1:=(HB.out.cell (p:=⟨b,off+i*2+1,none⟩) hbw0).trans zw1
       have y0:b < wr.heap.size:=by omega
       have HR9:Hid (wr.ownsRow w.heap.size 55 2 vo (plTo ws (i+1)).length (pcl (plTo ws (i+1)))):=by
        show World.ownsRow _ _ _ _ _ _ _
        rw [←HCE.out,←hke]
        exact HR.out
       clear hke
       go_wp2_with fail
       go_roundg (n-(i+1))
       case measure=>omega
       case rel=>exact ⟨i+1,_,by omega,by omega,by go_num,rfl,HR9.out,HB.out⟩
  · have hltz:¬(i:Int) < (n:Int):=by omega
    have hke:i=n:=by omega
    have HOB:Hid (∀ t,vo.ownBlock=some t→w.heap.size≤t∧t < wr.heap.size):=(show ∀ t,_ from fun t ht=>HR.out.lt t ht)
    have HPE:Hid (places ws=plTo ws i++[(n,0)]):=by show _=_;unfold places;rw [HN.out,hke]
    generalize hpn:(plTo ws i).length=pn at *
    have HPN:=Lib.hid hpn
    clear hpn hke
    go_wp2_with ((at_builtin
                  refine wpList_append_lies _ rfl (.tmp 40) (.tmp 44) 46 (by rfl) w.heap.size 55 i0 _ 2 16 Tryz.underlying46 hi0 hz0 hz1 hz2 rfl (by omega) vo pn _ (by rfl) (HR.out.alloc _) ⟨wr.heap.size,0,none⟩ 1 1 [.int .i64 n,.int .i64 0] (by rfl) (by rfl) (World.news_of_block (cs:=#[.int .i64 n,.int .i64 0]) (t:=55) (fr:=(0,0)) (heap_alloc_new wr _)) (by simp [Value.oneCell']) (by omega) (by simp only [maxLen];omega) (by omega) (by simp;omega) (wr.heap.size+1) (by simp) ?_
                  intro g9 cap9 w9 hown hgrow hat hlt8
                  have HO9:=Lib.hid hown
                  have HG9:=Lib.hid hgrow
                  clear hown hgrow hat))
    have HB9:=Lib.hid ((HB.out.alloc HB.out.size (Obj.cells #[.int .i64 (n:Int),.int .i64 0] 55)).grown HG9.out (by simp;omega) (fun t ht=>(HOB.out t ht).1))
    have HR9:Hid (w9.ownsRow w.heap.size 55 2 (.slice (some ⟨g9,0,none⟩) (pn+1) cap9) (places ws).length (pcl (places ws))):=by
     show World.ownsRow _ _ _ _ _ _ _
     rw [HPE.out,List.length_append,pcl_app,HPN.out]
     exact HO9.out
    go_ret
    exact HP.out _ _ HR9.out HB9.out
end Go.Proofs.YtbnganlfelgogaaGreat
