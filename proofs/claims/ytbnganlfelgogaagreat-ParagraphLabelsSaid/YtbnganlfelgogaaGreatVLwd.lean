/- CopyFount, Own. -/
import Derived.Test.YtbnganlfelgogaaGreatVRvs
import Derived.Test.YtbnganlfelgogaaGreatVLnm
set_option linter.unusedSimpArgs false
set_option linter.unusedVariables false
set_option maxRecDepth 100000
set_option maxHeartbeats 40000000
namespace Go.Proofs.YtbnganlfelgogaaGreat
open Go.RowKit
def socl (l:List TSort):List Value:=l.flatMap fun x=>[.string x.name,.string x.text,.int .i64 x.kind,.int .i64 x.width]
theorem socl_len:∀ l:List TSort,(socl l).length=l.length*4
 | []=>rfl
 | x :: l=>by
  have e:socl (x :: l)=[.string x.name,.string x.text,.int .i64 x.kind,.int .i64 x.width]++socl l:=rfl
  rw [e,List.length_append,socl_len l]
  simp only [List.length_cons,List.length_nil]
  omega
theorem socl_get:∀ (l:List TSort) (j:Nat),j < l.length→(socl l)[j*4]?=some (.string (gs l j).name)∧(socl l)[j*4+1]?=some (.string (gs l j).text)∧(socl l)[j*4+2]?=some (.int .i64 (gs l j).kind)∧(socl l)[j*4+3]?=some (.int .i64 (gs l j).width)
 | [],j,h=>by simp at h
 | x :: l,0,_=>⟨rfl,rfl,rfl,rfl⟩
 | x :: l,j+1,h=>by
  have e:socl (x :: l)=.string x.name :: .string x.text :: .int .i64 x.kind :: .int .i64 x.width :: socl l:=rfl
  have ih:=socl_get l j (by simpa using h)
  rw [e,show (j+1)*4=j*4+1+1+1+1 by omega,show j*4+1+1+1+1+1=(j*4+1)+1+1+1+1 by omega,show j*4+1+1+1+1+2=(j*4+2)+1+1+1+1 by omega,show j*4+1+1+1+1+3=(j*4+3)+1+1+1+1 by omega]
  simpa [gs] using ih
theorem socl_one (l:List TSort):∀ u ∈ socl l,u.oneCell'=true:=fun u hu=>by
 obtain ⟨x,-,hx⟩:=List.mem_flatMap.1 hu
 simp only [List.mem_cons,List.not_mem_nil,or_false] at hx
 rcases hx with rfl | rfl | rfl | rfl <;> rfl
theorem four_cases (j:Nat):∃ q i,j=q*4+i∧(i=0∨i=1∨i=2∨i=3):=⟨j / 4,j % 4,by omega,by omega⟩
theorem SsAt.news {w:World} {b off:Nat} {l:List TSort} (h:SsAt w b off l):∀ j,j < l.length*4→w.cell? ⟨b,off+j,none⟩=(socl l)[j]?:=fun j hj=>by
 obtain ⟨q,i,rfl,hi⟩:=four_cases j
 obtain ⟨a0,a1,a2,a3⟩:=h q (by omega)
 obtain ⟨b0,b1,b2,b3⟩:=socl_get l q (by omega)
 rcases hi with rfl | rfl | rfl | rfl
 · rw [Nat.add_zero,b0];exact a0
 · rw [b1,←Nat.add_assoc];exact a1
 · rw [b2,←Nat.add_assoc];exact a2
 · rw [b3,←Nat.add_assoc];exact a3
def SoO (W:World) (B:Nat) (l:List TSort) (v:Value):Prop:=W.ownsRow B 145 4 v l.length (socl l)
theorem SoO.sov {W:World} {B:Nat} {l:List TSort} {v:Value} (h:SoO W B l v) (hz:SzOk l):SoV W l v:=by
 obtain ⟨A,b,off,c,rfl,h1,h2,h3⟩:=rv_of_own h (socl_len l)
 refine ⟨A,b,off,c,rfl,h1,fun j hj=>?_,h3.1,h3.2,hz⟩
 obtain ⟨b0,b1,b2,b3⟩:=socl_get l j hj
 have hc:∀ i,i < 4→W.cell? ⟨b,off+j*4+i,none⟩=(socl l)[j*4+i]?:=fun i hi=>by
  have:=h2 (j*4+i) (by omega)
  dsimp only at this
  rw [←Nat.add_assoc] at this
  rw [this,List.getD_eq_getElem?_getD,List.getElem?_eq_getElem (by rw [socl_len];omega)]
  rfl
 exact ⟨(hc 0 (by omega)).trans b0,(hc 1 (by omega)).trans b1,(hc 2 (by omega)).trans b2,(hc 3 (by omega)).trans b3⟩
theorem SoO.shape {W:World} {B:Nat} {l:List TSort} {v:Value} (h:SoO W B l v):∃ A c,v=.slice A l.length c:=by
 rcases h.2 with ⟨rfl,h0⟩ | ⟨g,cap,cur,rfl,_⟩
 · exact ⟨none,0,by rw [h0]⟩
 · exact ⟨_,cap,rfl⟩
theorem wpList_copyH {P:Program} {ops:Array Oper} {rest:List Oper} {o:Oper} {a:Act} {w w0:World} {Q:Exit→Act→World→Prop} (hgd:o.guard=none) (s x:Operand) (t:TypeId)
 (ho:o.op=.call { callee:=.builtin .append,args:=#[s,x],argTypes:=#[t,t] })
 (e:TypeId) (i:TypeInfo) (z:Value) (size bytes:Nat) (ht:P.underlying t=some (.slice e)) (hi:P.info? e=some i) (hz:i.zero=some z)
 (hsize:i.size=size) (hby:i.bytes=bytes) (hzs:z.cells.size=size) (hsz:0 < size) (H:Nat) (hH:w0.heap.size=H)
 (hw:w=w0.alloc (.cells #[] e)) (hs:a.eval s=.slice (some ⟨H,0,none⟩) 0 0)
 (A:Option Addr) (b off m c:Nat) (news:List Value) (hx:a.eval x=.slice A m c) (hl:news.length=m*size) (hA:Lies A m w0.heap.size b off) (hnews:∀ j,j < m*size→w0.cell? ⟨b,off+j,none⟩=news[j]?) (h1:∀ u ∈ news,u.oneCell'=true)
 (h63:m≤maxLen) (hbytes:m*bytes≤140737488355328)
 (h:∀ v' w',w'.ownsRow w0.heap.size e size v' m news→Below w0.heap.size w0 w'→wpList P ops Q rest (a.put o.dst v') w'):wpList P ops Q (o :: rest) a w:=by
 subst hH
 exact wpList_copy hgd s x t ho e i z size bytes ht hi hz hsize hby hzs hsz hw hs A b off m c news hx hl hA hnews h1 h63 hbytes h
theorem info128:(Tryz.prog.info? 145).map (fun i=>(i.zero,i.size,i.bytes))=some (some (.agg #[.string ⟨#[]⟩,.string ⟨#[]⟩,.int .i64 0,.int .i64 0]),4,48):=by kernel_rfl
theorem info24:(Tryz.prog.info? 24).map (·.size)=some 3:=by kernel_rfl
def CfPost (f:Fnt) (w:World) (e:Ending) (w':World):Prop:=∃ v,e=.returned (.agg (fcs f v))∧SoO w' w.heap.size f.sorts v∧Below w.heap.size w w'
theorem copyFount_any (f:Fnt) (v:Value) (w:World) (hv:SoV w f.sorts v) (hm:f.sorts.length≤100000):Calls Tryz.prog 25 #[.agg (fcs f v)] w (CfPost f w):=by
 have hsz:=hv
 obtain ⟨A,b,off,c,rfl,hA,hss,hc1,hc2,hz⟩:=hsz
 have HZ:=Lib.hid hz
 have HV:=Lib.hid hv
 clear hv hz
 obtain ⟨i0,hi0,hz0,hz1,hz2⟩:=info_parts info128
 have hB2:Below w.heap.size w ((w.alloc (.cells (fcs f (.slice A f.sorts.length c)) 24)).alloc (.cells #[.string ⟨#[]⟩,.int .i64 0,.slice none 0 0] 24)):=(below_new w _).trans ((below_new (w.alloc (.cells (fcs f (.slice A f.sorts.length c)) 24)) _).mono (by simp))
 have hA2:=hA.mono hB2.size
 have hss2:SsAt ((w.alloc (.cells (fcs f (.slice A f.sorts.length c)) 24)).alloc (.cells #[.string ⟨#[]⟩,.int .i64 0,.slice none 0 0] 24)) b off f.sorts:=fun j hj=>(hss j hj).below hB2 (hA (by omega)).2
 have HH:=Lib.hid hss2.news
 have HL:=Lib.hid (socl_len f.sorts)
 have HO1:=Lib.hid (socl_one f.sorts)
 clear hss hss2
 have hH2:((w.alloc (.cells (fcs f (.slice A f.sorts.length c)) 24)).alloc (.cells #[.string ⟨#[]⟩,.int .i64 0,.slice none 0 0] 24)).heap.size=w.heap.size+1+1:=by simp
 go_enter Tryz.func25,Tryz.ntmps25
 go_wp2_with ((at_builtin
               refine wpList_copyH rfl (.tmp 3) (.tmp 5) 22 rfl 145 i0 _ 4 48 Tryz.underlying22 hi0 hz0 hz1 hz2 rfl (by omega) (w.heap.size+1+1) hH2 rfl rfl A b off f.sorts.length c _ rfl HL.out hA2 HH.out HO1.out (by simp only [maxLen];omega) (by omega) ?_
               intro v1 w1 hown1 hg1
               have hso1:SoO w1 (((w.alloc (.cells (fcs f (.slice A f.sorts.length c)) 24)).alloc (.cells #[.string ⟨#[]⟩,.int .i64 0,.slice none 0 0] 24)).heap.size) f.sorts v1:=hown1
               obtain ⟨A1,c1,rfl⟩:=hso1.shape
               rw [hH2] at hso1
               have HSO:=Lib.hid hso1
               have hk0:=((Blk.new w 24 (fcs f (.slice A f.sorts.length c))).below (below_new (w.alloc (.cells (fcs f (.slice A f.sorts.length c)) 24)) (.cells #[.string ⟨#[]⟩,.int .i64 0,.slice none 0 0] 24)) (by simp)).below hg1 (by rw [hH2];omega)
               have hk1:=(Blk.new (w.alloc (.cells (fcs f (.slice A f.sorts.length c)) 24)) 24 #[.string ⟨#[]⟩,.int .i64 0,.slice none 0 0]).below hg1 (by simp)
               rw [World.size_alloc] at hk1
               have HK0:=Lib.hid hk0
               have HK1:=Lib.hid hk1
               have HB1:=Lib.hid (hB2.trans (hg1.mono hB2.size))
               have a0:=hk0.cell 0
               have a1:=hk0.cell 1
               have a2:=hk0.cell 2
               have al:=hk0.lt
               have af:=Blk.frozen hk0 2
               have b0:=hk1.cell 0
               have b1:=hk1.cell 1
               have b2:=hk1.cell 2
               have bl:=hk1.lt
               have bf0:=Blk.frozen hk1 0
               have bf1:=Blk.frozen hk1 1
               have bf2:=Blk.frozen hk1 2
               clear hown1 hg1 hso1 hk0 hk1))
 have hne:w.heap.size+1≠w.heap.size:=by omega
 have hg:Blk ((((w1.setCell ⟨w.heap.size,2,none⟩ (.slice A1 f.sorts.length c1)).setCell ⟨w.heap.size+1,0,none⟩ (.string f.name)).setCell ⟨w.heap.size+1,1,none⟩ (.int .i64 f.body)).setCell ⟨w.heap.size+1,2,none⟩ (.slice A1 f.sorts.length c1)) (w.heap.size+1) 24 (fcs f (.slice A1 f.sorts.length c1)):=by
  have h1:Blk (w1.setCell ⟨w.heap.size,2,none⟩ (.slice A1 f.sorts.length c1)) (w.heap.size+1) 24 _:=(Below.heap_setCell _ _ _ _ hne).trans HK1.out
  have h2:=((h1.set_ 0 (.string f.name)).set_ 1 (.int .i64 f.body)).set_ 2 (.slice A1 f.sorts.length c1)
  simpa using h2
 refine bodyPost_ret (results_cell_row rfl _ _ (w.heap.size+1) 24 _ (0,0) _ rfl hg Tryz.underlying24 rfl info24) rfl ⟨_,rfl,?_,?_⟩
 · refine World.ownsRow.mono (base:=w.heap.size+1+1) ?_ (by omega)
   exact ownsRow_setCell_below (ownsRow_setCell_below (ownsRow_setCell_below (ownsRow_setCell_below HSO.out (by show w.heap.size < _;omega) _) (by show w.heap.size+1 < _;omega) _) (by show w.heap.size+1 < _;omega) _) (by show w.heap.size+1 < _;omega) _
 · exact (((HB1.out.setCell (p:=⟨w.heap.size,2,none⟩) (Nat.le_refl _) _).setCell (p:=⟨w.heap.size+1,0,none⟩) (by show _≤w.heap.size+1;omega) _).setCell (p:=⟨w.heap.size+1,1,none⟩) (by show _≤w.heap.size+1;omega) _).setCell (p:=⟨w.heap.size+1,2,none⟩) (by show _≤w.heap.size+1;omega) _
theorem info29:(Tryz.prog.info? 29).map (·.size)=some 12:=by kernel_rfl
def put12 (W:World) (g:Nat) (d:Nat→Value):Nat→World
 | 0=>W
 | k+1=>(put12 W g d k).setCell ⟨g,k,none⟩ (d k)
theorem put12_blk {W:World} {g:Nat} {t:TypeId} {cs:Array Value} (h:Blk W g t cs) (d:Nat→Value):∀ k,Blk (put12 W g d k) g t (List.foldl (fun (a:Array Value) i=>a.setIfInBounds i (d i)) cs (List.range k))
 | 0=>h
 | k+1=>by
  rw [List.range_succ,List.foldl_append]
  exact Blk.set_ (put12_blk h d k) k (d k)
theorem put12_below {W W0:World} {B g:Nat} (hb:Below B W0 W) (hg:B≤g) (d:Nat→Value):∀ k,Below B W0 (put12 W g d k)
 | 0=>hb
 | k+1=>(put12_below hb hg d k).setCell (p:=⟨g,k,none⟩) hg _
def OwPost (f:Fnt) (r:Rls) (ws:List PWord) (w:World) (e:Ending) (w':World):Prop:=∃ v vw,e=.returned (.agg (xcs f v r vw))∧SoV w' f.sorts v∧WoV w' ws vw∧Below w.heap.size w w'
theorem WoS.set_ {W:World} {B:Nat} {ws:List PWord} {v:Value} {hd:List (Value × Value)} (h:WoS W B ws v hd) {a:Addr} (ha:a.block < B) (u:Value):WoS (W.setCell a u) B ws v hd:=
 ⟨ownsRow_setCell_below h.row ha u,h.len,fun i hi=>⟨ownsRow_setCell_below (h.pc i hi).1 ha u,ownsRow_setCell_below (h.pc i hi).2 ha u⟩⟩
theorem WoS.base {W:World} {B B':Nat} {ws:List PWord} {v:Value} {hd:List (Value × Value)} (h:WoS W B ws v hd) (hB:B'≤B):WoS W B' ws v hd:=
 ⟨World.ownsRow.mono h.row hB,h.len,fun i hi=>⟨(h.pc i hi).1.base hB,(h.pc i hi).2.base hB⟩⟩
theorem fold_set (cs:Array Value) (d:Nat→Value):∀ k,k≤cs.size→∀ j,(List.foldl (fun (a:Array Value) i=>a.setIfInBounds i (d i)) cs (List.range k))[j]?=if j < k then some (d j) else cs[j]?
 | 0,_,j=>by simp
 | k+1,hk,j=>by
  have ih:=fold_set cs d k (by omega)
  rw [List.range_succ,List.foldl_append]
  show ((List.foldl (fun (a:Array Value) i=>a.setIfInBounds i (d i)) cs (List.range k)).setIfInBounds k (d k))[j]?=_
  have hs:k < (List.foldl (fun (a:Array Value) i=>a.setIfInBounds i (d i)) cs (List.range k)).size:=by
   rcases Nat.lt_or_ge k (List.foldl (fun (a:Array Value) i=>a.setIfInBounds i (d i)) cs (List.range k)).size with h | h
   · exact h
   · have h1:=ih k
     rw [Array.getElem?_eq_none h,if_neg (Nat.lt_irrefl _),Array.getElem?_eq_getElem (by omega)] at h1
     cases h1
  rw [Array.getElem?_setIfInBounds]
  by_cases e:k=j
  · subst e
    rw [if_pos rfl,if_pos hs,if_pos (by omega)]
  · rw [if_neg e,ih j]
    by_cases h:j < k
    · rw [if_pos h,if_pos (by omega)]
    · rw [if_neg h,if_neg (by omega)]
def xd (f:Fnt) (v:Value) (r:Rls) (vw:Value) (i:Nat):Value:=(xcs f v r vw).getD i undef
theorem own_fin (f:Fnt) (Af:Option Addr) (cf:Nat) (r:Rls) (ws:List PWord) (Ag:Option Addr) (cg:Nat) (w W2 w5:World) (hd:List (Value × Value)) (cs:Array Value) (hz:SzOk f.sorts) (hk:Blk w5 (w.heap.size+1) 29 cs) (hb:Below w.heap.size w w5) (hg:w.heap.size+1 < W2.heap.size)
 (hs:SoO w5 W2.heap.size f.sorts (.slice Af f.sorts.length cf)) (hw:WoS w5 W2.heap.size ws (.slice Ag ws.length cg) hd) (hcs:cs.size=12) {tmps:Array Value} (hp:tmps.getD 2 undef=.pointer (some ⟨w.heap.size+1,0,none⟩)) :
 bodyPost Tryz.prog Tryz.f20 (OwPost f r ws w) .ret { tmps:=tmps,defers:=[] } (put12 w5 (w.heap.size+1) (xd f (.slice Af f.sorts.length cf) r (.slice Ag ws.length cg)) 12):=by
 have h1:=put12_blk hk (xd f (.slice Af f.sorts.length cf) r (.slice Ag ws.length cg)) 12
 have h2:Blk (put12 w5 (w.heap.size+1) (xd f (.slice Af f.sorts.length cf) r (.slice Ag ws.length cg)) 12) (w.heap.size+1) 29 (xcs f (.slice Af f.sorts.length cf) r (.slice Ag ws.length cg)):=by
  have e:List.foldl (fun (a:Array Value) i=>a.setIfInBounds i (xd f (.slice Af f.sorts.length cf) r (.slice Ag ws.length cg) i)) cs (List.range 12)=xcs f (.slice Af f.sorts.length cf) r (.slice Ag ws.length cg):=by
   have h0:=fold_set cs (xd f (.slice Af f.sorts.length cf) r (.slice Ag ws.length cg)) 12 (by omega)
   apply Array.ext_getElem?
   intro j
   rw [h0 j]
   by_cases hj:j < 12
   · rw [if_pos hj]
     unfold xd
     rw [Array.getD_eq_getD_getElem?,Array.getElem?_eq_getElem (show j < (xcs f (.slice Af f.sorts.length cf) r (.slice Ag ws.length cg)).size from hj)]
     rfl
   · rw [if_neg hj,Array.getElem?_eq_none (by omega),Array.getElem?_eq_none (show (xcs f (.slice Af f.sorts.length cf) r (.slice Ag ws.length cg)).size≤j by show 12≤j;omega)]
  rw [e] at h1
  exact h1
 have h3:=put12_below hb (show w.heap.size≤w.heap.size+1 by omega) (xd f (.slice Af f.sorts.length cf) r (.slice Ag ws.length cg)) 12
 have h4:∀ k,SoO (put12 w5 (w.heap.size+1) (xd f (.slice Af f.sorts.length cf) r (.slice Ag ws.length cg)) k) W2.heap.size f.sorts (.slice Af f.sorts.length cf)∧WoS (put12 w5 (w.heap.size+1) (xd f (.slice Af f.sorts.length cf) r (.slice Ag ws.length cg)) k) W2.heap.size ws (.slice Ag ws.length cg) hd:=by
  intro k
  induction k with
  | zero=>exact ⟨hs,hw⟩
  | succ k ih=>exact ⟨ownsRow_setCell_below ih.1 hg _,ih.2.set_ hg _⟩
 exact bodyPost_ret (results_cell_row rfl _ _ (w.heap.size+1) 29 _ (0,0) _ hp h2 Tryz.underlying29 rfl info29) rfl ⟨_,_,rfl,(h4 12).1.sov hz,(h4 12).2.wov,h3⟩
theorem own_any (f:Fnt) (v:Value) (r:Rls) (ws:List PWord) (vw:Value) (w:World) (hv:SoV w f.sorts v) (hw:WoV w ws vw) (hs:Sml f ws):Calls Tryz.prog 20 #[.agg (xcs f v r vw)] w (OwPost f r ws w):=by
 have hzz:SzOk f.sorts:=by obtain ⟨_,_,_,_,_,_,_,_,_,hz⟩:=hv;exact hz
 have HZZ:=Lib.hid hzz
 clear hzz
 have HCF:=Lib.hid (fun W (h:Below w.heap.size w W)=>copyFount_any f v W (hv.below h) (by have:=hs.1;omega))
 have HCW:=Lib.hid (fun W (h:Below w.heap.size w W)=>copyWords_any ws vw W (hw.below h) (by have:=hs.2.1;omega) (fun i hi=>by have:=hs.2.2 i hi;omega))
 obtain ⟨A,c,rfl⟩:=hv.shape
 obtain ⟨Aw,cw,rfl,-⟩:=hw.shape
 clear hv hw hs
 go_enter Tryz.func20,Tryz.ntmps20
 go_wp2_with fail
 have hB2:Below w.heap.size w ((w.alloc (.cells (xcs f (.slice A f.sorts.length c) r (.slice Aw ws.length cw)) 29)).alloc (.cells #[.string ⟨#[]⟩,.int .i64 0,.slice none 0 0,.int .i64 0,.int .i64 0,.int .i64 0,.int .i64 0,.int .i64 0,.int .i64 0,.int .i64 0,.int .i64 0,.slice none 0 0] 29)):=(below_new w _).trans ((below_new (w.alloc (.cells (xcs f (.slice A f.sorts.length c) r (.slice Aw ws.length cw)) 29)) _).mono (by simp))
 have hk0:=(Blk.new w 29 (xcs f (.slice A f.sorts.length c) r (.slice Aw ws.length cw))).below (below_new (w.alloc (.cells (xcs f (.slice A f.sorts.length c) r (.slice Aw ws.length cw)) 29)) (.cells #[.string ⟨#[]⟩,.int .i64 0,.slice none 0 0,.int .i64 0,.int .i64 0,.int .i64 0,.int .i64 0,.int .i64 0,.int .i64 0,.int .i64 0,.int .i64 0,.slice none 0 0] 29)) (by simp)
 have hk1:=Blk.new (w.alloc (.cells (xcs f (.slice A f.sorts.length c) r (.slice Aw ws.length cw)) 29)) 29 #[.string ⟨#[]⟩,.int .i64 0,.slice none 0 0,.int .i64 0,.int .i64 0,.int .i64 0,.int .i64 0,.int .i64 0,.int .i64 0,.int .i64 0,.int .i64 0,.slice none 0 0]
 have hsz2:((w.alloc (.cells (xcs f (.slice A f.sorts.length c) r (.slice Aw ws.length cw)) 29)).alloc (.cells #[.string ⟨#[]⟩,.int .i64 0,.slice none 0 0,.int .i64 0,.int .i64 0,.int .i64 0,.int .i64 0,.int .i64 0,.int .i64 0,.int .i64 0,.int .i64 0,.slice none 0 0] 29)).heap.size=w.heap.size+1+1:=by simp
 rw [World.size_alloc] at hk1
 generalize ((w.alloc (.cells (xcs f (.slice A f.sorts.length c) r (.slice Aw ws.length cw)) 29)).alloc (.cells #[.string ⟨#[]⟩,.int .i64 0,.slice none 0 0,.int .i64 0,.int .i64 0,.int .i64 0,.int .i64 0,.int .i64 0,.int .i64 0,.int .i64 0,.int .i64 0,.slice none 0 0] 29))=W2 at *
 have HB2:=Lib.hid hB2
 have HK1:=Lib.hid hk1
 have HK0:=Lib.hid hk0
 have HSZ:=Lib.hid hsz2
 have HKS:Hid (∀ W,Below W2.heap.size W2 W→(W.cell? ⟨w.heap.size,0,none⟩=some (.string f.name)∧W.cell? ⟨w.heap.size,1,none⟩=some (.int .i64 f.body)∧W.cell? ⟨w.heap.size,2,none⟩=some (.slice A f.sorts.length c)∧W.cell? ⟨w.heap.size,3,none⟩=some (.int .i64 r.measure)∧W.cell? ⟨w.heap.size,4,none⟩=some (.int .i64 r.indent)∧W.cell? ⟨w.heap.size,5,none⟩=some (.int .i64 r.least)∧W.cell? ⟨w.heap.size,6,none⟩=some (.int .i64 r.most)∧W.cell? ⟨w.heap.size,7,none⟩=some (.int .i64 r.gap)∧W.cell? ⟨w.heap.size,8,none⟩=some (.int .i64 r.hyphen)∧W.cell? ⟨w.heap.size,9,none⟩=some (.int .i64 r.single)∧W.cell? ⟨w.heap.size,10,none⟩=some (.int .i64 r.double)∧W.cell? ⟨w.heap.size,11,none⟩=some (.slice Aw ws.length cw))):=(show ∀ W,_ from fun W hW=>by
  have h:=HK0.out.below hW HK0.out.lt
  exact ⟨h.cell 0,h.cell 1,h.cell 2,h.cell 3,h.cell 4,h.cell 5,h.cell 6,h.cell 7,h.cell 8,h.cell 9,h.cell 10,h.cell 11⟩)
 have hbd:Below W2.heap.size W2 W2.drew:=(Below.refl _ _).drew
 have hbdw:Below w.heap.size w W2.drew:=HB2.out.trans (hbd.mono HB2.out.size)
 have hS0:=HKS.out _ hbd
 clear hB2 hk0 hk1 hsz2
 refine wp_region_split (fun W=>(W.cell? ⟨w.heap.size,0,none⟩=some (.string f.name)∧W.cell? ⟨w.heap.size,1,none⟩=some (.int .i64 f.body)∧W.cell? ⟨w.heap.size,2,none⟩=some (.slice A f.sorts.length c)∧W.cell? ⟨w.heap.size,3,none⟩=some (.int .i64 r.measure)∧W.cell? ⟨w.heap.size,4,none⟩=some (.int .i64 r.indent)∧W.cell? ⟨w.heap.size,5,none⟩=some (.int .i64 r.least)∧W.cell? ⟨w.heap.size,6,none⟩=some (.int .i64 r.most)∧W.cell? ⟨w.heap.size,7,none⟩=some (.int .i64 r.gap)∧W.cell? ⟨w.heap.size,8,none⟩=some (.int .i64 r.hyphen)∧W.cell? ⟨w.heap.size,9,none⟩=some (.int .i64 r.single)∧W.cell? ⟨w.heap.size,10,none⟩=some (.int .i64 r.double)∧W.cell? ⟨w.heap.size,11,none⟩=some (.slice Aw ws.length cw))) 9 (by kernel_rfl) (by decide) ?_
 refine wpG_take 9 0 (v:=?_) rfl (by kernel_rfl) (fun _ _ _ h=>h) (Or.inl ⟨by rfl,?_⟩) (by assumption) ?_
 rotate_left
 · intro w hSw;(try dsimp only at hSw);go_simp;(try with_reducible rfl)
 (try simp only [pz])
 refine wpG_take 9 1 (v:=?_) rfl (by kernel_rfl) (fun _ _ _ h=>h) (Or.inl ⟨by rfl,?_⟩) (by assumption) ?_
 rotate_left
 · intro w hSw;(try dsimp only at hSw);go_simp;(try with_reducible rfl)
 (try simp only [pz])
 refine wpG_take 9 3 (v:=?_) rfl (by kernel_rfl) (fun _ _ _ h=>h) (Or.inl ⟨by rfl,?_⟩) (by assumption) ?_
 rotate_left
 · intro w hSw;(try dsimp only at hSw);go_simp;(try with_reducible rfl)
 (try simp only [pz])
 refine wpG_take 9 4 (v:=?_) rfl (by kernel_rfl) (fun _ _ _ h=>h) (Or.inl ⟨by rfl,?_⟩) (by assumption) ?_
 rotate_left
 · intro w hSw;(try dsimp only at hSw);go_simp;(try with_reducible rfl)
 (try simp only [pz])
 refine wpG_take 9 5 (v:=?_) rfl (by kernel_rfl) (fun _ _ _ h=>h) (Or.inl ⟨by rfl,?_⟩) (by assumption) ?_
 rotate_left
 · intro w hSw;(try dsimp only at hSw);go_simp;(try with_reducible rfl)
 (try simp only [pz])
 refine wpG_take 9 6 (v:=?_) rfl (by kernel_rfl) (fun _ _ _ h=>h) (Or.inl ⟨by rfl,?_⟩) (by assumption) ?_
 rotate_left
 · intro w hSw;(try dsimp only at hSw);go_simp;(try with_reducible rfl)
 (try simp only [pz])
 refine wpG_one (i:=2) (by kernel_rfl) ?_
 refine wpOp_step rfl (fun K hK=>?_)
 go_simp
 go_at_call 25
 (with_reducible refine (HCF.out _ hbdw).mono ?_)
 rintro e w4 ⟨vf,rfl,hsv4,hb4'⟩
 have hb4:Below W2.heap.size W2 w4:=hbd.trans (hb4'.mono (by exact hbd.size))
 have hbw4:Below w.heap.size w w4:=HB2.out.trans (hb4.mono HB2.out.size)
 obtain ⟨Af,cf,rfl⟩:=SoO.shape hsv4
 have n4:=HKS.out w4 hb4
 (try dsimp only)
 refine hK _ _ ⟨n4,?_⟩
 clear hK K hS0
 (try simp only [pz])
 refine wpG_one (i:=7) (by kernel_rfl) ?_
 refine wpOp_step rfl (fun K hK=>?_)
 go_simp
 go_at_call 22
 (with_reducible refine (HCW.out _ hbw4).mono ?_)
 rintro e w5 ⟨vg,hd,rfl,hwo5,hb5'⟩
 have hb5:Below W2.heap.size W2 w5:=hb4.trans (hb5'.mono (by have:=hb4.size;omega))
 have hwv5:=hwo5.wov
 obtain ⟨Ag,cg,rfl,-⟩:=hwv5.shape
 have n5:=HKS.out w5 hb5
 (try dsimp only)
 refine hK _ _ ⟨n5,?_⟩
 clear hK K n4
 (try simp only [pz])
 refine wpG_one (i:=8) (by kernel_rfl) ?_
 refine wpOp_step rfl (fun K hK=>?_)
 go_simp
 refine hK _ _ ⟨n5,?_⟩
 clear hK K n5
 (try simp only [pz])
 refine ⟨by kernel_rfl,?_⟩
 simp only [List.drop_succ_cons,List.drop_zero]
 have hk1:=HK1.out.below hb5 HK1.out.lt
 have el:=hk1.lt
 have e0:=hk1.cell 0
 have ef0:=Blk.frozen hk1 0
 have e1:=hk1.cell 1
 have ef1:=Blk.frozen hk1 1
 have e2:=hk1.cell 2
 have ef2:=Blk.frozen hk1 2
 have e3:=hk1.cell 3
 have ef3:=Blk.frozen hk1 3
 have e4:=hk1.cell 4
 have ef4:=Blk.frozen hk1 4
 have e5:=hk1.cell 5
 have ef5:=Blk.frozen hk1 5
 have e6:=hk1.cell 6
 have ef6:=Blk.frozen hk1 6
 have e7:=hk1.cell 7
 have ef7:=Blk.frozen hk1 7
 have e8:=hk1.cell 8
 have ef8:=Blk.frozen hk1 8
 have e9:=hk1.cell 9
 have ef9:=Blk.frozen hk1 9
 have e10:=hk1.cell 10
 have ef10:=Blk.frozen hk1 10
 have e11:=hk1.cell 11
 have ef11:=Blk.frozen hk1 11
 go_wp2_with fail
 have hb5w:Below w.heap.size w w5:=HB2.out.trans (hb5.mono HB2.out.size)
 have hg2:w.heap.size+1 < W2.heap.size:=by have:=HSZ.out;omega
 have hso5:SoO w5 W2.heap.size f.sorts (.slice Af f.sorts.length cf):=World.ownsRow.kept (row:=none) hsv4 (grown_of_below hb5' none) (Classical.em _)
 refine own_fin f Af cf r ws Ag cg w W2 w5 hd _ HZZ.out (hk1:Blk w5 (w.heap.size+1) 29 _) hb5w hg2 hso5 (hwo5.base (by have:=hb4.size;omega)) rfl ?_
 rfl
end Go.Proofs.YtbnganlfelgogaaGreat
