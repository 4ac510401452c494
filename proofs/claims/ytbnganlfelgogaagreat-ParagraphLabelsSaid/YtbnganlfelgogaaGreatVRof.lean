/- ref.LineAt: the pieces of a line as the reference finds them. -/
import Derived.Test.YtbnganlfelgogaaGreatVLne
import Derived.Test.YtbnganlfelgogaaGreatVBst
import Derived.Test.YtbnganlfelgogaaGreatVRal
set_option linter.unusedSimpArgs false
set_option linter.unusedVariables false
set_option maxRecDepth 100000
set_option maxHeartbeats 40000000
namespace Go.Proofs.YtbnganlfelgogaaGreat
open Go.RowKit
theorem refP_raw {ws:List PWord} {h:Int} {a b:Nat × Nat}:∀ {k:Nat},a.1+k≤b.1→refP ws h a b k=rawP ws a b k:=by
 intro k
 induction k with
 | zero=>intro _;rfl
 | succ k ih=>
  intro hk
  simp only [rawP,refP]
  rw [ih (by omega),if_neg (show ¬a.1+k=b.1 by omega)]
theorem pieces_ref {ws:List PWord} {h:Int} {a b:Nat × Nat} (hab:lexLt a b) (hb:PlIn ws b):piecesF ws h a b=refP ws h a b (cnt ws a b):=by
 obtain ⟨h1,h2⟩:=lex_cut hab
 unfold piecesF
 rcases hb with ⟨h3,h4⟩ | rfl
 · have hc:cnt ws a b=(b.1-a.1)+1:=by unfold cnt;omega
   have hi:a.1+(b.1-a.1)=b.1:=by omega
   have he:cutE ws b b.1=b.2:=by unfold cutE;rw [if_pos rfl]
   rw [hc]
   simp only [rawP,refP]
   rw [hi,he,refP_raw (k:=b.1-a.1) (by omega),if_pos rfl]
   by_cases h0:0 < b.2
   · rw [if_pos h0,if_pos (h2 h0),hyph_snoc,if_pos (h2 h0)]
   · rw [if_neg h0,if_neg (by omega),if_neg (by omega)]
 · have hc:cnt ws a (ws.length,0)=ws.length-a.1:=by unfold cnt;show min (ws.length+1) ws.length-a.1=_;omega
   rw [if_neg (by simp),hc,refP_raw (by have:(ws.length,0).1=ws.length:=rfl;omega)]
theorem wpList_appL {ops:Array Oper} {rest:List Oper} {o:Oper} {a:Act} {w:World} {Q:Exit→Act→World→Prop} (hgd:o.guard=none) (s x:Operand)
 (ho:o.op=.call { callee:=.builtin .append,args:=#[s,x],argTypes:=#[86,86] }) (base B1:Nat) (v v1:Value) (pss:List (List Int)) (hd:List Value) (zs:List Int) (b c:Nat) (hs:a.eval s=v) (hx:a.eval x=.slice (some ⟨b,0,none⟩) 1 c)
 (hp:PSt w base pss v hd) (hio:IO w B1 zs v1) (hB1:base≤B1) (hold:∀ i,i < pss.length→∀ t,(hd.getD i undef).ownBlock=some t→t < B1) (hc:w.cell? ⟨b,0,none⟩=some v1) (h1c:v1.oneCell'=true) (hn:pss.length≤1000000) (hbase:base≤w.heap.size)
 (h:∀ v' w',PSt w' base (pss++[zs]) v' (hd++[v1])→Below base w w'→w.grownBy w' v.ownBlock→wpList Tryz.prog ops Q rest (a.put o.dst v') w'):wpList Tryz.prog ops Q (o :: rest) a w:=by
 obtain ⟨i30,hi30,hz30,hy30,hx30⟩:=info_parts info30
 refine wpList_append_lies w hgd s x 86 ho base 34 i30 _ 1 24 Tryz.underlying86 hi30 hz30 hy30 hx30 rfl (by omega) v pss.length _ hs hp.row ⟨b,0,none⟩ 1 c [v1] hx rfl ?_ (by simpa using h1c) (by omega) (by simp only [maxLen];omega) (by omega) hbase _ rfl ?_
 · intro j u hu
   cases j with
   | zero=>simp only [List.getElem?_cons_zero,Option.some.injEq] at hu;subst hu;exact hc
   | succ j=>simp at hu
 · intro g cap w' h1 h2 h3 h4
   have hio1:w.ownsRow base 3 1 v1 zs.length (zv zs):=World.ownsRow.mono hio hB1
   refine h _ _ ⟨by rw [List.length_append];exact h1,by simp [hp.len],fun i hi=>?_,fun i j t hij hj ht=>?_⟩ ((Below.refl base w).grown h2 hbase (fun t ht=>(hp.lt t ht).1)) h2
   · by_cases e:i < pss.length
     · rw [gl_app_lt e,gd_app_lt (by rw [hp.len];exact e)]
       exact (hp.pc i e).kept h2 (own_ne (hp.pc i e) hp.row (by decide))
     · have e':i=pss.length:=by simp at hi;omega
       subst e'
       rw [gl_app_eq,←hp.len,gd_app_eq]
       exact hio1.kept h2 (own_ne hio1 hp.row (by decide))
   · have hil:i < pss.length:=by simp at hj;omega
     rw [gd_app_lt (by rw [hp.len];exact hil)] at ht
     by_cases e:j < pss.length
     · rw [gd_app_lt (by rw [hp.len];exact e)]
       exact hp.sep i j t hij e ht
     · have e':j=pss.length:=by simp at hj;omega
       subst e'
       rw [←hp.len,gd_app_eq]
       intro h2
       have h3:=hold i hil t ht
       have h4:=(World.ownsRow.lt hio t h2).1
       omega
theorem IO.one {W:World} {B:Nat} {zs:List Int} {v:Value} (h:IO W B zs v):v.oneCell'=true:=by
 obtain ⟨A,c,rfl⟩:=h.shape
 rfl
theorem refP_len (ws:List PWord) (h:Int) (a b:Nat × Nat):∀ k,(refP ws h a b k).length≤k
 | 0=>Nat.le_refl _
 | k+1=>by
  have ih:=refP_len ws h a b k
  unfold refP
  split
  · simp;omega
  · omega
def RlaPost (ps:List (List Int)) (w:World) (e:Ending) (w':World):Prop:=∃ v hd,e=.returned v∧PSt w' w.heap.size ps v hd∧Below w.heap.size w w'
structure RB (W w:World) (r:Rls) (b8 b9:Nat) (p q:Nat × Nat):Prop where
 B:Below w.heap.size w W
 p3:Blk W w.heap.size 26 (rcs r)
 p8:Blk W b8 55 (plcs p)
 p9:Blk W b9 55 (plcs q)
 ge:w.heap.size≤b8∧w.heap.size≤b9
theorem RB.below {W W' w:World} {r:Rls} {b8 b9:Nat} {p q:Nat × Nat} (h:RB W w r b8 b9 p q) (hb:Below W.heap.size W W'):RB W' w r b8 b9 p q:=
 ⟨h.B.trans (hb.mono h.B.size),h.p3.below hb h.p3.lt,h.p8.below hb h.p8.lt,h.p9.below hb h.p9.lt,h.ge⟩
theorem RB.grown {W W' w:World} {r:Rls} {b8 b9:Nat} {p q:Nat × Nat} {e:TypeId} {sz n B:Nat} {v:Value} {xs:List Value} (h:RB W w r b8 b9 p q) (hr:W.ownsRow B e sz v n xs) (h1:e≠26) (h2:e≠55) (hg:W.grownBy W' v.ownBlock) (hb:Below w.heap.size W W'):RB W' w r b8 b9 p q:=
 ⟨h.B.trans hb,h.p3.grown hg (own_blk_ne hr h.p3 h1),h.p8.grown hg (own_blk_ne hr h.p8 h2),h.p9.grown hg (own_blk_ne hr h.p9 h2),h.ge⟩
theorem rb_a {W0 w:World} {r:Rls} {p q:Nat × Nat} (h0:Below w.heap.size w W0) (h3:Blk W0 w.heap.size 26 (rcs r)) :
 RB (((W0.alloc (.cells (plcs p) 55)).alloc (.cells (plcs q) 55)).drew) w r W0.heap.size (W0.heap.size+1) p q:=by
 have b1:=below_new W0 (.cells (plcs p) 55)
 have b2:=below_new (W0.alloc (.cells (plcs p) 55)) (.cells (plcs q) 55)
 have k1:=Blk.new W0 55 (plcs p)
 have k2:=Blk.new (W0.alloc (.cells (plcs p) 55)) 55 (plcs q)
 have hs:(W0.alloc (.cells (plcs p) 55)).heap.size=W0.heap.size+1:=by simp
 have hz:=h0.size
 rw [hs] at k2
 have hb:=b1.trans (b2.mono (by simp))
 exact ⟨(h0.trans (hb.mono h0.size)).drew,h3.below hb.drew h3.lt,k1.below b2.drew k1.lt,k2,⟨by omega,by omega⟩⟩
theorem rb_b {W0 w:World} {r:Rls} {p q:Nat × Nat} (h0:Below w.heap.size w W0) (h3:Blk W0 w.heap.size 26 (rcs r)) :
 RB (((W0.alloc (.cells (plcs q) 55)).alloc (.cells (plcs p) 55)).drew) w r (W0.heap.size+1) W0.heap.size p q:=by
 have h:=rb_a (p:=q) (q:=p) h0 h3
 exact ⟨h.B,h.p3,h.p9,h.p8,⟨h.ge.2,h.ge.1⟩⟩
theorem refLineAt_any (ns:Nat) (r:Rls) (ws:List PWord) (vw:Value) (i j:Nat) (w:World) (hw:WoV w ws vw) (hok:WsOk ns ws) (hm:ws.length≤200) (hm3:(places ws).length≤300) (hij:i < j) (hj:j < (places ws).length) :
 Calls Tryz.prog 60 #[.agg (rcs r),vw,.agg #[.int .i64 i,.int .i64 j]] w (RlaPost (piecesF ws r.hyphen (gpl (places ws) i) (gpl (places ws) j)) w):=by
 have hpos:=places_pos ws
 have HOK:=Lib.hid hok
 have HLX:=Lib.hid (places_up hok hij hj)
 have HIA:=Lib.hid (places_in hok (j:=i) (by omega))
 have HIB:=Lib.hid (places_ok hok hj)
 have HPR:Hid (piecesF ws r.hyphen (gpl (places ws) i) (gpl (places ws) j)=refP ws r.hyphen (gpl (places ws) i) (gpl (places ws) j) (cnt ws (gpl (places ws) i) (gpl (places ws) j))):=pieces_ref (places_up hok hij hj) (places_ok hok hj)
 have hb1:=below_new w (.cells (rcs r) 26)
 have hb2:=below_new (w.alloc (.cells (rcs r) 26)) (.cells #[.int .i64 (i:Int),.int .i64 (j:Int)] 70)
 have hb0:=hb1.trans (hb2.mono (by simp))
 have hk3:=(Blk.new w 26 (rcs r)).below hb2 (by simp)
 have hk5:=Blk.new (w.alloc (.cells (rcs r) 26)) 70 #[.int .i64 (i:Int),.int .i64 (j:Int)]
 rw [World.size_alloc] at hk5
 have HW:=Lib.hid hw
 obtain ⟨Aw,cw,rfl,-⟩:=hw.shape
 have HB0:=Lib.hid hb0
 have HK3:=Lib.hid hk3
 have HK5:=Lib.hid hk5
 clear hw hok hb1 hb2 hb0 hk3 hk5
 go_enter Tryz.func60,Tryz.ntmps60
 go_upto_region 1 with fail
 generalize ((w.alloc (.cells (rcs r) 26)).alloc (.cells #[.int .i64 (i:Int),.int .i64 (j:Int)] 70))=W0 at *
 go_wp2_with fail
 refine (refPlaces_any ns ws _ W0 (HW.out.below HB0.out) HOK.out hm).mono ?_
 rintro e W1 ⟨vp,rfl,hpl,hbp,-⟩
 have HB1:=Lib.hid (HB0.out.trans (hbp.mono HB0.out.size))
 have HK3':=Lib.hid (HK3.out.below hbp HK3.out.lt)
 have hk5:=HK5.out.below hbp HK5.out.lt
 obtain ⟨Ap,cp,rfl,-,-⟩:=hpl.shape
 obtain ⟨b,off,rfl,hb,y0,y1⟩:=hpl.at hj
 obtain ⟨b',off',he,-,x0,x1⟩:=hpl.at (k:=i) (by omega)
 injection he with he
 injection he with e1 e2
 subst e1 e2
 clear hbp HB0 HK3 HK5 hpl
 have a0:=hk5.cell 0
 have a1:=hk5.cell 1
 have al:=hk5.lt
 clear hk5
 have hjz:(j:Int) < ((places ws).length:Int):=by omega
 have hizz:(i:Int) < ((places ws).length:Int):=by omega
 have hbw:w.heap.size+1 < W1.heap.size:=al
 go_upto_region 2 with fail
 go_cut [8,9] (fun s8 s9 wx=>∃ b8 b9,s8=.pointer (some ⟨b8,0,none⟩)∧s9=.pointer (some ⟨b9,0,none⟩)∧Hid (RB wx w r b8 b9 (gpl (places ws) i) (gpl (places ws) j)))
 case first=>
  go_region_held3 (fun W=>W.cell? ⟨w.heap.size+1,0,none⟩=some (.int .i64 (i:Int))∧W.cell? ⟨w.heap.size+1,1,none⟩=some (.int .i64 (j:Int))∧W.cell? ⟨b,off+i*2,none⟩=some (.int .i64 (gpl (places ws) i).1)∧W.cell? ⟨b,off+i*2+1,none⟩=some (.int .i64 (gpl (places ws) i).2)∧W.cell? ⟨b,off+j*2,none⟩=some (.int .i64 (gpl (places ws) j).1)∧W.cell? ⟨b,off+j*2+1,none⟩=some (.int .i64 (gpl (places ws) j).2))
   (go_keep)
   (fail)
  all_goals (go_wp2_with fail;go_meet;refine ⟨_,_,rfl,rfl,?_⟩;(first | exact rb_a HB1.out HK3'.out | exact rb_b HB1.out HK3'.out))
 case rest=>
  obtain ⟨b8,b9,rfl,rfl,HR⟩:=hcut
  have HCA:Hid ((gpl (places ws) i).1≤(gpl (places ws) j).1):=(lex_cut HLX.out).1
  have HPOST:Hid (∀ (W:World) (v:Value) (hd:List Value),PSt W w.heap.size (refP ws r.hyphen (gpl (places ws) i) (gpl (places ws) j) (cnt ws (gpl (places ws) i) (gpl (places ws) j))) v hd→Below w.heap.size w W→RlaPost (piecesF ws r.hyphen (gpl (places ws) i) (gpl (places ws) j)) w (.returned v) W):=(show ∀ W v hd,_ from fun W v hd h hb=>⟨v,hd,rfl,by rw [HPR.out];exact h,hb⟩)
  have k8:=HR.out.p8.cell 0
  have k8l:=HR.out.p8.lt
  clear HK3' HB1 HPR x0 x1 y0 y1 a0 a1 al hb hjz hizz hbw
  generalize gpl (places ws) i=pa at *
  generalize gpl (places ws) j=pq at *
  generalize piecesF ws r.hyphen pa pq=PF at *
  obtain ⟨cn,hcn⟩:∃ cn,cnt ws pa pq=cn:=⟨_,rfl⟩
  have HCN:=Lib.hid hcn
  have hcle:=cnt_le ws pa pq (by have:=HIA.out;omega)
  rw [hcn] at hcle
  have HCL:Hid (∀ k,k < cn↔(pa.1+k≤pq.1∧pa.1+k < ws.length)):=(show ∀ k,_ from fun k=>by
   have:=HCN.out
   unfold cnt at this
   omega)
  rw [hcn] at HPOST
  clear hcn
  go_wp2_with fail
  clear k8 k8l
  go_loopg [10,11,12,13,14] cn (fun gg s10 s11 _ _ _ wr=>∃ (k:Nat) (vo:Value) (hd:List Value),k≤cn∧cn-k≤gg∧s11=.int .i64 ((pa.1+k:Nat):Int)∧vo=s10∧Hid (RB wr w r b8 b9 pa pq)∧Hid (PSt wr w.heap.size (refP ws r.hyphen pa pq k) vo hd))
  case atStart=>exact ⟨0,.slice none 0 0,[],by omega,by omega,rfl,rfl,HR.out,PSt.nil _ _⟩
  case round=>
   obtain ⟨k,vo,hd,hk,hg,rfl,rfl,HB,HP⟩:=hrel
   have k7:=HB.out.p8.cell 0
   have k71:=HB.out.p8.cell 1
   have k7l:=HB.out.p8.lt
   have k8:=HB.out.p9.cell 0
   have k81:=HB.out.p9.cell 1
   have k8l:=HB.out.p9.lt
   have hkc:=HCL.out k
   by_cases hlt:k < cn
   · obtain ⟨hl1,hl2⟩:=hkc.1 hlt
     obtain ⟨wb,wo,A1,c1,A2,c2,he,hwb,u0,-,i1,-,-,-,l1,l2⟩:=HW.out.at (k:=pa.1+k) hl2
     subst he
     have HWK:=Lib.hid (HOK.out (pa.1+k) hl2)
     have HCE:=Lib.hid (HIB.out.cutE (pa.1+k) hl2)
     obtain ⟨Az,sb,so,cz,he,hA,hz,-,-⟩:=i1.open
     injection he with he he1 he2
     obtain ⟨rfl,hsb⟩:=hA HWK.out.some
     subst he he2
     have HZ:=Lib.hid hz
     have hsm:=HWK.out.most
     have HCB0:Hid (cutB pa (pa.1+k)=if pa.1+k=pa.1 then pa.2 else 0):=rfl
     have HCE0:Hid (cutE ws pq (pa.1+k)=if pa.1+k=pq.1 then pq.2 else (gw ws (pa.1+k)).sorts.length):=rfl
     have HRS:Hid (refP ws r.hyphen pa pq (k+1)=if cutB pa (pa.1+k) < cutE ws pq (pa.1+k) then refP ws r.hyphen pa pq k++[if pa.1+k=pq.1 then cutW ws pa pq (pa.1+k)++[r.hyphen] else cutW ws pa pq (pa.1+k)] else refP ws r.hyphen pa pq k):=rfl
     have HCW:Hid (cutW ws pa pq (pa.1+k)=(((gw ws (pa.1+k)).sorts.take (cutE ws pq (pa.1+k))).drop (cutB pa (pa.1+k)))):=rfl
     have HCWL:Hid ((cutW ws pa pq (pa.1+k)).length=cutE ws pq (pa.1+k)-cutB pa (pa.1+k)):=cutW_len HCE.out
     generalize hmm:pa.1+k=m at *
     clear i1 hA hz hkc
     generalize hsl:(gw ws m).sorts.length=sl at *
     have hwb0:wb < w.heap.size:=hwb
     have hsb0:sb < w.heap.size:=hsb
     have hBz:=HB.out.B.size
     have HU0:=Lib.hid u0
     have u0:=(HB.out.B.cell (p:=⟨wb,wo+m*2,none⟩) hwb).trans HU0.out
     have hwb:wb < wr.heap.size:=by omega
     have hsb:sb < wr.heap.size:=by omega
     have hl1z:(m:Int)≤(pq.1:Int):=by omega
     have hl2z:(m:Int) < (ws.length:Int):=by omega
     have HKM:=Lib.hid hmm
     clear hmm
     go_wp2_with fail
     go_quiet (fail)
     have HB2:=Lib.hid (HB.out.below (below_drewN _ nq))
     have HP2:=Lib.hid (HP.out.below (below_drewN _ nq))
     have hw2:b8 < (wr.drewN nq).heap.size∧b9 < (wr.drewN nq).heap.size:=⟨HB2.out.p8.lt,HB2.out.p9.lt⟩
     have HBD:Hid (Below wr.heap.size wr (wr.drewN nq)):=below_drewN _ nq
     generalize wr.drewN nq=wr2 at *
     have k7:=HB2.out.p8.cell 0
     have k71:=HB2.out.p8.cell 1
     have k8:=HB2.out.p9.cell 0
     have k81:=HB2.out.p9.cell 1
     obtain ⟨k7l,k8l⟩:=hw2
     go_upto_if 50 with fail
     go_cut [12] (fun s12 wx=>wx=wr2∧s12=.int .i64 (cutB pa m))
     case first=>
      by_cases hq:m=pa.1
      · have hqz:(m:Int)=(pa.1:Int):=by omega
        have HF:Hid (cutB pa m=pa.2):=by show _=_;rw [HCB0.out,if_pos hq]
        go_wp2_with fail
        go_meet
        exact ⟨rfl,by rw [HF.out] <;> rfl⟩
      · have hqz:¬(m:Int)=(pa.1:Int):=by omega
        have HF:Hid (cutB pa m=0):=by show _=_;rw [HCB0.out,if_neg hq]
        go_wp2_with fail
        go_meet
        exact ⟨rfl,by rw [HF.out] <;> rfl⟩
     case rest=>
      obtain ⟨rfl,rfl⟩:=hcut
      go_upto_if 56 with fail
      go_cut [13] (fun s13 wx=>wx=wc∧s13=.int .i64 (cutE ws pq m))
      case first=>
       by_cases hq:m=pq.1
       · have hqz:(m:Int)=(pq.1:Int):=by omega
         have HF:Hid (cutE ws pq m=pq.2):=by show _=_;rw [HCE0.out,if_pos hq]
         go_wp2_with fail
         go_meet
         exact ⟨rfl,by rw [HF.out] <;> rfl⟩
       · have hqz:¬(m:Int)=(pq.1:Int):=by omega
         have HF:Hid (cutE ws pq m=sl):=by show _=_;rw [HCE0.out,if_neg hq]
         go_wp2_with fail
         go_meet
         exact ⟨rfl,by rw [HF.out] <;> rfl⟩
      case rest=>
       obtain ⟨hwc,rfl⟩:=hcut
       subst hwc
       generalize hlo:cutB pa m=lo at *
       generalize hhi:cutE ws pq m=hi at *
       have hcem:hi≤sl:=HCE.out
       clear hlo hhi HCE HCB0 HCE0
       by_cases hc:lo < hi
       · have hcz:¬(hi:Int)≤(lo:Int):=by omega
         have hi0:(lo:Int)≤(hi:Int):=by omega
         have hic:(hi:Int)≤(c1:Int):=by omega
         have hic2:hi≤c1:=by omega
         have hlo0:lo≤hi:=by omega
         have hcl0:¬c1=lo:=by omega
         have HCC:Hid (Calls Tryz.prog 34 #[.slice (some ⟨sb,so+lo,none⟩) (hi-lo) (c1-lo)] wc (CloPost wc (cutW ws pa pq m))):=by
          show Calls _ _ _ _ _
          have h2:=copyInts_any (cutW ws pa pq m) (.slice (some ⟨sb,so+lo,none⟩) (cutW ws pa pq m).length (c1-lo)) wc (IV.mk (b:=sb) (off:=so+lo) (fun _=>⟨rfl,Nat.lt_of_lt_of_le hsb HBD.out.size⟩) (fun q hq=>by
           have hq2:q < hi-lo:=HCWL.out ▸ hq
           have h3:=((HZ.out.below HB.out.B hsb0).below HBD.out hsb) (lo+q) (by omega)
           rw [show so+lo+q=so+(lo+q) by omega,h3,HCW.out,gz_cut (by omega)]) (by rw [HCWL.out];omega) (by omega)) (by rw [HCWL.out];omega)
          rwa [HCWL.out] at h2
         have hrl:(refP ws r.hyphen pa pq k).length≤1000000:=by have:=refP_len ws r.hyphen pa pq k;omega
         have u1:=(HBD.out.cell (p:=⟨wb,wo+m*2,none⟩) hwb).trans u0
         have hwb2:wb < wc.heap.size:=by have:=HBD.out.size;omega
         clear k7 k71 k8 k81 k7l k8l
         go_wp2_with fail
         refine HCC.out.mono ?_
         rintro e w3 ⟨v3,rfl,hio3,hb3⟩
         obtain ⟨A3,c3,rfl⟩:=hio3.shape
         have HB3:=Lib.hid (HB2.out.below hb3)
         have HP3:=Lib.hid (HP2.out.below hb3)
         have HIO3:=Lib.hid hio3
         have HBD3:=Lib.hid hb3
         have k8:=HB3.out.p9.cell 0
         have k8l:=HB3.out.p9.lt
         have r5:=HB3.out.p3.cell 5
         have rl:=HB3.out.p3.lt
         have hbz3:=HB3.out.B.size
         have hcwl:(cutW ws pa pq m).length≤1000000:=by rw [HCWL.out];omega
         have HRS1:Hid (refP ws r.hyphen pa pq (k+1)=refP ws r.hyphen pa pq k++[if m=pq.1 then cutW ws pa pq m++[r.hyphen] else cutW ws pa pq m]):=by show _=_;rw [HRS.out,if_pos hc]
         have HCWL0:Hid (hi-lo=(cutW ws pa pq m).length):=HCWL.out.symm
         clear hio3 hb3 u0 u1 hwb hwb2 HRS HCC HCWL HCW hcl0 hic hi0 hcz hc
         obtain ⟨w2,hw2e⟩:∃ x,x=wc:=⟨_,rfl⟩
         subst hw2e
         go_upto_if 74 with fail
         go_cut [14] (fun s14 wx=>∃ zs A c',Hid (zs=if m=pq.1 then cutW ws pa pq m++[r.hyphen] else cutW ws pa pq m)∧s14=.slice A zs.length c'∧Hid (IO wx w2.heap.size zs (.slice A zs.length c'))∧Hid (Below w2.heap.size w2 wx))
         case first=>
          by_cases hq:m=pq.1
          · have hqb:((m:Int) == (pq.1:Int))=true:=by rw [hq];simp
            have HF:Hid (cutW ws pa pq m++[r.hyphen]=if m=pq.1 then cutW ws pa pq m++[r.hyphen] else cutW ws pa pq m):=by show _=_;rw [if_pos hq]
            clear hq
            have hb4:=below_new w3 (.cells #[.int .i64 r.hyphen] 3)
            have hcl4:=(Blk.new w3 3 #[.int .i64 r.hyphen]).cell 0
            have hio4:=HIO3.out.below hb4
            have hbs4:w2.heap.size≤(w3.alloc (.cells #[.int .i64 r.hyphen] 3)).heap.size:=by have:=HBD3.out.size;have:=hb4.size;omega
            have HIO4:=Lib.hid hio4
            have HB4:=Lib.hid (HBD3.out.trans (hb4.mono HBD3.out.size))
            clear hb4 hio4
            go_wp2_with (first
             | (at_builtin
                refine wpList_app1 rfl _ _ (by rfl) w2.heap.size _ (cutW ws pa pq m) r.hyphen _ 1 (by rfl) (by rfl) HIO4.out hcl4 (by omega) hbs4 ?_
                intro v' w' hio hbw hgw
                obtain ⟨A5,c5,rfl⟩:=hio.shape
                have HO5:=Lib.hid hio
                have HB5:=Lib.hid (HB4.out.trans hbw)
                clear hio hbw hgw))
            go_meet
            exact ⟨_,A5,c5,HF.out,by simp,HO5.out,HB5.out⟩
          · have hqz:¬(m:Int)=(pq.1:Int):=by omega
            have HF:Hid (cutW ws pa pq m=if m=pq.1 then cutW ws pa pq m++[r.hyphen] else cutW ws pa pq m):=by show _=_;rw [if_neg hq]
            go_wp2_with fail
            go_meet
            exact ⟨_,A3,c3,HF.out,rfl,HIO3.out,HBD3.out⟩
         case rest=>
          obtain ⟨zs,A5,c5,HZS,rfl,HIO5,HBD5⟩:=hcut
          rw [←HZS.out] at HRS1
          clear HB3 HP3 HIO3 HBD3 k8 k8l r5 rl hbz3 HZS HCWL0 hcwl
          have HB5:=Lib.hid (HB2.out.below HBD5.out)
          have hb6:=below_new wc (.cells #[.slice A5 zs.length c5] 34)
          have HB6:=Lib.hid (HB5.out.below hb6)
          have HP6:=Lib.hid ((HP2.out.below HBD5.out).below hb6)
          have HIO6:=Lib.hid (HIO5.out.below hb6)
          have hcl6:=(Blk.new wc 34 #[.slice A5 zs.length c5]).cell 0
          have HOLD:Hid (∀ i,i < (refP ws r.hyphen pa pq k).length→∀ t,(hd.getD i undef).ownBlock=some t→t < w2.heap.size):=(show ∀ i,_ from fun i hi t ht=>(World.ownsRow.lt (HP2.out.pc i hi) t ht).2)
          have hbs6:w.heap.size≤(wc.alloc (.cells #[.slice A5 zs.length c5] 34)).heap.size:=HB6.out.B.size
          have hbw2:w.heap.size≤w2.heap.size:=HB2.out.B.size
          clear hb6
          go_wp2_with (first
           | (at_builtin
              refine wpList_appL rfl _ _ (by rfl) w.heap.size w2.heap.size _ (.slice A5 zs.length c5) (refP ws r.hyphen pa pq k) hd zs _ 1 (by rfl) (by rfl) HP6.out HIO6.out hbw2 HOLD.out hcl6 rfl hrl hbs6 ?_
              intro v' w' hps hbw hgw
              have HP7:=Lib.hid hps
              have HB7:=Lib.hid (HB6.out.grown HP6.out.row (by decide) (by decide) hgw hbw)
              clear hps hbw hgw))
          go_roundg (cn-(k+1))
          case measure=>omega
          case rel=>exact ⟨k+1,_,_,by omega,by omega,by have:=HKM.out;go_num,rfl,HB7.out,by show PSt _ _ _ _ _;rw [HRS1.out];exact HP7.out⟩
       · have hcz:(hi:Int)≤(lo:Int):=by omega
         have HRS1:Hid (refP ws r.hyphen pa pq (k+1)=refP ws r.hyphen pa pq k):=by show _=_;rw [HRS.out,if_neg hc]
         clear HRS
         go_wp2_with fail
         go_roundg (cn-(k+1))
         case measure=>omega
         case rel=>exact ⟨k+1,vo,hd,by omega,by omega,by have:=HKM.out;go_num,rfl,HB2.out,by show PSt _ _ _ _ _;rw [HRS1.out];exact HP2.out⟩
   · have hnl:¬((pa.1+k:Nat):Int)≤(pq.1:Int)∨(((pa.1+k:Nat):Int)≤(pq.1:Int)∧¬((pa.1+k:Nat):Int) < (ws.length:Int)):=by
      have:=mt hkc.2 hlt
      omega
     have hkn:k=cn:=by omega
     have HPE:Hid (PSt wr w.heap.size (refP ws r.hyphen pa pq cn) vo hd):=by rw [←hkn];exact HP.out
     clear hkc hkn HP
     generalize pa.1+k=m at *
     rcases hnl with h1 | ⟨h1,h2⟩
     · go_wp2_with fail
       go_ret
       exact HPOST.out _ _ _ HPE.out HB.out.B
     · go_wp2_with fail
       go_ret
       exact HPOST.out _ _ _ HPE.out HB.out.B
end Go.Proofs.YtbnganlfelgogaaGreat
namespace Go.Proofs.YtbnganlfelgogaaGreat
open Go.RowKit
theorem LV.item {W:World} {ls:List (List Int)} {A:Option Addr} {c k:Nat} (h:LV W ls (.slice A ls.length c)) (hk:k < ls.length) :
 ∃ b off v1,A=some ⟨b,off,none⟩∧b < W.heap.size∧W.cell? ⟨b,off+k,none⟩=some v1∧IV W (gl ls k) v1:=by
 obtain ⟨hs,⟨A0,b,off,c0,he,h1,h2,-⟩,h3⟩:=h
 injection he with e1 e2 e3
 subst e1
 obtain ⟨h4,h5⟩:=h1 (by omega)
 exact ⟨b,off,hs k,h4,h5,h2 k (by omega),h3 k hk⟩
theorem take_gl {ps:List (List Int)} {k:Nat} (h:k < ps.length):ps.take (k+1)=ps.take k++[gl ps k]:=by
 rw [List.take_add_one,List.getElem?_eq_getElem h]
 unfold gl
 simp [List.getD_eq_getElem?_getD,h]
theorem widS_take {f:Fnt} {ps:List (List Int)} {k:Nat} (h:k < ps.length):widS f (ps.take (k+1))=widS f (ps.take k)+widL f (gl ps k):=by
 rw [take_gl h]
 unfold widS
 rw [List.flatten_append,widL_app]
 simp
theorem lenS_take {ps:List (List Int)} {k:Nat} (h:k < ps.length):lenS (ps.take (k+1))=lenS (ps.take k)+(gl ps k).length:=by
 rw [take_gl h,lenS_snoc]
theorem longB_take {ps:List (List Int)} {k:Nat} (h:k < ps.length):longB (ps.take (k+1))=(longB (ps.take k) || decide (60 < (gl ps k).length)):=by
 rw [take_gl h]
 unfold longB
 simp
theorem lenS_le {ps:List (List Int)} (k:Nat):lenS (ps.take k)≤lenS ps:=by
 unfold lenS
 have h:ps=ps.take k++ps.drop k:=(List.take_append_drop k ps).symm
 have:ps.flatten.length=(ps.take k).flatten.length+(ps.drop k).flatten.length:=by
  conv=>lhs;rw [h]
  rw [List.flatten_append,List.length_append]
 omega
structure LineOk (f:Fnt) (l:Ln):Prop where
 pos:0 < l.ps.length
 few:l.ps.length≤200
 len:lenS l.ps≤12001
 inf:∀ k,k < l.ps.length→InF f (gl l.ps k)∧(gl l.ps k).length≤12001
 wid:∀ k,k≤l.ps.length→0≤widS f (l.ps.take k)∧widS f (l.ps.take k)≤1200100000
theorem line_ok {f:Fnt} {r:Rls} {ws:List PWord} (h:POk f r ws) {i j:Nat} (hij:i < j) (hj:j < (places ws).length):LineOk f (lineF f r ws i j):=by
 have hin:=places_in h.wo (j:=i) (by omega)
 have hok:=places_ok h.wo hj
 have hpos:=raw_pos (places_up h.wo hij hj) hin
 have h60:=pieces_len60 h.wo (hy:=r.hyphen) (a:=gpl (places ws) i) (by omega) hok hpos
 have hmem:=fun (s:Int)=>pieces_mem h.wo h.ru.hy (a:=gpl (places ws) i) (b:=gpl (places ws) j) (by omega) hpos (s:=s)
 have hn:=h.n
 have hg:=line_g (f:=f) (r:=r) h.wo hij hj
 have hps:(lineF f r ws i j).ps=piecesF ws r.hyphen (gpl (places ws) i) (gpl (places ws) j):=rfl
 rw [←hps] at h60 hmem
 refine ⟨hg,by omega,by show (lineF f r ws i j).ps.flatten.length≤_;omega,fun k hk=>⟨fun q hq=>?_,?_⟩,fun k hk=>?_⟩
 · refine hmem _ (List.mem_flatten.2 ⟨gl (lineF f r ws i j).ps k,?_,?_⟩)
   · unfold gl;rw [List.getD_eq_getElem?_getD,List.getElem?_eq_getElem hk];exact List.getElem_mem hk
   · rw [gz_get hq];exact List.getElem_mem hq
 · have:=gl_len_le hk
   omega
 · have h1:∀ s ∈ ((lineF f r ws i j).ps.take k).flatten,0≤s∧s < f.sorts.length:=fun s hs=>by
    obtain ⟨l,hl,hs⟩:=List.mem_flatten.1 hs
    exact hmem s (List.mem_flatten.2 ⟨l,List.mem_of_mem_take hl,hs⟩)
   have h2:=widL_bound h.fn h1
   have h3:=lenS_le (ps:=(lineF f r ws i j).ps) k
   unfold lenS at h3
   have h4:(((lineF f r ws i j).ps.take k).flatten.length:Int)*100000≤12001*100000:=Int.mul_le_mul_of_nonneg_right (by omega) (by omega)
   exact ⟨h2.1,by show widL f _≤_;omega⟩
theorem ofc_one (g room:Int) (en da db fi:Bool):(ofc g room en da db fi).all (·.oneCell')=true:=by simp [Value.oneCell']
theorem allow_al {r:Rls} {l:Ln} (h:0 < l.ps.length):alR r l.g l.room l.ends (fitsB l)=allowB r l:=by
 rw [allow_fits (show 0≤(l.ps.length:Int)-1 by omega)]
 rfl
theorem line_room {f:Fnt} {r:Rls} {ws:List PWord} {i j:Nat} (hok:POk f r ws) (h:LineOk f (lineF f r ws i j)):-2000000000≤(lineF f r ws i j).room∧(lineF f r ws i j).room≤2000000000:=by
 have h1:=h.wid _ (Nat.le_refl _)
 rw [List.take_length] at h1
 have h2:=hok.ru.me
 have h3:=hok.ru.ind
 have hr:(lineF f r ws i j).room=r.measure-widS f (lineF f r ws i j).ps-(if i=0 then r.indent else 0):=rfl
 rw [hr]
 split <;> omega
def OfPost (f:Fnt) (r:Rls) (ws:List PWord) (i j:Nat) (w:World) (e:Ending) (w':World):Prop:=
 e=.returned (.agg (ofc (lineF f r ws i j).g (lineF f r ws i j).room (lineF f r ws i j).ends (divB ws i) (divB ws j) (fitsB (lineF f r ws i j))))∧Below w.heap.size w w'
structure OB (W w:World) (f:Fnt) (v:Value) (r:Rls) (i j:Nat):Prop where
 B:Below w.heap.size w W
 F:Blk W w.heap.size 24 (fcs f v)
 R:Blk W (w.heap.size+1) 26 (rcs r)
 T:Blk W (w.heap.size+1+1) 70 #[.int .i64 (i:Int),.int .i64 (j:Int)]
 Z:Blk W (w.heap.size+1+1+1) 104 (ofc 0 0 false false false false)
theorem OB.step {W W' w:World} {f:Fnt} {v:Value} {r:Rls} {i j:Nat} (h:OB W w f v r i j) (hb:Below W.heap.size W W'):OB W' w f v r i j:=
 ⟨h.B.trans (hb.mono h.B.size),h.F.below hb h.F.lt,h.R.below hb h.R.lt,h.T.below hb h.T.lt,h.Z.below hb h.Z.lt⟩
theorem OB.start (w:World) (f:Fnt) (v:Value) (r:Rls) (i j:Nat):OB ((((w.alloc (.cells (fcs f v) 24)).alloc (.cells (rcs r) 26)).alloc (.cells #[.int .i64 (i:Int),.int .i64 (j:Int)] 70)).alloc (.cells (ofc 0 0 false false false false) 104)) w f v r i j:=by
 have b1:=below_new w (.cells (fcs f v) 24)
 have b2:=below_new (w.alloc (.cells (fcs f v) 24)) (.cells (rcs r) 26)
 have b3:=below_new ((w.alloc (.cells (fcs f v) 24)).alloc (.cells (rcs r) 26)) (.cells #[.int .i64 (i:Int),.int .i64 (j:Int)] 70)
 have b4:=below_new (((w.alloc (.cells (fcs f v) 24)).alloc (.cells (rcs r) 26)).alloc (.cells #[.int .i64 (i:Int),.int .i64 (j:Int)] 70)) (.cells (ofc 0 0 false false false false) 104)
 have k1:=Blk.new w 24 (fcs f v)
 have k2:=Blk.new (w.alloc (.cells (fcs f v) 24)) 26 (rcs r)
 have k3:=Blk.new ((w.alloc (.cells (fcs f v) 24)).alloc (.cells (rcs r) 26)) 70 #[.int .i64 (i:Int),.int .i64 (j:Int)]
 have k4:=Blk.new (((w.alloc (.cells (fcs f v) 24)).alloc (.cells (rcs r) 26)).alloc (.cells #[.int .i64 (i:Int),.int .i64 (j:Int)] 70)) 104 (ofc 0 0 false false false false)
 have b34:=b3.trans (b4.mono (by simp))
 have b234:=b2.trans (b34.mono (by simp))
 have b1234:=b1.trans (b234.mono (by simp))
 have e2:=k2.below b34 k2.lt
 have e3:=k3.below b4 k3.lt
 simp only [World.size_alloc] at e2 e3 k4
 exact ⟨b1234,k1.below b234 k1.lt,e2,e3,k4⟩
theorem info104:(Tryz.prog.info? 104).map (·.size)=some 6:=by kernel_rfl
theorem Blk.six {W:World} {g:Nat} {t:TypeId} {c0 c1 c2 c3 c4 c5:Value} (h:Blk W g t #[c0,c1,c2,c3,c4,c5]) (d0 d1 d2 d3 d4 d5:Value) :
 Blk ((((((W.setCell ⟨g,0,none⟩ d0).setCell ⟨g,1,none⟩ d1).setCell ⟨g,2,none⟩ d2).setCell ⟨g,3,none⟩ d3).setCell ⟨g,4,none⟩ d4).setCell ⟨g,5,none⟩ d5) g t #[d0,d1,d2,d3,d4,d5]:=by
 have:=(((((h.set_ 0 d0).set_ 1 d1).set_ 2 d2).set_ 3 d3).set_ 4 d4).set_ 5 d5
 simpa using this
theorem below_six {B:Nat} {W0 W:World} {g:Nat} (h:Below B W0 W) (hg:B≤g) (d0 d1 d2 d3 d4 d5:Value) :
 Below B W0 ((((((W.setCell ⟨g,0,none⟩ d0).setCell ⟨g,1,none⟩ d1).setCell ⟨g,2,none⟩ d2).setCell ⟨g,3,none⟩ d3).setCell ⟨g,4,none⟩ d4).setCell ⟨g,5,none⟩ d5):=
 (((((h.setCell (p:=⟨g,0,none⟩) hg d0).setCell (p:=⟨g,1,none⟩) hg d1).setCell (p:=⟨g,2,none⟩) hg d2).setCell (p:=⟨g,3,none⟩) hg d3).setCell (p:=⟨g,4,none⟩) hg d4).setCell (p:=⟨g,5,none⟩) hg d5
theorem of_res {W:World} {bR:Nat} {cs:Array Value} (hg:Blk W bR 104 cs) (hs:cs.size=6) (tmps:Array Value) (hp:tmps.getD 8 undef=.pointer (some ⟨bR,0,none⟩)) :
 (results Tryz.f61 tmps).run Tryz.prog W=.ok (.agg cs) W:=by
 have h:Tryz.f61.results=#[.cell 8 104]:=rfl
 have hi:(Tryz.prog.info? 104).map (·.size)=some cs.size:=by rw [info104,hs]
 have hp':tmps[8]?.getD undef=.pointer (some ⟨bR,0,none⟩):=by simpa using hp
 simp only [results,h]
 simp [Sem.run_bind,Result.andThen,hp',asAddr,run_loadVar_row W bR 104 104 cs (0,0) _ hg Tryz.underlying104 rfl hi]
theorem refOf_any (f:Fnt) (v:Value) (r:Rls) (ws:List PWord) (vw:Value) (i j:Nat) (w:World) (hv:SoV w f.sorts v) (hw:WoV w ws vw) (hok:POk f r ws) (hij:i < j) (hj:j < (places ws).length) :
 Calls Tryz.prog 61 #[.agg (fcs f v),.agg (rcs r),vw,.agg #[.int .i64 i,.int .i64 j]] w (OfPost f r ws i j w):=by
 have hO:=OB.start w f v r i j
 have HV:=Lib.hid hv
 have HW:=Lib.hid hw
 have HOK:=Lib.hid hok
 have HLO:=Lib.hid (line_ok hok hij hj)
 obtain ⟨A,c,rfl⟩:=hv.shape
 obtain ⟨Aw,cw,rfl,-⟩:=hw.shape
 have HO0:=Lib.hid hO
 have hm3:=hok.m
 have hru:=hok.ru
 have hme:=hru.me
 have hin:=hru.ind
 clear hv hw hO hok hru
 go_enter Tryz.func61,Tryz.ntmps61
 go_upto_region 1 with fail
 generalize ((((w.alloc (.cells (fcs f (.slice A f.sorts.length c)) 24)).alloc (.cells (rcs r) 26)).alloc (.cells #[.int .i64 (i:Int),.int .i64 (j:Int)] 70)).alloc (.cells (ofc 0 0 false false false false) 104))=W0 at *
 go_wp2_with fail
 refine (refPlaces_any f.sorts.length ws _ W0 (HW.out.below HO0.out.B) HOK.out.wo HOK.out.n).mono ?_
 rintro e W1 ⟨vp,rfl,hpl,hb1,-⟩
 have HO1:=Lib.hid (HO0.out.step hb1)
 obtain ⟨Ap,cp,rfl,-,-⟩:=hpl.shape
 have HPL:=Lib.hid hpl
 clear hpl hb1 HO0
 have r0:=HO1.out.R.cell 0
 have r1:=HO1.out.R.cell 1
 have r2:=HO1.out.R.cell 2
 have r3:=HO1.out.R.cell 3
 have r4:=HO1.out.R.cell 4
 have r5:=HO1.out.R.cell 5
 have r6:=HO1.out.R.cell 6
 have r7:=HO1.out.R.cell 7
 have rl:=HO1.out.R.lt
 have t0:=HO1.out.T.cell 0
 have t1:=HO1.out.T.cell 1
 have tl:=HO1.out.T.lt
 go_wp2_with fail
 refine (refLineAt_any f.sorts.length r ws _ i j W1 (HW.out.below HO1.out.B) HOK.out.wo HOK.out.n hm3 hij hj).mono ?_
 rintro e W2 ⟨vps,hd,rfl,hps,hb2⟩
 obtain ⟨Aq,cq,rfl⟩:=hps.shape
 have HO2:=Lib.hid (HO1.out.step hb2)
 have HLV:Hid (LV W2 (lineF f r ws i j).ps (.slice Aq (lineF f r ws i j).ps.length cq)):=(show LV _ _ _ from hps.lv)
 have HPL2:=Lib.hid (HPL.out.below hb2)
 have HPS:Hid (piecesF ws r.hyphen (gpl (places ws) i) (gpl (places ws) j)=(lineF f r ws i j).ps):=rfl
 rw [HPS.out]
 clear r0 r1 r2 r3 r4 r5 r6 r7 rl t0 t1 tl hps hb2 HO1 HPL HPS
 obtain ⟨b,off,hAe,hb,y0,y1⟩:=HPL2.out.at hj
 obtain ⟨b',off',he,-,x0,x1⟩:=HPL2.out.at (k:=i) (by omega)
 subst hAe
 injection he with he
 injection he with e1 e2
 subst e1 e2
 have HPOST:Hid (∀ W,Below w.heap.size w W→OfPost f r ws i j w (.returned (.agg (ofc (lineF f r ws i j).g (lineF f r ws i j).room (lineF f r ws i j).ends (divB ws i) (divB ws j) (fitsB (lineF f r ws i j))))) W):=(show ∀ W,_ from fun W hb=>⟨rfl,hb⟩)
 have hgd:(lineF f r ws i j).g=((lineF f r ws i j).ps.length:Int)-1:=rfl
 have HRM:Hid ((lineF f r ws i j).room=r.measure-(if i=0 then r.indent else 0)-widS f (lineF f r ws i j).ps):=by
  show r.measure-widS f (lineF f r ws i j).ps-(if i=0 then r.indent else 0)=_
  omega
 have HFI:Hid (fitsB (lineF f r ws i j)=decide ((lineF f r ws i j).ps.length≤30∧longB (lineF f r ws i j).ps=false∧lenS (lineF f r ws i j).ps≤188∧(lineF f r ws i j).room≤20000)):=rfl
 have hen:(lineF f r ws i j).ends=decide (j=(places ws).length-1):=rfl
 have hda:decide (0 < (gpl (places ws) i).2)=divB ws i:=rfl
 have hdb:decide (0 < (gpl (places ws) j).2)=divB ws j:=rfl
 have hdj:((j:Int) == IntKind.i64.wrap (((places ws).length:Int)-1))=(lineF f r ws i j).ends:=by
  rw [show IntKind.i64.wrap (((places ws).length:Int)-1)=((places ws).length:Int)-1 from IntWalk.i64_in _ (by omega),hen,Bool.eq_iff_iff]
  simp
  omega
 have HDA:=Lib.hid hda
 have HDB:=Lib.hid hdb
 have HDJ:=Lib.hid hdj
 have hpos:=HLO.out.pos
 have hfew:=HLO.out.few
 clear hen hda hdb hdj
 generalize lineF f r ws i j=l at *
 have HMX:Hid (max 0 (IntKind.i64.wrap ((l.ps.length:Int)-1))=l.g):=by
  show _=_
  rw [show IntKind.i64.wrap ((l.ps.length:Int)-1)=(l.ps.length:Int)-1 from IntWalk.i64_in _ (by omega),hgd]
  omega
 have HG:=Lib.hid hgd
 have t0:=HO2.out.T.cell 0
 have t1:=HO2.out.T.cell 1
 have tl:=HO2.out.T.lt
 have r0:=HO2.out.R.cell 0
 have rl:=HO2.out.R.lt
 have hjz:(j:Int) < ((places ws).length:Int):=by omega
 have hizz:(i:Int) < ((places ws).length:Int):=by omega
 clear hgd
 go_upto_region 3 with fail
 go_cut [11] (fun s11 wx=>∃ b11,s11=.pointer (some ⟨b11,0,none⟩)∧W2.heap.size≤b11∧Hid (Blk wx b11 104 (ofc l.g r.measure l.ends (divB ws i) (divB ws j) false))∧Hid (Below W2.heap.size W2 wx))
 case first=>
  have HN:Hid (∀ W,Below W2.heap.size W2 W→∃ b11,Value.pointer (some ⟨W.heap.size,0,none⟩)=.pointer (some ⟨b11,0,none⟩)∧W2.heap.size≤b11∧Hid (Blk (W.alloc (.cells (ofc l.g r.measure l.ends (divB ws i) (divB ws j) false) 104)).drew b11 104 (ofc l.g r.measure l.ends (divB ws i) (divB ws j) false))∧Hid (Below W2.heap.size W2 (W.alloc (.cells (ofc l.g r.measure l.ends (divB ws i) (divB ws j) false) 104)).drew)):=(show ∀ W,_ from fun W hW=>⟨W.heap.size,rfl,hW.size,Blk.new W 104 _,(hW.trans ((below_new W _).mono hW.size)).drew⟩)
  go_region_held3 (fun W=>W.cell? ⟨w.heap.size+1+1,0,none⟩=some (.int .i64 (i:Int))∧W.cell? ⟨w.heap.size+1+1,1,none⟩=some (.int .i64 (j:Int))∧W.cell? ⟨w.heap.size+1,0,none⟩=some (.int .i64 r.measure)∧W.cell? ⟨b,off+i*2+1,none⟩=some (.int .i64 (gpl (places ws) i).2)∧W.cell? ⟨b,off+j*2+1,none⟩=some (.int .i64 (gpl (places ws) j).2))
   (go_keep)
   (fail)
  all_goals (rw [HMX.out,HDA.out,HDB.out,HDJ.out];go_wp2_with fail;go_meet;exact HN.out _ (Below.refl _ _))
 case rest=>
  obtain ⟨b11,rfl,hb11,HX,HB⟩:=hcut
  have HO3:=Lib.hid (HO2.out.step HB.out)
  clear HPL2 HMX HDA HDB HDJ t0 t1 tl r0 rl x0 x1 y0 y1 hb hjz hizz
  have t0:=HO3.out.T.cell 0
  have tl:=HO3.out.T.lt
  have r1:=HO3.out.R.cell 1
  have rl:=HO3.out.R.lt
  have x1:=HX.out.cell 1
  have xl:=HX.out.lt
  have xz:=Blk.frozen HX.out 1
  generalize divB ws i=da at *
  generalize divB ws j=db at *
  go_upto_if 50 with fail
  go_cut [51] (fun _ wx=>Hid (Blk wx b11 104 (ofc l.g (r.measure-(if i=0 then r.indent else 0)) l.ends da db false))∧Hid (Below W2.heap.size W2 wx))
  case first=>
   by_cases hi0:i=0
   · subst hi0
     have hwi:wrap64 (r.measure-r.indent)=r.measure-r.indent:=IntWalk.wrap64_in _ (by omega)
     have HX4:=Lib.hid (HX.out.set_ 1 (.int .i64 (r.measure-r.indent)))
     have HB4:=Lib.hid (HB.out.setCell (p:=⟨b11,1,none⟩) hb11 (.int .i64 (r.measure-r.indent)))
     go_wp2_with fail
     go_meet
     exact ⟨HX4.out,HB4.out⟩
   · have hiz:((i:Int) == 0)=false:=by simp;omega
     have HE:Hid (r.measure-(if i=0 then r.indent else 0)=r.measure):=by show _=_;rw [if_neg hi0];omega
     clear hi0
     go_wp2_with fail
     go_meet
     exact ⟨by rw [HE.out];exact HX.out,HB.out⟩
  case rest=>
   obtain ⟨HX4,HB4⟩:=hcut
   clear HX HB HO3 t0 tl r1 rl x1 xl xz
   have hr0:0≤(if i=0 then r.indent else 0)∧(if i=0 then r.indent else 0)≤20000:=by split <;> omega
   generalize hrr:r.measure-(if i=0 then r.indent else 0)=rm at *
   have hrm:-20000≤rm∧rm≤1000000:=by omega
   clear hrr hr0
   go_wp2_with fail
   go_loopg [12,13,14] l.ps.length (fun gg s12 s13 s14 wr=>∃ k:Nat,k≤l.ps.length∧l.ps.length-k≤gg∧s14=.int .i64 (k:Int)∧s12=.int .i64 (lenS (l.ps.take k):Int)∧s13=.bool (longB (l.ps.take k))∧Hid (Blk wr b11 104 (ofc l.g (rm-widS f (l.ps.take k)) l.ends da db false))∧Hid (Below W2.heap.size W2 wr))
   case atStart=>exact ⟨0,by omega,by omega,rfl,rfl,rfl,by rw [show rm-widS f (l.ps.take 0)=rm by simp [widS,widL]];exact HX4.out,HB4.out⟩
   case round=>
    obtain ⟨k,hk,hg,rfl,rfl,rfl,HX,HB⟩:=hrel
    have HO:=Lib.hid (HO2.out.step HB.out)
    have hwk:=HLO.out.wid k hk
    have hlk:=lenS_le (ps:=l.ps) k
    have hll:=HLO.out.len
    by_cases hlt:k < l.ps.length
    · have hltz:(k:Int) < (l.ps.length:Int):=by omega
      have hw1:=HLO.out.wid (k+1) hlt
      have hin:=HLO.out.inf k hlt
      have HWS:=Lib.hid (widS_take (f:=f) hlt)
      have HLS:=Lib.hid (lenS_take (ps:=l.ps) hlt)
      have HLB:=Lib.hid (longB_take (ps:=l.ps) hlt)
      have HLR:=Lib.hid (HLV.out.below HB.out)
      obtain ⟨qb,qo,v1,hAq,hqb2,z2,I2⟩:=HLV.out.item hlt
      have hqb:qb < wr.heap.size:=Nat.lt_of_lt_of_le hqb2 HB.out.size
      have z1:=(HB.out.cell (p:=⟨qb,qo+k,none⟩) hqb2).trans z2
      have I1:=I2.below HB.out
      subst hAq
      obtain ⟨Ai,bi,oi,ci,rfl,-,-,-,-⟩:=I1.open
      have HI:=Lib.hid I1
      have hgk:(gl l.ps k).length≤12001:=hin.2
      have HWC:Hid (∀ W,Below wr.heap.size wr W→Calls Tryz.prog 81 #[.agg (fcs f (.slice A f.sorts.length c)),.slice Ai (gl l.ps k).length ci] W (IntPost (widL f (gl l.ps k)) W)):=(show ∀ W,_ from fun W hW=>refWidth_any f _ _ _ W HOK.out.fn (HV.out.below ((HO.out.B).trans (hW.mono HO.out.B.size))) (HI.out.below hW) hin.1 (by omega))
      have HKS:Hid (∀ W,Below wr.heap.size wr W→(W.cell? ⟨b11,1,none⟩=some (.int .i64 (rm-widS f (l.ps.take k)))∧W.cell? ⟨w.heap.size,0,none⟩=some (.string f.name)∧W.cell? ⟨w.heap.size,1,none⟩=some (.int .i64 f.body)∧W.cell? ⟨w.heap.size,2,none⟩=some (.slice A f.sorts.length c)∧W.cell? ⟨qb,qo+k,none⟩=some (.slice Ai (gl l.ps k).length ci))):=(show ∀ W,_ from fun W hW=>by
       have h1:=HX.out.below hW HX.out.lt
       have h2:=HO.out.F.below hW HO.out.F.lt
       exact ⟨h1.cell 1,h2.cell 0,h2.cell 1,h2.cell 2,(hW.cell (p:=⟨qb,qo+k,none⟩) hqb).trans z1⟩)
      rw [HWS.out] at hw1
      have HX0:=Lib.hid (HX.out.lt)
      have HZ2:=Lib.hid z2
      clear I1 I2 z1 z2 hin
      generalize widL f (gl l.ps k)=wk at *
      generalize hgl:(gl l.ps k).length=nk at *
      generalize widS f (l.ps.take k)=sk at *
      generalize lenS (l.ps.take k)=ek at *
      generalize hlg:longB (l.ps.take k)=gk at *
      clear hlg hgl
      have hwrm:wrap64 (rm-sk-wk)=rm-sk-wk:=IntWalk.wrap64_in _ (by omega)
      go_wp2_with fail
      have hbd:Below wr.heap.size wr wr.drew:=(Below.refl _ _).drew
      have hS0:=HKS.out _ hbd
      refine wp_region_split (fun W=>(W.cell? ⟨b11,1,none⟩=some (.int .i64 (rm-sk))∧W.cell? ⟨w.heap.size,0,none⟩=some (.string f.name)∧W.cell? ⟨w.heap.size,1,none⟩=some (.int .i64 f.body)∧W.cell? ⟨w.heap.size,2,none⟩=some (.slice A f.sorts.length c)∧W.cell? ⟨qb,qo+k,none⟩=some (.slice Ai nk ci))) 8 (by kernel_rfl) (by decide) ?_
      refine wpG_take 8 0 (v:=?_) rfl (by kernel_rfl) (fun _ _ _ h=>h) (Or.inl ⟨by rfl,?_⟩) (by assumption) ?_
      rotate_left
      · intro w hSw;(try dsimp only at hSw);go_simp;(try with_reducible rfl)
      (try simp only [pz])
      refine wpG_take 8 1 (v:=?_) rfl (by kernel_rfl) (fun _ _ _ h=>h) (Or.inl ⟨by rfl,?_⟩) (by assumption) ?_
      rotate_left
      · intro w hSw;(try dsimp only at hSw);go_simp;(try with_reducible rfl)
      (try simp only [pz])
      refine wpG_take 8 2 (v:=?_) rfl (by kernel_rfl) (fun _ _ _ h=>h) (Or.inl ⟨by rfl,?_⟩) (by assumption) ?_
      rotate_left
      · intro w hSw;(try dsimp only at hSw);go_simp;(try with_reducible rfl)
      (try simp only [pz])
      refine wpG_take 8 3 (v:=?_) rfl (by kernel_rfl) (fun _ _ _ h=>h) (Or.inl ⟨by rfl,?_⟩) (by assumption) ?_
      rotate_left
      · intro w hSw;(try dsimp only at hSw);go_simp;(try with_reducible rfl)
      (try simp only [pz])
      refine wpG_take 8 4 (v:=?_) rfl (by kernel_rfl) (fun _ _ _ h=>h) (Or.inl ⟨by rfl,?_⟩) (by assumption) ?_
      rotate_left
      · intro w hSw;(try dsimp only at hSw);go_simp;(try with_reducible rfl)
      (try simp only [pz])
      refine wpG_take 8 5 (v:=?_) rfl (by kernel_rfl) (fun _ _ _ h=>h) (Or.inl ⟨by rfl,?_⟩) (by assumption) ?_
      rotate_left
      · intro w hSw;(try dsimp only at hSw);go_simp;(try with_reducible rfl)
      (try simp only [pz])
      refine wpG_take 8 6 (v:=?_) rfl (by kernel_rfl) (fun _ _ _ h=>h) (Or.inl ⟨by rfl,?_⟩) (by assumption) ?_
      rotate_left
      · intro w hSw;(try dsimp only at hSw);go_simp;(try with_reducible rfl)
      (try simp only [pz])
      refine wpG_one (i:=7) (by kernel_rfl) ?_
      refine wpOp_step rfl (fun K hK=>?_)
      go_simp
      go_at_call 81
      (with_reducible refine (HWC.out _ hbd).mono ?_)
      rintro e w4 ⟨rfl,hb4'⟩
      have hb4:Below wr.heap.size wr w4:=hbd.trans (hb4'.mono hbd.size)
      have n4:=HKS.out w4 hb4
      (try dsimp only)
      refine hK _ _ ⟨n4,?_⟩
      clear hK K
      (try simp only [pz])
      refine ⟨by kernel_rfl,?_⟩
      simp only [List.drop_succ_cons,List.drop_zero]
      have HX4:=Lib.hid (HX.out.below hb4 HX.out.lt)
      have x1:=HX4.out.cell 1
      have xl:=HX4.out.lt
      have xz:=Blk.frozen HX4.out 1
      have HB4:=Lib.hid ((HB.out.trans (hb4.mono HB.out.size)).setCell (p:=⟨b11,1,none⟩) hb11 (.int .i64 (rm-sk-wk)))
      have HX5:=Lib.hid (HX4.out.set_ 1 (.int .i64 (rm-sk-wk)))
      go_upto_region 11 with fail
      generalize w4.setCell ⟨b11,1,none⟩ (.int .i64 (rm-sk-wk))=w5 at *
      have z5:=(HB4.out.cell (p:=⟨qb,qo+k,none⟩) hqb2).trans HZ2.out
      have ql:qb < w5.heap.size:=Nat.lt_of_lt_of_le hqb2 HB4.out.size
      clear x1 xl xz HX4 HX hS0 hbd n4 hb4 hb4' hwrm HLR HKS HWC
      cases gk with
      | true=>
       go_quiet (fail)
       have HBN:Hid (Below W2.heap.size W2 (w5.drewN nq)):=HB4.out.trans ((below_drewN w5 nq).mono HB4.out.size)
       have HXN:=Lib.hid (HX5.out.below (below_drewN w5 nq) HX5.out.lt)
       go_wp2_with fail
       go_roundg (l.ps.length-(k+1))
       case measure=>omega
       case rel=>exact ⟨k+1,by omega,by omega,by go_num,by rw [HLS.out];exact congrArg (Value.int .i64) (by push_cast;rfl),by rw [HLB.out];rfl,by rw [HWS.out,show rm-(sk+wk)=rm-sk-wk by omega];exact HXN.out,HBN.out⟩
      | false=>
       by_cases h60:60 < nk
       · have h60z:(60:Int) < (nk:Int):=by omega
         have HD60:Hid (decide (60 < nk)=true):=decide_eq_true h60
         clear h60
         go_quiet (fail)
         have HBN:Hid (Below W2.heap.size W2 (w5.drewN nq)):=HB4.out.trans ((below_drewN w5 nq).mono HB4.out.size)
         have HXN:=Lib.hid (HX5.out.below (below_drewN w5 nq) HX5.out.lt)
         go_wp2_with fail
         go_roundg (l.ps.length-(k+1))
         case measure=>omega
         case rel=>exact ⟨k+1,by omega,by omega,by go_num,by rw [HLS.out];exact congrArg (Value.int .i64) (by push_cast;rfl),by rw [HLB.out,HD60.out];rfl,by rw [HWS.out,show rm-(sk+wk)=rm-sk-wk by omega];exact HXN.out,HBN.out⟩
       · have h60z:¬(60:Int) < (nk:Int):=by omega
         have HD60:Hid (decide (60 < nk)=false):=decide_eq_false h60
         clear h60
         go_quiet (fail)
         have HBN:Hid (Below W2.heap.size W2 (w5.drewN nq)):=HB4.out.trans ((below_drewN w5 nq).mono HB4.out.size)
         have HXN:=Lib.hid (HX5.out.below (below_drewN w5 nq) HX5.out.lt)
         go_wp2_with fail
         go_roundg (l.ps.length-(k+1))
         case measure=>omega
         case rel=>exact ⟨k+1,by omega,by omega,by go_num,by rw [HLS.out];exact congrArg (Value.int .i64) (by push_cast;rfl),by rw [HLB.out,HD60.out];rfl,by rw [HWS.out,show rm-(sk+wk)=rm-sk-wk by omega];exact HXN.out,HBN.out⟩
    · have hltz:¬(k:Int) < (l.ps.length:Int):=by omega
      have hkn:k=l.ps.length:=by omega
      have htk:l.ps.take k=l.ps:=List.take_of_length_le (by omega)
      have HXE:Hid (Blk wr b11 104 (ofc l.g l.room l.ends da db false)):=by show Blk _ _ _ _;rw [HRM.out,←htk];exact HX.out
      rw [htk] at hwk hlk ⊢
      have hzb:=HO2.out.Z.lt
      have x0:=HXE.out.cell 0
      have y0:=HO.out.Z.cell 0
      have q0:=Blk.frozen HO.out.Z 0
      have x1:=HXE.out.cell 1
      have y1:=HO.out.Z.cell 1
      have q1:=Blk.frozen HO.out.Z 1
      have x2:=HXE.out.cell 2
      have y2:=HO.out.Z.cell 2
      have q2:=Blk.frozen HO.out.Z 2
      have x3:=HXE.out.cell 3
      have y3:=HO.out.Z.cell 3
      have q3:=Blk.frozen HO.out.Z 3
      have x4:=HXE.out.cell 4
      have y4:=HO.out.Z.cell 4
      have q4:=Blk.frozen HO.out.Z 4
      have x5:=HXE.out.cell 5
      have y5:=HO.out.Z.cell 5
      have q5:=Blk.frozen HO.out.Z 5
      have yl:=HO.out.Z.lt
      have xl:=HXE.out.lt
      have hne:¬w.heap.size+1+1+1=b11:=by omega
      have hne2:¬b11=w.heap.size+1+1+1:=by omega
      have xz:=Blk.frozen HXE.out 5
      clear HX htk hkn hlt hg hk
      by_cases h1:l.ps.length≤30
      · have h1z:(l.ps.length:Int)≤30:=by omega
        cases hlb:longB l.ps with
        | true=>
         have HF:Hid (fitsB l=false):=by show _=_;rw [HFI.out];exact decide_eq_false (fun h=>by rw [hlb] at h;exact absurd h.2.1 (by decide))
         rw [HF.out] at HPOST
         have HX6:=HXE.out.set_ 5 (.bool false)
         have HZ6:Hid (Blk (wr.setCell ⟨b11,5,none⟩ (.bool false)) (w.heap.size+1+1+1) 104 (ofc 0 0 false false false false)):=(Below.heap_setCell _ _ _ _ (by show _≠b11;omega)).trans HO.out.Z
         have HB6:Hid (Below w.heap.size w (wr.setCell ⟨b11,5,none⟩ (.bool false))):=HO.out.B.setCell (by show w.heap.size≤b11;omega) _
         clear HX6
         go_wp2_with fail
         refine bodyPost_ret (of_res (HZ6.out.six _ _ _ _ _ _) rfl _ rfl) rfl ?_
         exact HPOST.out _ (below_six HB6.out (by omega) _ _ _ _ _ _)
        | false=>
         by_cases h2:lenS l.ps≤188
         · have h2z:(lenS l.ps:Int)≤188:=by omega
           by_cases h3:l.room≤20000
           · have HH:=Lib.hid hlb
             have HF:Hid (fitsB l=true):=by show _=_;rw [HFI.out];exact decide_eq_true ⟨h1,HH.out,h2,h3⟩
             rw [HF.out] at HPOST
             have HX6:=HXE.out.set_ 5 (.bool true)
             have HZ6:Hid (Blk (wr.setCell ⟨b11,5,none⟩ (.bool true)) (w.heap.size+1+1+1) 104 (ofc 0 0 false false false false)):=(Below.heap_setCell _ _ _ _ (by show _≠b11;omega)).trans HO.out.Z
             have HB6:Hid (Below w.heap.size w (wr.setCell ⟨b11,5,none⟩ (.bool true))):=HO.out.B.setCell (by show w.heap.size≤b11;omega) _
             clear HX6
             go_wp2_with fail
             refine bodyPost_ret (of_res (HZ6.out.six _ _ _ _ _ _) rfl _ rfl) rfl ?_
             exact HPOST.out _ (below_six HB6.out (by omega) _ _ _ _ _ _)
           · have h3z:¬l.room≤20000:=h3
             have HF:Hid (fitsB l=false):=by show _=_;rw [HFI.out];exact decide_eq_false (fun h=>h3 h.2.2.2)
             rw [HF.out] at HPOST
             have HX6:=HXE.out.set_ 5 (.bool false)
             have HZ6:Hid (Blk (wr.setCell ⟨b11,5,none⟩ (.bool false)) (w.heap.size+1+1+1) 104 (ofc 0 0 false false false false)):=(Below.heap_setCell _ _ _ _ (by show _≠b11;omega)).trans HO.out.Z
             have HB6:Hid (Below w.heap.size w (wr.setCell ⟨b11,5,none⟩ (.bool false))):=HO.out.B.setCell (by show w.heap.size≤b11;omega) _
             clear HX6
             go_wp2_with fail
             refine bodyPost_ret (of_res (HZ6.out.six _ _ _ _ _ _) rfl _ rfl) rfl ?_
             exact HPOST.out _ (below_six HB6.out (by omega) _ _ _ _ _ _)
         · have h2z:¬(lenS l.ps:Int)≤188:=by omega
           have HF:Hid (fitsB l=false):=by show _=_;rw [HFI.out];exact decide_eq_false (fun h=>h2 h.2.2.1)
           rw [HF.out] at HPOST
           have HX6:=HXE.out.set_ 5 (.bool false)
           have HZ6:Hid (Blk (wr.setCell ⟨b11,5,none⟩ (.bool false)) (w.heap.size+1+1+1) 104 (ofc 0 0 false false false false)):=(Below.heap_setCell _ _ _ _ (by show _≠b11;omega)).trans HO.out.Z
           have HB6:Hid (Below w.heap.size w (wr.setCell ⟨b11,5,none⟩ (.bool false))):=HO.out.B.setCell (by show w.heap.size≤b11;omega) _
           clear HX6
           go_wp2_with fail
           refine bodyPost_ret (of_res (HZ6.out.six _ _ _ _ _ _) rfl _ rfl) rfl ?_
           exact HPOST.out _ (below_six HB6.out (by omega) _ _ _ _ _ _)
      · have h1z:¬(l.ps.length:Int)≤30:=by omega
        have HF:Hid (fitsB l=false):=by show _=_;rw [HFI.out];exact decide_eq_false (fun h=>h1 h.1)
        rw [HF.out] at HPOST
        have HX6:=HXE.out.set_ 5 (.bool false)
        have HZ6:Hid (Blk (wr.setCell ⟨b11,5,none⟩ (.bool false)) (w.heap.size+1+1+1) 104 (ofc 0 0 false false false false)):=(Below.heap_setCell _ _ _ _ (by show _≠b11;omega)).trans HO.out.Z
        have HB6:Hid (Below w.heap.size w (wr.setCell ⟨b11,5,none⟩ (.bool false))):=HO.out.B.setCell (by show w.heap.size≤b11;omega) _
        clear HX6
        go_wp2_with fail
        refine bodyPost_ret (of_res (HZ6.out.six _ _ _ _ _ _) rfl _ rfl) rfl ?_
        exact HPOST.out _ (below_six HB6.out (by omega) _ _ _ _ _ _)
end Go.Proofs.YtbnganlfelgogaaGreat
