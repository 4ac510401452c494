/- open: a right paragraph in memory. -/
import Derived.Test.YtbnganlfelgogaaGreatVLwa
import Derived.Deep.RegionHeld3
import Derived.Test.YtbnganlfelgogaaGreatVPlc
import Derived.Lib.AppendZerosOnto
import Derived.Maps.AppendAt
import Derived.WalkSpells
import Derived.Deep.Onto
import Derived.Laws.OwnMore
set_option linter.unusedSimpArgs false
set_option linter.unusedVariables false
set_option maxRecDepth 100000
set_option maxHeartbeats 40000000
namespace Go.Proofs.YtbnganlfelgogaaGreat
open Go.RowKit Go.Sort
@[reducible,go_sem] def gcs (f:Fnt) (v:Value) (r:Rls) (vw vp:Value):Array Value:=
  #[.string f.name,.int .i64 f.body,v,.int .i64 r.measure,.int .i64 r.indent,.int .i64 r.least,.int .i64 r.most,.int .i64 r.gap,.int .i64 r.hyphen,.int .i64 r.single,.int .i64 r.double,vw,vp]
structure PA (W:World) (pb:Nat) (f:Fnt) (v:Value) (r:Rls) (ws:List PWord) (vw vp:Value):Prop where
 P:Blk W pb 167 (gcs f v r vw vp)
 S:SoV W f.sorts v
 V:WoV W ws vw
 L:PlV W (places ws) vp
theorem PA.step {W W':World} {pb:Nat} {f:Fnt} {v:Value} {r:Rls} {ws:List PWord} {vw vp:Value} (h:PA W pb f v r ws vw vp) (hb:Below W.heap.size W W'):PA W' pb f v r ws vw vp:=
 ⟨h.P.below hb h.P.lt,h.S.below hb,h.V.below hb,h.L.below hb⟩
structure POk (f:Fnt) (r:Rls) (ws:List PWord):Prop where
 fn:(fnErr f).2=0
 ru:RuOk f r
 wo:WsOk f.sorts.length ws
 sp:∀ i j,i < ws.length→j < (gw ws i).sorts.length→spB f (gz (gw ws i).sorts j)=false
 n:ws.length≤200
 m:(places ws).length≤300
theorem paErr_ok {f:Fnt} {r:Rls} {ws:List PWord} (h:paErr f r ws=0):POk f r ws:=by
 unfold paErr at h
 by_cases h1:ruErr f r≠0
 · rw [if_pos h1] at h;exact absurd h h1
 rw [if_neg h1] at h
 have h2:=ruErr_ok (Decidable.not_not.1 h1)
 have h3:=wsErr_ok h
 exact ⟨h2.1,h2.2,h3.2.1,h3.2.2.1,h3.2.2.2.1,h3.2.2.2.2⟩
def OpPost (f:Fnt) (v:Value) (r:Rls) (ws:List PWord) (vw:Value) (w:World) (e:Ending) (w':World):Prop:=
 Below w.heap.size w w'∧((paErr f r ws≠0∧e=.returned (.tuple #[.pointer none,.int .i64 (paErr f r ws)]))∨
  (paErr f r ws=0∧∃ pb vp,e=.returned (.tuple #[.pointer (some ⟨pb,0,none⟩),.int .i64 0])∧(w.heap.size≤pb∧∀ k,vp.ownBlock=some k→w.heap.size≤k)∧PA w' pb f v r ws vw vp))
theorem open_any (f:Fnt) (v:Value) (r:Rls) (ws:List PWord) (vw:Value) (w:World) (hv:SoV w f.sorts v) (hn:f.name.size≤9223372036854775807) (hw:WoV w ws vw) :
 Calls Tryz.prog 85 #[.agg (fcs f v),.agg (rcs r),vw] w (OpPost f v r ws vw w):=by
 have HT:=Lib.hid (UB.start (r:=r) hv hw)
 have HC:=Lib.hid (fun W (h:SoV W f.sorts v)=>checkRules_any f _ r W h hn)
 have HC2:=Lib.hid (fun W (h:SoV W f.sorts v) (h2:WoV W ws vw)=>checkWords_any f _ ws _ W h hn h2)
 have HD:Hid (paErr f r ws=if ruErr f r≠0 then ruErr f r else (wsErr f ws).2):=rfl
 have HOK:Hid (paErr f r ws=0→POk f r ws):=paErr_ok
 have HPB:Hid (∀ (W:World) (x:Int),paErr f r ws=x→x≠0→Below w.heap.size w W→OpPost f v r ws vw w (.returned (.tuple #[.pointer none,.int .i64 x])) W):=(show ∀ W x,_ from fun W x h h0 hb=>⟨hb,.inl ⟨by rw [h];exact h0,by rw [h]⟩⟩)
 have HPG:Hid (∀ (W:World) (pb:Nat) (vp:Value),paErr f r ws=0→(w.heap.size≤pb∧∀ k,vp.ownBlock=some k→w.heap.size≤k)→Below w.heap.size w W→PA W pb f v r ws vw vp→OpPost f v r ws vw w (.returned (.tuple #[.pointer (some ⟨pb,0,none⟩),.int .i64 0])) W):=(show ∀ W pb vp,_ from fun W pb vp h h0 hb hp=>⟨hb,.inr ⟨h,pb,vp,rfl,h0,hp⟩⟩)
 generalize paErr f r ws=rv at *
 obtain ⟨Av,cv,rfl⟩:=hv.shape
 obtain ⟨Aw,cw,rfl,-⟩:=hw.shape
 clear hv hn hw
 have g0:=HT.out.T.F.cell 0
 have g1:=HT.out.T.F.cell 1
 have g2:=HT.out.T.F.cell 2
 have q0:=HT.out.T.R.cell 0
 have q1:=HT.out.T.R.cell 1
 have q2:=HT.out.T.R.cell 2
 have q3:=HT.out.T.R.cell 3
 have q4:=HT.out.T.R.cell 4
 have q5:=HT.out.T.R.cell 5
 have q6:=HT.out.T.R.cell 6
 have q7:=HT.out.T.R.cell 7
 go_enter Tryz.func85,Tryz.ntmps85
 go_wp2_with fail
 generalize (w.alloc (.cells (fcs f (.slice Av f.sorts.length cv)) 24)).alloc (.cells (rcs r) 26)=W0 at *
 refine (HC.out _ HT.out.T.S).mono ?_
 rintro e W1 ⟨rfl,hb⟩
 have H1:=Lib.hid (HT.out.step hb)
 clear hb HT HC g0 g1 g2 q0 q1 q2 q3 q4 q5 q6 q7
 have g0:=H1.out.T.F.cell 0
 have g1:=H1.out.T.F.cell 1
 have g2:=H1.out.T.F.cell 2
 have q0:=H1.out.T.R.cell 0
 have q1:=H1.out.T.R.cell 1
 have q2:=H1.out.T.R.cell 2
 have q3:=H1.out.T.R.cell 3
 have q4:=H1.out.T.R.cell 4
 have q5:=H1.out.T.R.cell 5
 have q6:=H1.out.T.R.cell 6
 have q7:=H1.out.T.R.cell 7
 obtain ⟨ev,hev⟩:∃ x,ruErr f r=x:=⟨_,rfl⟩
 rw [hev] at HD ⊢
 clear hev
 by_cases he:ev=0
 rotate_left
 · have heb:=bne_t he
   have HFIN:Hid (rv=ev):=by show _=_;rw [HD.out,if_pos he]
   have HNE:=Lib.hid he
   clear he
   go_wp2_with fail
   go_ret2
   exact HPB.out _ _ HFIN.out HNE.out H1.out.T.B
 have heb:=bne_f he
 have HD2:Hid (rv=(wsErr f ws).2):=by show _=_;rw [HD.out,if_neg (fun h=>h he)]
 clear he HD
 go_wp2_with fail
 refine (HC2.out _ H1.out.T.S H1.out.V).mono ?_
 rintro e W2 ⟨rfl,hb⟩
 have H2:=Lib.hid (H1.out.step hb)
 clear hb H1 HC2 g0 g1 g2 q0 q1 q2 q3 q4 q5 q6 q7
 have g0:=H2.out.T.F.cell 0
 have g1:=H2.out.T.F.cell 1
 have g2:=H2.out.T.F.cell 2
 have q0:=H2.out.T.R.cell 0
 have q1:=H2.out.T.R.cell 1
 have q2:=H2.out.T.R.cell 2
 have q3:=H2.out.T.R.cell 3
 have q4:=H2.out.T.R.cell 4
 have q5:=H2.out.T.R.cell 5
 have q6:=H2.out.T.R.cell 6
 have q7:=H2.out.T.R.cell 7
 obtain ⟨ev2,hev⟩:∃ x,(wsErr f ws).2=x:=⟨_,rfl⟩
 obtain ⟨ev1,hev1⟩:∃ x,(wsErr f ws).1=x:=⟨_,rfl⟩
 rw [hev] at HD2 ⊢
 rw [hev1]
 clear hev hev1
 by_cases he:ev2=0
 rotate_left
 · have heb:=bne_t he
   have HNE:=Lib.hid he
   clear he
   go_wp2_with fail
   go_ret2
   exact HPB.out _ _ HD2.out HNE.out H2.out.T.B
 have heb2:=bne_f he
 have HZ:Hid (rv=0):=by show _=_;rw [HD2.out,he]
 clear he HD2
 have HPK:=Lib.hid (HOK.out HZ.out)
 have hws:=H2.out.T.F.lt
 have hws1:=H2.out.T.R.lt
 have hbw:=H2.out.T.B.size
 have HPL:=Lib.hid (fun W (h:Below W2.heap.size W2 W)=>placesOf_any f.sorts.length ws (.slice Aw ws.length cw) W (H2.out.V.below h) HPK.out.wo HPK.out.n)
 have h0:Below W2.heap.size W2 W2.drew:=(Below.refl _ _).drew
 have H0:=Lib.hid h0
 have HKS:Hid (∀ W,Below W2.heap.size W2 W→(W.cell? ⟨w.heap.size,0,none⟩=some (.string f.name)∧W.cell? ⟨w.heap.size,1,none⟩=some (.int .i64 f.body)∧W.cell? ⟨w.heap.size,2,none⟩=some (.slice Av f.sorts.length cv)∧W.cell? ⟨w.heap.size+1,0,none⟩=some (.int .i64 r.measure)∧W.cell? ⟨w.heap.size+1,1,none⟩=some (.int .i64 r.indent)∧W.cell? ⟨w.heap.size+1,2,none⟩=some (.int .i64 r.least)∧W.cell? ⟨w.heap.size+1,3,none⟩=some (.int .i64 r.most)∧W.cell? ⟨w.heap.size+1,4,none⟩=some (.int .i64 r.gap)∧W.cell? ⟨w.heap.size+1,5,none⟩=some (.int .i64 r.hyphen)∧W.cell? ⟨w.heap.size+1,6,none⟩=some (.int .i64 r.single)∧W.cell? ⟨w.heap.size+1,7,none⟩=some (.int .i64 r.double))):=(show ∀ W,_ from fun W hW=>by
  have hh:=H2.out.T.step hW
  exact ⟨hh.F.cell 0,hh.F.cell 1,hh.F.cell 2,hh.R.cell 0,hh.R.cell 1,hh.R.cell 2,hh.R.cell 3,hh.R.cell 4,hh.R.cell 5,hh.R.cell 6,hh.R.cell 7⟩)
 have hS0:=HKS.out W2.drew h0
 clear h0 g0 g1 g2 q0 q1 q2 q3 q4 q5 q6 q7
 go_wp2_with fail
 go_region_held3 (fun W=>(W.cell? ⟨w.heap.size,0,none⟩=some (.string f.name)∧W.cell? ⟨w.heap.size,1,none⟩=some (.int .i64 f.body)∧W.cell? ⟨w.heap.size,2,none⟩=some (.slice Av f.sorts.length cv)∧W.cell? ⟨w.heap.size+1,0,none⟩=some (.int .i64 r.measure)∧W.cell? ⟨w.heap.size+1,1,none⟩=some (.int .i64 r.indent)∧W.cell? ⟨w.heap.size+1,2,none⟩=some (.int .i64 r.least)∧W.cell? ⟨w.heap.size+1,3,none⟩=some (.int .i64 r.most)∧W.cell? ⟨w.heap.size+1,4,none⟩=some (.int .i64 r.gap)∧W.cell? ⟨w.heap.size+1,5,none⟩=some (.int .i64 r.hyphen)∧W.cell? ⟨w.heap.size+1,6,none⟩=some (.int .i64 r.single)∧W.cell? ⟨w.heap.size+1,7,none⟩=some (.int .i64 r.double)))
  (first
   | exact hS0
   | exact HKS.out _ hb4
   | go_keep)
  ((go_at_call 92;(with_reducible refine (HPL.out _ H0.out).mono ?_);rintro e w4 ⟨vp,rfl,hpv,hb4',hown⟩;obtain ⟨Ap,cp,rfl,-,-⟩:=hpv.shape;have hb4:Below W2.heap.size W2 w4:=H0.out.trans (hb4'.mono H0.out.size)))
 generalize hwn:w4.heap.size=pb at *
 have HA:=Lib.hid ((H2.out.step hb4).T.B)
 have HS4:=Lib.hid ((H2.out.step hb4).T.S)
 have HV4:=Lib.hid ((H2.out.step hb4).V)
 have HL4:=Lib.hid hpv
 have HZ4:Hid (w.heap.size≤pb):=by show _≤_;have:=HA.out.size;omega
 have HWN:=Lib.hid hwn
 have HOW:Hid (∀ k,(Value.slice Ap (places ws).length cp).ownBlock=some k→w.heap.size≤k):=(show ∀ k,_ from fun k hk=>by have h1:=hown k hk;have h2:=H2.out.T.B.size;simp at h1;omega)
 clear hwn hb4 hb4' hpv hS0 hown
 go_wp2_with fail
 go_ret2
 refine HPG.out _ pb (.slice Ap (places ws).length cp) HZ.out ⟨HZ4.out,HOW.out⟩ ?_ ?_
 · exact HA.out.alloc HA.out.size _
 · have hbn:=below_new w4 (.cells (gcs f (.slice Av f.sorts.length cv) r (.slice Aw ws.length cw) (.slice Ap (places ws).length cp)) 167)
   have hPB:=Blk.new w4 167 (gcs f (.slice Av f.sorts.length cv) r (.slice Aw ws.length cw) (.slice Ap (places ws).length cp))
   rw [HWN.out] at hPB
   exact ⟨hPB,HS4.out.below hbn,HV4.out.below hbn,HL4.out.below hbn⟩
end Go.Proofs.YtbnganlfelgogaaGreat
namespace Go.Proofs.YtbnganlfelgogaaGreat
open Go.RowKit
theorem run_copy {P:Program} (w:World) (t ty:TypeId) (e:TypeId) (i:TypeInfo) (z:Value) (size bytes:Nat) (ht:P.underlying t=some (.slice e)) (hi:P.info? e=some i) (hz:i.zero=some z)
 (hsize:i.size=size) (hby:i.bytes=bytes) (hzs:z.cells.size=size) (hsz:0 < size)
 (A:Option Addr) (b off m c:Nat) (news:List Value) (hl:news.length=m*size) (hA:Lies A m w.heap.size b off) (hnews:∀ j,j < m*size→w.cell? ⟨b,off+j,none⟩=news[j]?) (h1:∀ u ∈ news,u.oneCell'=true)
 (h63:m≤maxLen) (hbytes:m*bytes≤140737488355328) :
 ∃ v' w',(Builtin.append_ #[t,t] ty #[.slice (some ⟨w.heap.size,0,none⟩) 0 0,.slice A m c]).run P (w.alloc (.cells #[] e))=.ok v' w'∧w'.ownsRow w.heap.size e size v' m news∧Below w.heap.size w w':=by
 have hown:(w.alloc (.cells #[] e)).ownsRow w.heap.size e size (.slice (some ⟨w.heap.size,0,none⟩) 0 0) 0 []:=by
  refine ⟨by simp,.inr ⟨w.heap.size,0,#[],rfl,Nat.le_refl _,?_,Nat.le_refl _,by simp,by simp,by simp⟩⟩
  show (w.heap.push _)[w.heap.size]?=_
  simp
 have hb0:Below w.heap.size w (w.alloc (.cells #[] e)):=(Below.refl _ _).alloc (Nat.le_refl _) _
 by_cases hm:m=0
 · subst hm
   have hn:news=[]:=List.eq_nil_of_length_eq_zero (by simpa using hl)
   subst hn
   cases A with
   | none=>
    refine ⟨.slice (some ⟨w.heap.size,0,none⟩) 0 0,w.alloc (.cells #[] e),?_,hown,hb0⟩
    simp [Builtin.append_,run_underlying ht,sizeOf,typeInfo,hi,Builtin.lenOf,Builtin.firstCells,storeCells]
   | some ad=>
    obtain ⟨v',w',hrun,h2,h3,_,h5⟩:=run_append_own_at (P:=P) _ w.heap.size t ty e i z size bytes ht hi hz hsize hby hzs hsz _ 0 [] hown ad 0 c [] (by simp) (by simp) (by simp) (by omega) (by rw [Nat.zero_add];exact hbytes) (by simp)
    refine ⟨v',w',hrun,by simpa using h2,hb0.grown h3 (by simp) fun k hk=>?_⟩
    simp [Value.ownBlock] at hk
    omega
 · obtain ⟨rfl,hbb⟩:=hA (by omega)
   have hcells:∀ j u,news[j]?=some u→(w.alloc (.cells #[] e)).cell? ((⟨b,off,none⟩:Addr).add j)=some u:=fun j u hu=>by
    have hj:j < m*size:=by
     rcases Nat.lt_or_ge j (m*size) with h | h
     · exact h
     · rw [List.getElem?_eq_none (by omega)] at hu;cases hu
    have hadd:(⟨b,off,none⟩:Addr).add j=⟨b,off+j,none⟩:=by unfold Addr.add;split <;> simp_all
    rw [hadd,hb0.cell (p:=⟨b,off+j,none⟩) hbb,hnews j hj,hu]
   obtain ⟨v',w',hrun,h2,h3,_,h5⟩:=run_append_own_at (P:=P) _ w.heap.size t ty e i z size bytes ht hi hz hsize hby hzs hsz _ 0 [] hown ⟨b,off,none⟩ m c news hl hcells h1 (by omega) (by rw [Nat.zero_add];exact hbytes) (by simp)
   refine ⟨v',w',hrun,by simpa using h2,hb0.grown h3 (by simp) fun k hk=>?_⟩
   simp [Value.ownBlock] at hk
   omega
theorem wpList_copy {P:Program} {ops:Array Oper} {rest:List Oper} {o:Oper} {a:Act} {w w0:World} {Q:Exit→Act→World→Prop} (hgd:o.guard=none) (s x:Operand) (t:TypeId)
 (ho:o.op=.call { callee:=.builtin .append,args:=#[s,x],argTypes:=#[t,t] })
 (e:TypeId) (i:TypeInfo) (z:Value) (size bytes:Nat) (ht:P.underlying t=some (.slice e)) (hi:P.info? e=some i) (hz:i.zero=some z)
 (hsize:i.size=size) (hby:i.bytes=bytes) (hzs:z.cells.size=size) (hsz:0 < size)
 (hw:w=w0.alloc (.cells #[] e)) (hs:a.eval s=.slice (some ⟨w0.heap.size,0,none⟩) 0 0)
 (A:Option Addr) (b off m c:Nat) (news:List Value) (hx:a.eval x=.slice A m c) (hl:news.length=m*size) (hA:Lies A m w0.heap.size b off) (hnews:∀ j,j < m*size→w0.cell? ⟨b,off+j,none⟩=news[j]?) (h1:∀ u ∈ news,u.oneCell'=true)
 (h63:m≤maxLen) (hbytes:m*bytes≤140737488355328)
 (h:∀ v' w',w'.ownsRow w0.heap.size e size v' m news→Below w0.heap.size w0 w'→wpList P ops Q rest (a.put o.dst v') w'):wpList P ops Q (o :: rest) a w:=by
 subst hw
 refine wpList_plain hgd fun _ hK=>?_
 obtain ⟨v',w',hr,h2,h3⟩:=run_copy (P:=P) w0 t o.type e i z size bytes ht hi hz hsize hby hzs hsz A b off m c news hl hA hnews h1 h63 hbytes
 unfold Oper.wp execOp
 simp only [ho,resolve,invoke,builtin,Sem.run_bind,Sem.run_pure,Result.andThen_ok,List.map_toArray,List.map_cons,List.map_nil,hs,hx,hr]
 exact hK _ _ (h v' w' h2 h3)
theorem info3:(Tryz.prog.info? 3).map (fun i=>(i.zero,i.size,i.bytes))=some (some (.int .i64 0),1,8):=by kernel_rfl
theorem grow_any (n:Nat) (w:World) (h0:0 < n) (hn:n≤1000000):Calls Tryz.prog 187 #[.slice none 0 0,.int .i64 n] w fun e w'=>∃ v,e=.returned v∧w'.ownsRow w.heap.size 3 1 v 0 []∧Below w.heap.size w w':=by
 obtain ⟨i0,hi0,hz0,hz1,hz2⟩:=info_parts info3
 have hrz:=fun ty=>Lib.run_append_nil_zeros w 34 3 ty 3 i0 (.int .i64 0) .i64 .i64 Tryz.underlying34 Tryz.underlying3 hi0 hz0 n h0 (by omega) (by omega) (by rw [hz2];omega)
 have hGn:n≤grownCap w n 0 3:=grownCap_ge w _ _ _
 have hG63:grownCap w n 0 3≤maxLen:=grownCap_le_maxLen w n 0 3 (by unfold maxLen;omega)
 generalize grownCap w n 0 3=G at *
 have hs:(Builtin.zeroCells (Value.int IntKind.i64 0).cells n++Builtin.zeroCells (Value.int IntKind.i64 0).cells (G-n)).size=G*1:=by
  rw [Array.size_append,size_zeroCells,size_zeroCells]
  simp [Value.cells]
  omega
 generalize Builtin.zeroCells (Value.int IntKind.i64 0).cells n++Builtin.zeroCells (Value.int IntKind.i64 0).cells (G-n)=cur at *
 have hown:(w.drew.alloc (.cells cur 3)).ownsRow w.heap.size 3 1 (.slice (some ⟨w.heap.size,0,none⟩) 0 G) 0 []:=⟨rfl,.inr ⟨w.heap.size,G,cur,rfl,Nat.le_refl _,heap_alloc_new w.drew _,Nat.zero_le _,hG63,hs,by simp⟩⟩
 have hB:Below w.heap.size w (w.drew.alloc (.cells cur 3)):=(Below.refl _ _).drew.alloc (Nat.le_refl _) _
 have HO:=Lib.hid hown
 have HB:=Lib.hid hB
 clear hown hB hs
 have hnp:¬((n:Int) < 0):=by omega
 have hnq:(n:Int) > 0:=by omega
 unfold maxLen at hG63
 go_enter Tryz.func187,Tryz.ntmps187
 go_wp2_with (at_builtin;refine Lib.wpList_append_run _ rfl _ _ _ _ rfl _ _ rfl rfl _ _ (hrz _) ?_)
 go_ret
 exact ⟨_,rfl,HO.out,HB.out⟩
def GrowPost (w:World) (e:Ending) (w':World):Prop:=∃ v,e=.returned v∧w'.ownsRow w.heap.size 3 1 v 0 []∧Below w.heap.size w w'
theorem grow_all (n:Nat) (w:World) (hn:n≤1000000):Calls Tryz.prog 187 #[.slice none 0 0,.int .i64 (n:Int)] w (GrowPost w):=by
 by_cases h0:n=0
 · subst h0
   go_enter Tryz.func187,Tryz.ntmps187
   go_wp2_with fail
   go_ret
   exact ⟨_,rfl,World.ownsRow_nil _ _ _ _,Below.refl _ _⟩
 · exact grow_any n w (by omega) hn
theorem run_app {P:Program} (w:World) (base:Nat) (t ty e:TypeId) (i:TypeInfo) (z:Value) (size bytes:Nat) (ht:P.underlying t=some (.slice e)) (hi:P.info? e=some i) (hz:i.zero=some z)
 (hsize:i.size=size) (hby:i.bytes=bytes) (hzs:z.cells.size=size) (hsz:0 < size)
 (v:Value) (n:Nat) (xs:List Value) (hown:w.ownsRow base e size v n xs)
 (A:Option Addr) (b off m c:Nat) (news:List Value) (hl:news.length=m*size) (hA:Lies A m w.heap.size b off) (hnews:∀ j,j < m*size→w.cell? ⟨b,off+j,none⟩=news[j]?) (h1:∀ u ∈ news,u.oneCell'=true)
 (h63:n+m≤maxLen) (hbytes:(n+m)*bytes≤140737488355328) (hbase:base≤w.heap.size) :
 ∃ v' w',(Builtin.append_ #[t,t] ty #[v,.slice A m c]).run P w=.ok v' w'∧w'.ownsRow base e size v' (n+m) (xs++news)∧w.grownBy w' v.ownBlock∧(v'.ownBlock=v.ownBlock∨v'.ownBlock=some w.heap.size):=by
 by_cases hm:m=0
 · subst hm
   have hn:news=[]:=List.eq_nil_of_length_eq_zero (by simpa using hl)
   subst hn
   cases A with
   | none=>
    refine ⟨v,w,?_,by simpa using hown,⟨rfl,rfl,rfl,Nat.le_refl _,fun _ _ _=>rfl⟩,.inl rfl⟩
    rcases hown.2 with ⟨rfl,rfl⟩ | ⟨g,cap,cur,rfl,_,hg,hnc,_,hcs,_⟩
    · simp [Builtin.append_,run_underlying ht,sizeOf,typeInfo,hi,Builtin.lenOf,Builtin.firstCells,storeCells]
    · simp [Builtin.append_,run_underlying ht,sizeOf,typeInfo,hi,Builtin.lenOf,Builtin.firstCells,storeCells,hnc]
   | some ad=>
    obtain ⟨v',w',hrun,h2,h3,_,h5⟩:=run_append_own_at (P:=P) w base t ty e i z size bytes ht hi hz hsize hby hzs hsz v n xs hown ad 0 c [] (by simp) (by simp) (by simp) h63 hbytes hbase
    exact ⟨v',w',hrun,h2,h3,h5⟩
 · obtain ⟨rfl,hbb⟩:=hA (by omega)
   have hcells:∀ j u,news[j]?=some u→w.cell? ((⟨b,off,none⟩:Addr).add j)=some u:=fun j u hu=>by
    have hj:j < m*size:=by
     rcases Nat.lt_or_ge j (m*size) with h | h
     · exact h
     · rw [List.getElem?_eq_none (by omega)] at hu;cases hu
    have hadd:(⟨b,off,none⟩:Addr).add j=⟨b,off+j,none⟩:=by unfold Addr.add;split <;> simp_all
    rw [hadd,hnews j hj,hu]
   obtain ⟨v',w',hrun,h2,h3,_,h5⟩:=run_append_own_at (P:=P) w base t ty e i z size bytes ht hi hz hsize hby hzs hsz v n xs hown ⟨b,off,none⟩ m c news hl hcells h1 h63 hbytes hbase
   exact ⟨v',w',hrun,h2,h3,h5⟩
theorem wpList_app {P:Program} {ops:Array Oper} {rest:List Oper} {o:Oper} {a:Act} {w:World} {Q:Exit→Act→World→Prop} (hgd:o.guard=none) (s x:Operand) (t:TypeId)
 (ho:o.op=.call { callee:=.builtin .append,args:=#[s,x],argTypes:=#[t,t] })
 (base:Nat) (e:TypeId) (i:TypeInfo) (z:Value) (size bytes:Nat) (ht:P.underlying t=some (.slice e)) (hi:P.info? e=some i) (hz:i.zero=some z)
 (hsize:i.size=size) (hby:i.bytes=bytes) (hzs:z.cells.size=size) (hsz:0 < size)
 (v:Value) (n:Nat) (xs:List Value) (hs:a.eval s=v) (hown:w.ownsRow base e size v n xs)
 (A:Option Addr) (b off m c:Nat) (news:List Value) (hx:a.eval x=.slice A m c) (hl:news.length=m*size) (hA:Lies A m w.heap.size b off) (hnews:∀ j,j < m*size→w.cell? ⟨b,off+j,none⟩=news[j]?) (h1:∀ u ∈ news,u.oneCell'=true)
 (h63:n+m≤maxLen) (hbytes:(n+m)*bytes≤140737488355328) (hbase:base≤w.heap.size)
 (h:∀ v' w',w'.ownsRow base e size v' (n+m) (xs++news)→w.grownBy w' v.ownBlock→(v'.ownBlock=v.ownBlock∨v'.ownBlock=some w.heap.size)→wpList P ops Q rest (a.put o.dst v') w'):wpList P ops Q (o :: rest) a w:=by
 refine wpList_plain hgd fun _ hK=>?_
 obtain ⟨v',w',hr,h2,h3,h4⟩:=run_app (P:=P) w base t o.type e i z size bytes ht hi hz hsize hby hzs hsz v n xs hown A b off m c news hl hA hnews h1 h63 hbytes hbase
 unfold Oper.wp execOp
 simp only [ho,resolve,invoke,builtin,Sem.run_bind,Sem.run_pure,Result.andThen_ok,List.map_toArray,List.map_cons,List.map_nil,hs,hx,hr]
 exact hK _ _ (h v' w' h2 h3 h4)
def zv (zs:List Int):List Value:=zs.map (Value.int .i64)
theorem zv_len (zs:List Int):(zv zs).length=zs.length*1:=by simp [zv]
theorem zv_app (a b:List Int):zv (a++b)=zv a++zv b:=by simp [zv]
theorem zv_one (zs:List Int):∀ u ∈ zv zs,u.oneCell'=true:=fun u hu=>by obtain ⟨x,_,rfl⟩:=List.mem_map.1 hu;rfl
theorem zv_get {zs:List Int} {j:Nat} (h:j < zs.length):(zv zs)[j]?=some (.int .i64 (gz zs j)):=by
 simp [zv,gz,List.getD_eq_getElem?_getD,List.getElem?_eq_getElem h]
def IO (W:World) (B:Nat) (zs:List Int) (v:Value):Prop:=W.ownsRow B 3 1 v zs.length (zv zs)
theorem IO.iv {W:World} {B:Nat} {zs:List Int} {v:Value} (h:IO W B zs v):IV W zs v:=by
 refine (rv_of_own h (zv_len zs)).congr fun j hj=>?_
 have:=zv_get (zs:=zs) (j:=j) (by omega)
 rw [List.getD_eq_getElem?_getD,this]
 rfl
theorem IO.below {W W':World} {B:Nat} {zs:List Int} {v:Value} (h:IO W B zs v) (hb:Below W.heap.size W W'):IO W' B zs v:=World.ownsRow.kept h (grown_of_below hb none) (Classical.em _)
def CloPost (w:World) (zs:List Int) (e:Ending) (w':World):Prop:=∃ v,e=.returned v∧IO w' w.heap.size zs v∧Below w.heap.size w w'
theorem ZsAt.news {w:World} {b off:Nat} {zs:List Int} (h:ZsAt w b off zs):∀ j,j < zs.length*1→w.cell? ⟨b,off+j,none⟩=(zv zs)[j]?:=fun j hj=>by rw [h j (by omega),zv_get (by omega)]
theorem cloneI_any (zs:List Int) (A:Option Addr) (b off c:Nat) (w:World) (hA:Lies A zs.length w.heap.size b off) (hz:ZsAt w b off zs) (hm:zs.length≤1000000) :
 Calls Tryz.prog 104 #[.slice A zs.length c] w (CloPost w zs):=by
 have HP:Hid (∀ v w',w'.ownsRow w.heap.size 3 1 v zs.length (zv zs)→Below w.heap.size w w'→CloPost w zs (.returned v) w'):=(show ∀ v w',_ from fun v w' h hb=>⟨v,rfl,h,hb⟩)
 cases A with
 | none=>
  have hn:zs.length=0:=by
   rcases Nat.eq_zero_or_pos zs.length with h | h
   · exact h
   · have:=(hA h).1;cases this
  obtain rfl:zs=[]:=List.eq_nil_of_length_eq_zero hn
  have heq:∀ W,(binOp .eql 34 (.slice none 0 c) (.slice none 0 0)).run Tryz.prog W=.ok (.bool true) W:=fun W=>by
   have:=Lib.run_eql_slice_nil W 34 3 none 0 c 0 0 Tryz.underlying34
   simpa using this
  clear hA hz hn
  go_enter Tryz.func104,Tryz.ntmps104
  go_wp2_with fail
  go_ret
  exact HP.out _ _ (World.ownsRow_nil _ _ _ _) (Below.refl _ _)
 | some a=>
  obtain ⟨i0,hi0,hz0,hz1,hz2⟩:=info_parts info3
  have HH:=Lib.hid hz.news
  clear hz
  have heq:∀ W,(binOp .eql 34 (.slice (some a) zs.length c) (.slice none 0 0)).run Tryz.prog W=.ok (.bool false) W:=fun W=>by
   have:=Lib.run_eql_slice_nil W 34 3 (some a) zs.length c 0 0 Tryz.underlying34
   simpa using this
  have HL:=Lib.hid (zv_len zs)
  have HO1:=Lib.hid (zv_one zs)
  go_enter Tryz.func104,Tryz.ntmps104
  go_wp2_with ((at_builtin
                refine wpList_copy rfl (.tmp 5) (.tmp 6) 34 rfl 3 i0 _ 1 8 Tryz.underlying34 hi0 hz0 hz1 hz2 rfl (by omega) rfl rfl (some a) b off zs.length c _ rfl HL.out hA HH.out HO1.out (by simp only [maxLen];omega) (by omega) ?_
                intro v1 w1 hown1 hg1
                have HO:=Lib.hid hown1
                have HG:=Lib.hid hg1
                clear hown1 hg1))
  go_ret
  exact HP.out _ _ HO.out HG.out
def sumL (ls:List (List Int)) (k:Nat):Nat:=(ls.take k).flatten.length
theorem take_flat {ls:List (List Int)} {k:Nat} (h:k < ls.length):(ls.take (k+1)).flatten=(ls.take k).flatten++gl ls k:=by
 rw [List.take_succ_eq_append_getElem h,List.flatten_append]
 simp [gl,List.getD_eq_getElem?_getD,h]
theorem sumL_succ {ls:List (List Int)} {k:Nat} (h:k < ls.length):sumL ls (k+1)=sumL ls k+(gl ls k).length:=by unfold sumL;rw [take_flat h,List.length_append]
theorem sumL_mono {ls:List (List Int)} {k:Nat}:k≤ls.length→sumL ls k≤ls.flatten.length:=fun h=>by
 unfold sumL
 have:=congrArg (fun l:List (List Int)=>l.flatten.length) (List.take_append_drop k ls)
 simp only [List.flatten_append,List.length_append] at this
 omega
theorem LV.shape {W:World} {ls:List (List Int)} {v:Value} (h:LV W ls v):∃ A c,v=.slice A ls.length c∧ls.length≤c∧c≤9223372036854775807:=by
 obtain ⟨hs,⟨A,b,off,c,rfl,-,-,h1,h2⟩,-⟩:=h
 exact ⟨A,c,rfl,h1,h2⟩
theorem LV.at {W:World} {ls:List (List Int)} {A:Option Addr} {c k:Nat} (h:LV W ls (.slice A ls.length c)) (hk:k < ls.length) :
 ∃ b off A' b' o' c',A=some ⟨b,off,none⟩∧b < W.heap.size∧W.cell? ⟨b,off+k,none⟩=some (.slice A' (gl ls k).length c')∧Lies A' (gl ls k).length W.heap.size b' o'∧ZsAt W b' o' (gl ls k):=by
 obtain ⟨hs,⟨A0,b,off,c0,he,h1,h2,-⟩,h3⟩:=h
 injection he with hA hn hc
 subst hA
 obtain ⟨rfl,hb⟩:=h1 (by omega)
 obtain ⟨A',b',o',c',e1,e2,e3,-⟩:=(h3 k hk).open
 exact ⟨b,off,A',b',o',c',rfl,hb,by rw [h2 k (by omega),e1],e2,e3⟩
theorem concat_any (ls:List (List Int)) (v:Value) (w:World) (hv:LV w ls v) (hm:ls.length≤1000) (hs:ls.flatten.length≤100000) :
 Calls Tryz.prog 164 #[v] w (CloPost w ls.flatten):=by
 obtain ⟨i0,hi0,hz0,hz1,hz2⟩:=info_parts info3
 have HV:=Lib.hid hv
 obtain ⟨A,c,rfl,-,-⟩:=hv.shape
 have HP:Hid (∀ v w',w'.ownsRow w.heap.size 3 1 v ls.flatten.length (zv ls.flatten)→Below w.heap.size w w'→CloPost w ls.flatten (.returned v) w'):=(show ∀ v w',_ from fun v w' h hb=>⟨v,rfl,h,hb⟩)
 have HSM:Hid (∀ k,k≤ls.length→sumL ls k≤ls.flatten.length):=(show ∀ k,_ from fun k=>sumL_mono)
 have HSS:Hid (∀ k,k < ls.length→sumL ls (k+1)=sumL ls k+(gl ls k).length):=(show ∀ k,_ from fun k=>sumL_succ)
 have HSE:Hid (sumL ls ls.length=ls.flatten.length):=by show _=_;unfold sumL;rw [List.take_length]
 clear hv
 generalize hn:ls.length=n at *
 have HN:=Lib.hid hn
 generalize hft:ls.flatten.length=T at *
 have HT:=Lib.hid hft
 clear hn hft
 go_enter Tryz.func164,Tryz.ntmps164
 go_wp2_with fail
 go_loopg [11,3,5] n (fun gg s11 s3 _ wr=>∃ k:Nat,k≤n∧n-k≤gg∧s11=.int .i64 k∧s3=.int .i64 (sumL ls k)∧w=wr)
 case atStart=>exact ⟨0,by omega,by omega,rfl,rfl,rfl⟩
 case round=>
  obtain ⟨k,hk,hg,rfl,rfl,rfl⟩:=hrel
  have hsk:=HSM.out k hk
  by_cases hlt:k < n
  · have hltz:(k:Int) < (n:Int):=by omega
    have hV:=HV.out
    rw [←HN.out] at hV
    obtain ⟨b,off,A',b',o',c',rfl,hbw,hc,-,-⟩:=hV.at (k:=k) (by rw [HN.out];exact hlt)
    have HS1:=Lib.hid (HSS.out k hlt)
    have hs1:=HSM.out (k+1) (by omega)
    rw [HS1.out] at hs1
    clear hV
    generalize (gl ls k).length=m at *
    generalize sumL ls k=s at *
    have e1:IntKind.i64.wrap ((s:Int)+(m:Int))=(s:Int)+(m:Int):=IntWalk.i64_in _ (by omega)
    have e2:¬((s:Int)+(m:Int) < 0):=by omega
    go_wp2_with fail
    go_roundg (n-(k+1))
    case measure=>omega
    case rel=>exact ⟨k+1,by omega,by omega,by go_num,by rw [HS1.out];go_num,rfl⟩
  · have hltz:¬(k:Int) < (n:Int):=by omega
    have hke:k=n:=by omega
    subst hke
    rw [HSE.out]
    clear hsk
    have HG:=Lib.hid (grow_all T w (by omega))
    clear hlt hltz
    have HF0:Hid (zv (ls.take 0).flatten=[]):=by show _=_;rfl
    have HS0:Hid (sumL ls 0=0):=by show _=_;rfl
    have HFS:Hid (∀ j,j < ls.length→zv (ls.take (j+1)).flatten=zv (ls.take j).flatten++zv (gl ls j)):=(show ∀ j,_ from fun j hj=>by rw [take_flat hj,zv_app])
    have HFE:Hid (zv (ls.take ls.length).flatten=zv ls.flatten):=by show _=_;rw [List.take_length]
    rw [HN.out] at HFS HFE
    go_wp2_with fail
    refine HG.out.mono ?_
    rintro e w1 ⟨v1,rfl,hown,hb⟩
    have HO1:=Lib.hid hown
    have HB1:=Lib.hid hb
    clear hown hb HG
    go_wp2_with fail
    go_loopg [27,6,8] k (fun gg s27 s6 _ wr=>∃ (j:Nat) (vo:Value),j≤k∧k-j≤gg∧s27=.int .i64 j∧vo=s6∧Hid (wr.ownsRow w.heap.size 3 1 vo (sumL ls j) (zv (ls.take j).flatten))∧Hid (Below w.heap.size w wr))
    case atStart=>exact ⟨0,v1,by omega,by omega,rfl,rfl,by rw [HS0.out,HF0.out];exact HO1.out,HB1.out⟩
    case round=>
     obtain ⟨j,vo,hj,hg2,rfl,rfl,HO,HB⟩:=hrel
     have hsj:=HSM.out j hj
     have hbz:=HB.out.size
     by_cases hlt:j < k
     · have hltz:(j:Int) < (k:Int):=by omega
       have hV:=HV.out.below HB.out
       rw [←HN.out] at hV
       obtain ⟨b,off,A',b',o',c',rfl,hbw,hc,hl,hz⟩:=hV.at (k:=j) (by rw [HN.out];exact hlt)
       have HS1:=Lib.hid (HSS.out j hlt)
       have hs1:=HSM.out (j+1) (by omega)
       rw [HS1.out] at hs1
       have HF1:=Lib.hid (HFS.out j hlt)
       have HZ:=Lib.hid hz.news
       have HL:=Lib.hid (zv_len (gl ls j))
       have HO2:=Lib.hid (zv_one (gl ls j))
       have HLT:=Lib.hid HO.out.lt
       clear hV hz
       generalize (gl ls j).length=m at *
       generalize sumL ls j=sj at *
       go_wp2_with ((at_builtin
                     refine wpList_app rfl (.tmp 31) (.tmp 32) 34 rfl w.heap.size 3 i0 _ 1 8 Tryz.underlying34 hi0 hz0 hz1 hz2 rfl (by omega) vo sj _ rfl HO.out A' b' o' m c' _ rfl HL.out hl HZ.out HO2.out (by simp only [maxLen];omega) (by omega) hbz ?_
                     intro v2 w2 hown2 hg2 hat2
                     have HOW2:=Lib.hid hown2
                     have HGW2:=Lib.hid hg2
                     clear hown2 hg2 hat2))
       have HB2:=Lib.hid (HB.out.grown HGW2.out hbz (fun t ht=>(HLT.out t ht).1))
       go_roundg (k-(j+1))
       case measure=>omega
       case rel=>exact ⟨j+1,_,by omega,by omega,by go_num,rfl,by rw [HS1.out,HF1.out];exact HOW2.out,HB2.out⟩
     · have hltz:¬(j:Int) < (k:Int):=by omega
       have hje:j=k:=by omega
       have HFIN:Hid (wr.ownsRow w.heap.size 3 1 vo T (zv ls.flatten)):=by
        show World.ownsRow _ _ _ _ _ _ _
        rw [←HFE.out,←HSE.out,←hje]
        exact HO.out
       clear hje
       go_wp2_with fail
       go_ret
       exact HP.out _ _ HFIN.out HB.out
end Go.Proofs.YtbnganlfelgogaaGreat
namespace Go.Proofs.YtbnganlfelgogaaGreat
open Go.RowKit
theorem own_ne {w:World} {B B':Nat} {e e':TypeId} {z z' n n':Nat} {v v':Value} {xs xs':List Value} (h:w.ownsRow B e z v n xs) (h':w.ownsRow B' e' z' v' n' xs') (hne:e≠e'):v.ownBlock=none∨v.ownBlock≠v'.ownBlock:=by
 rcases h.2 with ⟨rfl,_⟩ | ⟨g,cap,cur,rfl,_,hg,_⟩
 · left;rfl
 · right
   rcases h'.2 with ⟨rfl,_⟩ | ⟨g',cap',cur',rfl,_,hg',_⟩
   · simp [Value.ownBlock]
   · intro he
     have:g=g':=by simpa [Value.ownBlock] using he
     subst this
     rw [hg] at hg'
     injection hg' with hh
     injection hh with _ ht
     exact hne ht
structure PSt (W:World) (B:Nat) (pss:List (List Int)) (vo:Value) (hd:List Value):Prop where
 row:W.ownsRow B 34 1 vo pss.length hd
 len:hd.length=pss.length
 pc:∀ i,i < pss.length→IO W B (gl pss i) (hd.getD i undef)
 sep:∀ i j t,i < j→j < pss.length→(hd.getD i undef).ownBlock=some t→(hd.getD j undef).ownBlock≠some t
theorem gl_app_lt {a b:List (List Int)} {i:Nat} (h:i < a.length):gl (a++b) i=gl a i:=by
 unfold gl;simp [List.getD_eq_getElem?_getD,List.getElem?_append_left h]
theorem gl_app_eq {a:List (List Int)} {x:List Int}:gl (a++[x]) a.length=x:=by
 unfold gl;simp [List.getD_eq_getElem?_getD]
theorem gd_app_lt {a b:List Value} {i:Nat} (h:i < a.length):(a++b).getD i undef=a.getD i undef:=by
 simp [List.getD_eq_getElem?_getD,List.getElem?_append_left h]
theorem gd_app_eq {a:List Value} {x:Value}:(a++[x]).getD a.length undef=x:=by
 simp [List.getD_eq_getElem?_getD]
theorem PSt.nil (W:World) (B:Nat):PSt W B [] (.slice none 0 0) []:=
 ⟨World.ownsRow_nil _ _ _ _,rfl,fun i hi=>absurd hi (Nat.not_lt_zero _),fun i j t _ hj=>absurd hj (Nat.not_lt_zero _)⟩
theorem PSt.below {W W':World} {B:Nat} {pss:List (List Int)} {vo:Value} {hd:List Value} (h:PSt W B pss vo hd) (hb:Below W.heap.size W W'):PSt W' B pss vo hd:=
 ⟨h.row.kept (grown_of_below hb none) (Classical.em _),h.len,fun i hi=>(h.pc i hi).below hb,h.sep⟩
theorem PSt.set_ {W:World} {B:Nat} {pss:List (List Int)} {vo:Value} {hd:List Value} (h:PSt W B pss vo hd) {a:Addr} (ha:a.block < B) (u:Value):PSt (W.setCell a u) B pss vo hd:=
 ⟨ownsRow_setCell_below h.row ha u,h.len,fun i hi=>ownsRow_setCell_below (h.pc i hi) ha u,h.sep⟩
theorem PSt.lv {W:World} {B:Nat} {pss:List (List Int)} {vo:Value} {hd:List Value} (h:PSt W B pss vo hd):LV W pss vo:=
 ⟨fun j=>hd.getD j undef,rv_of_own h.row (by rw [h.len];omega),fun i hi=>(h.pc i hi).iv⟩
theorem PSt.lt {W:World} {B:Nat} {pss:List (List Int)} {vo:Value} {hd:List Value} (h:PSt W B pss vo hd):∀ k,vo.ownBlock=some k→B≤k∧k < W.heap.size:=h.row.lt
theorem PSt.shape {W:World} {B:Nat} {pss:List (List Int)} {vo:Value} {hd:List Value} (h:PSt W B pss vo hd):∃ A c,vo=.slice A pss.length c:=by
 rcases h.row.2 with ⟨rfl,h0⟩ | ⟨g,cap,cur,rfl,_⟩
 · exact ⟨none,0,by rw [h0]⟩
 · exact ⟨_,_,rfl⟩
theorem PSt.push {W W1 W3:World} {B:Nat} {pss:List (List Int)} {vo v v':Value} {hd:List Value} {zs:List Int} {o:Obj} (h:PSt W B pss vo hd) (hB:B≤W.heap.size) (hb1:Below W.heap.size W W1) (hio:IO W1 W.heap.size zs v)
 (hown:W3.ownsRow B 34 1 v' (pss.length+1) (hd++[v])) (hg:(W1.alloc o).grownBy W3 vo.ownBlock):PSt W3 B (pss++[zs]) v' (hd++[v]):=by
 have h1:=(h.below hb1).below (below_new W1 o)
 have hio1:(W1.alloc o).ownsRow B 3 1 v zs.length (zv zs):=(hio.below (below_new W1 o)).mono hB
 refine ⟨by rw [List.length_append];exact hown,by simp [h.len],fun i hi=>?_,fun i j t hij hj ht=>?_⟩
 · by_cases e:i < pss.length
   · rw [gl_app_lt e,gd_app_lt (by rw [h.len];exact e)]
     exact (h1.pc i e).kept hg (own_ne (h1.pc i e) h1.row (by decide))
   · have e':i=pss.length:=by simp at hi;omega
     subst e'
     rw [gl_app_eq,←h.len,gd_app_eq]
     exact hio1.kept hg (own_ne hio1 h1.row (by decide))
 · have hil:i < pss.length:=by simp at hj;omega
   rw [gd_app_lt (by rw [h.len];exact hil)] at ht
   by_cases e:j < pss.length
   · rw [gd_app_lt (by rw [h.len];exact e)]
     exact h.sep i j t hij e ht
   · have e':j=pss.length:=by simp at hj;omega
     subst e'
     rw [←h.len,gd_app_eq]
     intro h2
     have h3:=(h.pc i hil).lt t ht
     have h4:=hio.lt t h2
     omega
theorem PSt.last {W:World} {B:Nat} {pss:List (List Int)} {vo:Value} {hd:List Value} (h:PSt W B pss vo hd) (hn:0 < pss.length) :
 ∃ g c vl,vo=.slice (some ⟨g,0,none⟩) pss.length c∧B≤g∧g < W.heap.size∧W.cell? ⟨g,pss.length-1,none⟩=some vl∧W.frozen? ⟨g,pss.length-1,none⟩=false∧IO W B (gl pss (pss.length-1)) vl∧vl=hd.getD (pss.length-1) undef:=by
 obtain ⟨g,c,rfl,h1,h2⟩:=h.row.form hn
 refine ⟨g,c,hd.getD (pss.length-1) undef,rfl,h1,h2,?_,h.row.frozenAt _,h.pc _ (by omega),rfl⟩
 rw [h.row.cellAt _ (by omega),List.getD_eq_getElem?_getD,List.getElem?_eq_getElem (by rw [h.len];omega)]
 rfl
theorem hyph_gl {h:Int} {l:List (List Int)} (hl:0 < l.length):(hyph h l).length=l.length∧(∀ i,i < l.length-1→gl (hyph h l) i=gl l i)∧gl (hyph h l) (l.length-1)=gl l (l.length-1)++[h]:=by
 obtain ⟨a,x,rfl⟩:∃ a x,l=a++[x]:=⟨l.dropLast,l.getLast (List.ne_nil_of_length_pos hl),(List.dropLast_concat_getLast _).symm⟩
 rw [hyph_snoc]
 refine ⟨by simp,fun i hi=>?_,?_⟩
 · rw [gl_app_lt (by simp at hi;omega),gl_app_lt (by simp at hi;omega)]
 · simp only [List.length_append,List.length_cons,List.length_nil,Nat.add_sub_cancel]
   rw [gl_app_eq,gl_app_eq]
theorem PSt.hyph {W W1 W3:World} {B:Nat} {pss:List (List Int)} {vo v v':Value} {hd:List Value} {h0:Int} {o:Obj} {g c:Nat} (h:PSt W B pss vo hd) (hn:0 < pss.length) (hB:B≤W.heap.size) (hvo:vo=.slice (some ⟨g,0,none⟩) pss.length c) (hv:v=hd.getD (pss.length-1) undef)
 (hb1:Below W.heap.size W W1) (hown:W3.ownsRow B 3 1 v' ((gl pss (pss.length-1)).length+1) (zv (gl pss (pss.length-1))++[.int .i64 h0])) (hg:W1.grownBy W3 v.ownBlock) (hat:v'.ownBlock=v.ownBlock∨v'.ownBlock=some W1.heap.size) :
 PSt (W3.setCell ⟨g,pss.length-1,none⟩ v') B (Go.Proofs.YtbnganlfelgogaaGreat.hyph h0 pss) vo (hd.set (pss.length-1) v'):=by
 have h1:=h.below hb1
 have hz:=hyph_gl (h:=h0) hn
 have hvb:∀ t,v.ownBlock=some t→t < W.heap.size:=fun t ht=>by
  have:=h.pc (pss.length-1) (by omega)
  rw [←hv] at this
  exact (this.lt t ht).2
 have hrow:W3.ownsRow B 34 1 vo pss.length hd:=h1.row.kept hg (by
  have:=own_ne h1.row (h1.pc (pss.length-1) (by omega)) (by decide)
  rwa [←hv] at this)
 have hpc:∀ i,i < pss.length-1→IO W3 B (gl pss i) (hd.getD i undef):=fun i hi=>(h1.pc i (by omega)).kept hg (by
  rcases hq:(hd.getD i undef).ownBlock with _ | t
  · left;rfl
  · right
    intro e
    have h3:=h1.sep i (pss.length-1) t hi (by omega) hq
    rw [←hv] at h3
    exact h3 e.symm)
 have hg1:g < W.heap.size:=by
  have:=(h.row.lt g (by rw [hvo];rfl)).2
  exact this
 have hne3:∀ (u:Value) (l:List Int),IO W3 B l u→IO (W3.setCell ⟨g,pss.length-1,none⟩ v') B l u:=fun u l hu=>by
  have h5:=own_ne hu hrow (by decide)
  refine ⟨hu.1,?_⟩
  rcases hu.2 with hz | ⟨g',cap,cur,rfl,a1,a2,rest⟩
  · exact .inl hz
  · refine .inr ⟨g',cap,cur,rfl,a1,(Below.heap_setCell _ _ _ _ ?_).trans a2,rest⟩
    intro e
    rcases h5 with h5 | h5
    · simp [Value.ownBlock] at h5
    · apply h5;rw [hvo];simpa [Value.ownBlock] using e
 have hnew:IO W3 B (gl (Go.Proofs.YtbnganlfelgogaaGreat.hyph h0 pss) (pss.length-1)) v':=by
  show W3.ownsRow _ _ _ _ _ _
  rw [hz.2.2,List.length_append,zv_app]
  exact hown
 refine ⟨?_,by rw [List.length_set,h.len,hz.1],fun i hi=>?_,fun i j t hij hj ht=>?_⟩
 · rw [hz.1]
   subst hvo
   have hone:v'.oneCell'=true:=by
    rcases hown.2 with ⟨rfl,_⟩ | ⟨_,_,_,rfl,_⟩ <;> rfl
   exact (hrow.stored _ v').1
 · rw [hz.1] at hi
   by_cases e:i=pss.length-1
   · subst e
     rw [List.getD_eq_getElem?_getD,List.getElem?_set_self (by rw [h.len];omega)]
     exact hne3 _ _ hnew
   · rw [hz.2.1 i (by omega),List.getD_eq_getElem?_getD,List.getElem?_set_ne (fun h=>e h.symm),←List.getD_eq_getElem?_getD]
     exact hne3 _ _ (hpc i (by omega))
 · rw [hz.1] at hj
   rw [List.getD_eq_getElem?_getD,List.getElem?_set_ne (by omega),←List.getD_eq_getElem?_getD] at ht
   by_cases e:j=pss.length-1
   · subst e
     rw [List.getD_eq_getElem?_getD,List.getElem?_set_self (by rw [h.len];omega)]
     show v'.ownBlock≠_
     intro h2
     have h3:=(h.pc i (by omega)).lt t ht
     rcases hat with h4 | h4
     · have h5:=h.sep i (pss.length-1) t hij (by omega) ht
       rw [←hv] at h5
       exact h5 (h4 ▸ h2)
     · rw [h2] at h4
       have:=hb1.size
       injection h4 with h4
       omega
   · rw [List.getD_eq_getElem?_getD (l:=hd.set _ _),List.getElem?_set_ne (fun h=>e h.symm),←List.getD_eq_getElem?_getD]
     exact h.sep i j t hij (by omega) ht
end Go.Proofs.YtbnganlfelgogaaGreat
