/- Openers: numbers, sorts that came in. -/
import Derived.Test.YtbnganlfelgogaaGreatRows
import Derived.Test.YtbnganlfelgogaaGreatVLwd
import Derived.ProofKit
import Derived.ChangeOld
import Derived.Carry
import Derived.Deep.Slices
import Derived.Lib.SmallJoins
import Derived.Test.YtbnganlfelgogaaGreatChecked
import Derived.JoinedOf
import Derived.OpenShut
set_option linter.unusedSimpArgs false
set_option linter.unusedVariables false
set_option maxRecDepth 100000
set_option maxHeartbeats 40000000
namespace Go.Proofs.YtbnganlfelgogaaGreat
open Go.ChangeShapes Go.WideShapes Go.ChangeAt Go.RowKit Go.Deep Go.Joins
theorem Tryz.own:ownKnob Tryz.prog.godebug=none:=by kernel_rfl
theorem Tryz.laidOut:laidOutB Tryz.prog=true:=by kernel_rfl
section
variable {H:Type} {enc:TypeId × Value→H}
theorem trodAll_below {P:Program} (hl:laidOutB P=true) {W W':World} (hb:Below W.heap.size W W'):∀ {ts:List TypeId} {vs:List Value} {ds:List (DataW H)} {ps:List MemPlace},
 (ts.all fun t=>P.readableRec t && decide (t < P.types.size))=true→(∀ x ∈ ps,x.block < W.heap.size)→DataW.TrodAll enc P W 0 (fun _=>true) true ts vs ds ps→DataW.TrodAll enc P W' 0 (fun b=>decide (b < W.heap.size)) true ts vs ds ps
 | [],[],[],_,_,_,h=>h
 | [],_ :: _,_,_,_,_,h=>h.elim
 | [],[],_ :: _,_,_,_,h=>h.elim
 | _ :: _,[],_,_,_,_,h=>h.elim
 | _ :: _,_ :: _,[],_,_,_,h=>h.elim
 | t :: ts,v :: vs,d :: ds,ps,hr,hlt,h=>by
  obtain ⟨p,q,h1,h2,rfl⟩:=h
  simp only [List.all_cons,Bool.and_eq_true,decide_eq_true_eq] at hr
  exact ⟨p,q,Below.trod hl hr.1.1 hr.1.2 h1 hb (fun x hx=>hlt x (by simp [hx])),trodAll_below hl hb (by simpa using hr.2) (fun x hx=>hlt x (by simp [hx])) h2,rfl⟩
theorem law_post {P:Program} {f:Func} {s:ChangeSpec} {W W':World} {args:Array Value} {ds gs:List (DataW H)} {before:List MemPlace} (hl:laidOutB P=true) (hvars:s.vars=[]) (hrt:f.resultTypes=#[4]) (hu:P.underlying 4=some .bool)
 (hts:(f.params.toList.all fun t=>P.readableRec t && decide (t < P.types.size))=true) (hfn:s.fn H (ds++gs)={ results:=[.lit (.bool true)],args:=ds })
 (hW:DataW.Whole enc P f.params.toList s.vars false W args.toList ds gs before) (hb:Below W.heap.size W W'):s.post enc P f false true false false W args (.bool true) W':=by
 have hlt:∀ p ∈ before,p.block < W.heap.size:=fun p hp=>hW.lt p hp
 have hW2:=hW
 obtain ⟨p,q,hA,hV,rfl,hz,hn⟩:=hW
 rw [hvars] at hV
 obtain ⟨rfl,rfl⟩:=trodVars_none hV
 refine ⟨ds,[],p++[],[],p,[],hW2,?_,?_,?_,World.keptBut_mono (fun x hx=>⟨hx,Or.inr (Or.inl (by simpa using hx))⟩) (hb.frame (· ∈ p++[])),fun h=>by cases h⟩
 · rw [hrt,hfn]
   exact trodAll_mk1 ⟨1,by simp [DataW.trod,Value.cells,hu]⟩
 · rw [hfn]
   exact trodAll_below hl hb hts (fun x hx=>hlt x (by simpa using hx)) hA
 · rw [hvars,hfn]
   rfl
theorem cells_lt {w:World} {base:Nat} {a:Addr} {n:Nat} {cs:List Value} (h:w.cells? base a n=some cs) (hn:0 < n):∃ b off,a=⟨b,off,none⟩∧b < w.heap.size:=by
 obtain ⟨_,hl,hc⟩:=World.cells?_some h
 have h0:=hc 0 hn
 rw [List.getElem?_eq_getElem (by omega)] at h0
 have hs:=World.cell?_spot h0
 obtain ⟨b,off,sp⟩:=a
 exact ⟨b,off,by simp [Addr.add] at hs;rw [hs],World.cells?_block h hn⟩
theorem list_of {α:Type} [Inhabited α] (n:Nat) {P:Nat→α→Prop} (h:∀ i,i < n→∃ x,P i x):∃ l:List α,l.length=n∧∀ i,i < n→P i (l.getD i default):=by
 induction n with
 | zero=>exact ⟨[],rfl,fun i hi=>absurd hi (Nat.not_lt_zero _)⟩
 | succ n ih=>
  obtain ⟨l,hl,hp⟩:=ih fun i hi=>h i (by omega)
  obtain ⟨x,hx⟩:=h n (by omega)
  refine ⟨l++[x],by simp [hl],fun i hi=>?_⟩
  rcases Nat.lt_or_ge i n with hlt | hge
  · have:=hp i hlt
    rw [List.getD_eq_getElem?_getD] at this ⊢
    rwa [List.getElem?_append_left (by omega)]
  · have e:i=n:=by omega
    subst e
    rw [List.getD_eq_getElem?_getD,List.getElem?_append_right (by omega),hl]
    simpa using hx
theorem open_zs' {W:World} {v:Value} {n:Nat} {x:DataW H × List MemPlace} (hf:DataW.trod enc Tryz.prog W 0 (fun _=>true) true n 34 [v]=some x):∃ zs,IV W zs v:=by
 rcases open_ints (k:=.i64) Tryz.underlying34 Tryz.underlying3 (by kernel_rfl) hf with ⟨hv,_⟩ | ⟨a,len1,cap1,zs,hv,_,hl,hm,hlen,_,hc,_⟩
 · simp at hv
   subst hv
   exact ⟨[],IV.nil W⟩
 · simp at hv
   subst hv
   have hlen':zs.length=cap1:=by simpa using hlen
   have e:(zs.take len1).length=len1:=by rw [List.length_take];omega
   by_cases h0:len1=0
   · subst h0
     exact ⟨[],IV.mk (A:=some a) (b:=0) (off:=0) (c:=cap1) (fun h=>absurd h (Nat.lt_irrefl _)) (fun j hj=>absurd hj (Nat.not_lt_zero _)) (Nat.zero_le _) hm⟩
   · have hs:=World.cell?_spot (hc 0 (by omega))
     obtain ⟨b,off,sp⟩:=a
     simp [Addr.add] at hs
     subst hs
     refine ⟨zs.take len1,?_⟩
     have k:=IV.mk (W:=W) (zs:=zs.take len1) (A:=some ⟨b,off,none⟩) (b:=b) (off:=off) (c:=cap1) (fun _=>⟨rfl,?_⟩) (fun j hj=>?_) (by rw [e];exact hl) hm
     · rwa [e] at k
     · have hx:=hc 0 (by omega)
       have hy:(⟨b,off,none⟩:Addr).add 0=⟨b,off,none⟩:=rfl
       rw [hy] at hx
       exact block_lt_of_cell hx
     · have hx:=hc j (by omega)
       have hy:(⟨b,off,none⟩:Addr).add j=⟨b,off+j,none⟩:=by unfold Addr.add;split <;> simp_all
       rw [hy] at hx
       have hg:gz (zs.take len1) j=zs.getD j 0:=by
        rw [gz,List.getD_eq_getElem?_getD,List.getD_eq_getElem?_getD,List.getElem?_take,if_pos (by omega)]
       rw [hx,hg]
theorem add_mul (b off i n j:Nat):((⟨b,off,none⟩:Addr).add (i*n)).add j=⟨b,off+i*n+j,none⟩:=by
 unfold Addr.add;split <;> split <;> simp_all
theorem open_sorts {W:World} {v:Value} {n:Nat} {x:DataW H × List MemPlace} (hf:DataW.trod enc Tryz.prog W 0 (fun _=>true) true n 22 [v]=some x):∃ l,SoV W l v:=by
 rcases open_slice Tryz.underlying22 hf with ⟨hv,_⟩ | ⟨a,len,cap,m,n,D,Pl,hv,_,hl,hm,hmm,_,hi⟩
 · simp at hv
   subst hv
   exact ⟨[],none,0,0,0,rfl,fun h=>absurd h (Nat.lt_irrefl _),fun j hj=>absurd hj (Nat.not_lt_zero _),Nat.le_refl _,Nat.zero_le _,fun j hj=>absurd hj (Nat.not_lt_zero _)⟩
 · simp at hv
   subst hv
   have hmc:m=cap:=by simpa using hmm
   have hC:Tryz.prog.cellsOf 145=4:=by kernel_rfl
   rw [hC] at hi
   by_cases h0:len=0
   · subst h0
     exact ⟨[],some a,0,0,cap,rfl,fun h=>absurd h (Nat.lt_irrefl _),fun j hj=>absurd hj (Nat.not_lt_zero _),Nat.zero_le _,hm,fun j hj=>absurd hj (Nat.not_lt_zero _)⟩
   · obtain ⟨cs0,hc0,_⟩:=hi 0 (by omega)
     obtain ⟨b,off,he,hlt⟩:=cells_lt hc0 (by omega)
     have he':a=⟨b,off,none⟩:=by
      obtain ⟨b',off',sp'⟩:=a
      simpa [Addr.add] using he
     subst he'
     have hel:∀ i,i < len→∃ p:TSort,SAt W b (off+i*4) p∧p.name.size≤9223372036854775807∧p.text.size≤9223372036854775807:=fun i hi'=>by
      obtain ⟨cs,hc,ht⟩:=hi i (by omega)
      obtain ⟨ys,n',_,_,hlen,hyl,hf'⟩:=DataW.trod_struct Tryz.underlying145 ht
      obtain ⟨_,hcl,hat⟩:=World.cells?_some hc
      have f0:=hf' 0 _ rfl
      have f1:=hf' 1 _ rfl
      have f2:=hf' 2 _ rfl
      have f3:=hf' 3 _ rfl
      have c3:Tryz.prog.cellsOf 3=1:=by kernel_rfl
      have c9:Tryz.prog.cellsOf 9=1:=by kernel_rfl
      rw [List.getElem?_eq_getElem (by rw [hyl];decide)] at f0 f1 f2 f3
      obtain ⟨x0,hx0,_,z0⟩:=DataW.trod_string Tryz.underlying9 f0
      obtain ⟨x1,hx1,_,z1⟩:=DataW.trod_string Tryz.underlying9 f1
      obtain ⟨x2,hx2,_,_⟩:=DataW.trod_int Tryz.underlying3 f2
      obtain ⟨x3,hx3,_,_⟩:=DataW.trod_int Tryz.underlying3 f3
      have g:=fun j (hj:j < 4)=>hat j hj
      simp only [add_mul] at g
      have k0:cs[0]?=some (.string x0):=by
       have:=congrArg (fun l:List Value=>l[0]?) hx0
       simpa [List.getElem?_take,List.getElem?_drop,c9] using this
      have k1:cs[1]?=some (.string x1):=by
       have:=congrArg (fun l:List Value=>l[0]?) hx1
       simpa [List.getElem?_take,List.getElem?_drop,c9] using this
      have k2:cs[2]?=some (.int .i64 x2):=by
       have:=congrArg (fun l:List Value=>l[0]?) hx2
       simpa [List.getElem?_take,List.getElem?_drop,c3] using this
      have k3:cs[3]?=some (.int .i64 x3):=by
       have:=congrArg (fun l:List Value=>l[0]?) hx3
       simpa [List.getElem?_take,List.getElem?_drop,c3] using this
      exact ⟨⟨x0,x1,x2,x3⟩,⟨by simpa using (g 0 (by omega)).trans k0,(g 1 (by omega)).trans k1,(g 2 (by omega)).trans k2,(g 3 (by omega)).trans k3⟩,z0,z1⟩
     obtain ⟨l,e,hall⟩:=list_of len hel
     refine ⟨l,some ⟨b,off,none⟩,b,off,cap,by rw [e],fun _=>⟨rfl,hlt⟩,fun j hj=>(hall j (by omega)).1,by rw [e];exact hl,hm,fun j hj=>(hall j (by omega)).2⟩
theorem trod_field {W:World} {n i:Nat} {t:TypeId} {l:List Value} {x:Value} {y:DataW H × List MemPlace} (hc:Tryz.prog.cellsOf t=1) (hl:l[i]?=some x)
 (h:DataW.trod enc Tryz.prog W 0 (fun _=>true) true n t ((l.drop i).take (Tryz.prog.cellsOf t))=some y):DataW.trod enc Tryz.prog W 0 (fun _=>true) true n t [x]=some y:=by
 rw [hc] at h
 obtain ⟨hi,hx⟩:=List.getElem?_eq_some_iff.1 hl
 rw [List.drop_eq_getElem_cons hi,hx] at h
 exact h
end
end Go.Proofs.YtbnganlfelgogaaGreat
namespace Go.Proofs.YtbnganlfelgogaaGreat
open Go.ChangeShapes Go.WideShapes Go.ChangeAt Go.RowKit Go.Deep Go.Joins
section
variable {H:Type} {enc:TypeId × Value→H}
theorem open_words {W:World} {v:Value} {n:Nat} {x:DataW H × List MemPlace} (hf:DataW.trod enc Tryz.prog W 0 (fun _=>true) true n 27 [v]=some x):∃ ws,WoV W ws v:=by
 rcases open_slice Tryz.underlying27 hf with ⟨hv,_⟩ | ⟨a,len,cap,m,n,D,Pl,hv,_,hl,hm,hmm,_,hi⟩
 · simp at hv
   subst hv
   exact ⟨[],none,0,0,0,rfl,fun h=>absurd h (Nat.lt_irrefl _),fun j hj=>absurd hj (Nat.not_lt_zero _),Nat.le_refl _,Nat.zero_le _⟩
 · simp at hv
   subst hv
   have hmc:m=cap:=by simpa using hmm
   have hC:Tryz.prog.cellsOf 40=2:=by kernel_rfl
   rw [hC] at hi
   by_cases h0:len=0
   · subst h0
     exact ⟨[],some a,0,0,cap,rfl,fun h=>absurd h (Nat.lt_irrefl _),fun j hj=>absurd hj (Nat.not_lt_zero _),Nat.zero_le _,hm⟩
   · obtain ⟨cs0,hc0,_⟩:=hi 0 (by omega)
     obtain ⟨b,off,he,hlt⟩:=cells_lt hc0 (by omega)
     have he':a=⟨b,off,none⟩:=by
      obtain ⟨b',off',sp'⟩:=a
      simpa [Addr.add] using he
     subst he'
     have hel:∀ i,i < len→∃ p:PWord,∃ v1 v2,W.cell? ⟨b,off+i*2,none⟩=some v1∧W.cell? ⟨b,off+i*2+1,none⟩=some v2∧IV W p.sorts v1∧IV W p.breaks v2:=fun i hi'=>by
      obtain ⟨cs,hc,ht⟩:=hi i (by omega)
      obtain ⟨ys,n',_,_,hlen,hyl,hf'⟩:=DataW.trod_struct Tryz.underlying40 ht
      obtain ⟨_,hcl,hat⟩:=World.cells?_some hc
      have f0:=hf' 0 _ rfl
      have f1:=hf' 1 _ rfl
      have c30:Tryz.prog.cellsOf 34=1:=by kernel_rfl
      rw [List.getElem?_eq_getElem (by rw [hyl];decide)] at f0 f1
      have g:=fun j (hj:j < 2)=>hat j hj
      simp only [add_mul] at g
      have hcn:cs.length=2:=hcl
      obtain ⟨u0,u1,rfl⟩:∃ u0 u1,cs=[u0,u1]:=by
       match cs,hcn with
       | [u0,u1],_=>exact ⟨u0,u1,rfl⟩
      have e0:(([u0,u1]:List Value).drop 0).take (Tryz.prog.cellsOf 34)=[u0]:=by rw [c30];rfl
      have e1:(([u0,u1]:List Value).drop 1).take (Tryz.prog.cellsOf 34)=[u1]:=by rw [c30];rfl
      obtain ⟨z0,i0⟩:=open_zs' (e0 ▸ f0)
      obtain ⟨z1,i1⟩:=open_zs' (e1 ▸ f1)
      exact ⟨⟨z0,z1⟩,u0,u1,by simpa using g 0 (by omega),by simpa using g 1 (by omega),i0,i1⟩
     obtain ⟨l,e,hall⟩:=list_of len hel
     exact ⟨l,some ⟨b,off,none⟩,b,off,cap,by rw [e],fun _=>⟨rfl,hlt⟩,fun j hj=>hall j (by omega),by rw [e];exact hl,hm⟩
theorem array12 {α:Type} {cs:Array α} (h:cs.size=12):∃ a b c d e f g i j k l m,cs=#[a,b,c,d,e,f,g,i,j,k,l,m]:=by
 obtain ⟨x⟩:=cs
 match x,h with
 | [a,b,c,d,e,f,g,i,j,k,l,m],_=>exact ⟨a,b,c,d,e,f,g,i,j,k,l,m,rfl⟩
theorem open_text {W:World} {v:Value} {d:DataW H} {ps:List MemPlace} (hval:Value.okWide Tryz.prog W .any 0 29 v) (h:DataW.Trod enc Tryz.prog W 0 (fun _=>true) true 29 v d ps) :
 ∃ (f:Fnt) (vs:Value) (r:Rls) (ws:List PWord) (vw:Value),v=.agg (xcs f vs r vw)∧SoV W f.sorts vs∧f.name.size≤9223372036854775807∧WoV W ws vw:=by
 have hC:Tryz.prog.cellsOf 29=12:=by kernel_rfl
 have c24:Tryz.prog.cellsOf 24=3:=by kernel_rfl
 have c26:Tryz.prog.cellsOf 26=8:=by kernel_rfl
 have c27:Tryz.prog.cellsOf 27=1:=by kernel_rfl
 have c22:Tryz.prog.cellsOf 22=1:=by kernel_rfl
 have c9:Tryz.prog.cellsOf 9=1:=by kernel_rfl
 have c3:Tryz.prog.cellsOf 3=1:=by kernel_rfl
 obtain ⟨cs,rfl,hsz⟩:=okWide_struct Tryz.underlying29 hval
 obtain ⟨u0,u1,u2,u3,u4,u5,u6,u7,u8,u9,u10,u11,rfl⟩:=array12 (hsz.trans hC)
 obtain ⟨fuel,hf⟩:=h
 obtain ⟨ys,n',_,_,_,hyl,hf'⟩:=DataW.trod_struct Tryz.underlying29 hf
 have f0:=hf' 0 _ rfl
 have f1:=hf' 1 _ rfl
 have f2:=hf' 2 _ rfl
 rw [List.getElem?_eq_getElem (by rw [hyl];decide)] at f0 f1 f2
 clear hf hf' hval hsz hC
 have e0:(((Value.agg #[u0,u1,u2,u3,u4,u5,u6,u7,u8,u9,u10,u11]).cells.toList).drop 0).take (Tryz.prog.cellsOf 24)=[u0,u1,u2]:=by rw [c24];rfl
 have e1:(((Value.agg #[u0,u1,u2,u3,u4,u5,u6,u7,u8,u9,u10,u11]).cells.toList).drop 3).take (Tryz.prog.cellsOf 26)=[u3,u4,u5,u6,u7,u8,u9,u10]:=by rw [c26];rfl
 obtain ⟨k0,g0⟩:∃ y,DataW.trod enc Tryz.prog W 0 (fun _=>true) true n' 24 [u0,u1,u2]=some y:=⟨_,by rw [←e0];exact f0⟩
 obtain ⟨k1,g1⟩:∃ y,DataW.trod enc Tryz.prog W 0 (fun _=>true) true n' 26 [u3,u4,u5,u6,u7,u8,u9,u10]=some y:=⟨_,by rw [←e1];exact f1⟩
 have g2:=trod_field (l:=(Value.agg #[u0,u1,u2,u3,u4,u5,u6,u7,u8,u9,u10,u11]).cells.toList) (i:=11) (t:=27) (x:=u11) c27 rfl f2
 clear e0 e1 f0 f1 f2
 obtain ⟨zs,m0,_,_,_,hzl,hz⟩:=DataW.trod_struct Tryz.underlying24 g0
 obtain ⟨qs,m1,_,_,_,hql,hq⟩:=DataW.trod_struct Tryz.underlying26 g1
 obtain ⟨ws,hw⟩:=open_words g2
 have z0:=hz 0 _ rfl
 have z1:=hz 1 _ rfl
 have z2:=hz 2 _ rfl
 rw [List.getElem?_eq_getElem (by rw [hzl];decide)] at z0 z1 z2
 have q0:=hq 0 _ rfl
 have q1:=hq 1 _ rfl
 have q2:=hq 2 _ rfl
 have q3:=hq 3 _ rfl
 have q4:=hq 4 _ rfl
 have q5:=hq 5 _ rfl
 have q6:=hq 6 _ rfl
 have q7:=hq 7 _ rfl
 rw [List.getElem?_eq_getElem (by rw [hql];decide)] at q0 q1 q2 q3 q4 q5 q6 q7
 clear hz hq
 obtain ⟨x0,hx0,_,n0⟩:=DataW.trod_string Tryz.underlying9 (trod_field (l:=[u0,u1,u2]) (i:=0) (t:=9) c9 rfl z0)
 obtain ⟨x1,hx1,_,_⟩:=DataW.trod_int Tryz.underlying3 (trod_field (l:=[u0,u1,u2]) (i:=1) (t:=3) c3 rfl z1)
 obtain ⟨l,hl⟩:=open_sorts (trod_field (l:=[u0,u1,u2]) (i:=2) (t:=22) c22 rfl z2)
 obtain ⟨y0,hy0,_,_⟩:=DataW.trod_int Tryz.underlying3 (trod_field (l:=[u3,u4,u5,u6,u7,u8,u9,u10]) (i:=0) (t:=3) c3 rfl q0)
 obtain ⟨y1,hy1,_,_⟩:=DataW.trod_int Tryz.underlying3 (trod_field (l:=[u3,u4,u5,u6,u7,u8,u9,u10]) (i:=1) (t:=3) c3 rfl q1)
 obtain ⟨y2,hy2,_,_⟩:=DataW.trod_int Tryz.underlying3 (trod_field (l:=[u3,u4,u5,u6,u7,u8,u9,u10]) (i:=2) (t:=3) c3 rfl q2)
 obtain ⟨y3,hy3,_,_⟩:=DataW.trod_int Tryz.underlying3 (trod_field (l:=[u3,u4,u5,u6,u7,u8,u9,u10]) (i:=3) (t:=3) c3 rfl q3)
 obtain ⟨y4,hy4,_,_⟩:=DataW.trod_int Tryz.underlying3 (trod_field (l:=[u3,u4,u5,u6,u7,u8,u9,u10]) (i:=4) (t:=3) c3 rfl q4)
 obtain ⟨y5,hy5,_,_⟩:=DataW.trod_int Tryz.underlying3 (trod_field (l:=[u3,u4,u5,u6,u7,u8,u9,u10]) (i:=5) (t:=3) c3 rfl q5)
 obtain ⟨y6,hy6,_,_⟩:=DataW.trod_int Tryz.underlying3 (trod_field (l:=[u3,u4,u5,u6,u7,u8,u9,u10]) (i:=6) (t:=3) c3 rfl q6)
 obtain ⟨y7,hy7,_,_⟩:=DataW.trod_int Tryz.underlying3 (trod_field (l:=[u3,u4,u5,u6,u7,u8,u9,u10]) (i:=7) (t:=3) c3 rfl q7)
 simp only [List.cons.injEq,and_true] at hx0 hx1 hy0 hy1 hy2 hy3 hy4 hy5 hy6 hy7
 subst hx0 hx1 hy0 hy1 hy2 hy3 hy4 hy5 hy6 hy7
 exact ⟨⟨x0,x1,l⟩,u2,⟨y0,y1,y2,y3,y4,y5,y6,y7⟩,ws,u11,rfl,hl,n0,hw⟩
end
end Go.Proofs.YtbnganlfelgogaaGreat
namespace Go.Proofs.YtbnganlfelgogaaGreat
open Go.ChangeShapes Go.WideShapes Go.ChangeAt Go.RowKit Go.Deep Go.Joins
theorem band {a b:Bool} (h1:a=true) (h2:b=true):(a && b)=true:=by rw [h1,h2];rfl
theorem jf_laid:laidOutB Tryz.pinned.checked.prog=true:=by kernel_rfl
theorem jf_maps:mapsRowed Tryz.pinned.checked.prog=true:=by kernel_rfl
theorem jf_heard:Tryz.pinned.checked.prog.stopsHeard=true:=by kernel_rfl
theorem jf_enter:Tryz.pinned.checked.prog.mayEnter=true:=by kernel_rfl
section
variable {H:Type} {enc:TypeId × Value→H}
theorem open_l {W:World} {v:Value} {d:DataW H} {ps:List MemPlace} (hval:Value.okWide Tryz.prog W .any 0 34 v) (h:DataW.Trod enc Tryz.prog W 0 (fun _=>true) true 34 v d ps):∃ zs,IV W zs v:=by
 obtain ⟨A0,len,cap,rfl⟩:=okWide_slice Tryz.underlying34 hval
 obtain ⟨fuel,hf⟩:=h
 simp only [Value.cells] at hf
 exact open_zs' hf
theorem open_wordsV {W:World} {v:Value} {d:DataW H} {ps:List MemPlace} (hval:Value.okWide Tryz.prog W .any 0 27 v) (h:DataW.Trod enc Tryz.prog W 0 (fun _=>true) true 27 v d ps):∃ ws,WoV W ws v:=by
 obtain ⟨A0,len,cap,rfl⟩:=okWide_slice Tryz.underlying27 hval
 obtain ⟨fuel,hf⟩:=h
 simp only [Value.cells] at hf
 exact open_words hf
theorem open_fount {W:World} {v:Value} {d:DataW H} {ps:List MemPlace} (hval:Value.okWide Tryz.prog W .any 0 24 v) (h:DataW.Trod enc Tryz.prog W 0 (fun _=>true) true 24 v d ps) :
 ∃ (f:Fnt) (vs:Value),v=.agg (fcs f vs)∧SoV W f.sorts vs∧f.name.size≤9223372036854775807:=by
 have hC:Tryz.prog.cellsOf 24=3:=by kernel_rfl
 have c22:Tryz.prog.cellsOf 22=1:=by kernel_rfl
 have c9:Tryz.prog.cellsOf 9=1:=by kernel_rfl
 have c3:Tryz.prog.cellsOf 3=1:=by kernel_rfl
 obtain ⟨cs,rfl,hsz⟩:=okWide_struct Tryz.underlying24 hval
 obtain ⟨u0,u1,u2,rfl⟩:∃ a b c,cs=#[a,b,c]:=by
  obtain ⟨x⟩:=cs
  match x,hsz.trans hC with
  | [a,b,c],_=>exact ⟨a,b,c,rfl⟩
 obtain ⟨fuel,hf⟩:=h
 obtain ⟨zs,m0,_,_,_,hzl,hz⟩:=DataW.trod_struct Tryz.underlying24 hf
 have z0:=hz 0 _ rfl
 have z1:=hz 1 _ rfl
 have z2:=hz 2 _ rfl
 rw [List.getElem?_eq_getElem (by rw [hzl];decide)] at z0 z1 z2
 clear hz
 obtain ⟨x0,hx0,_,n0⟩:=DataW.trod_string Tryz.underlying9 (trod_field (l:=[u0,u1,u2]) (i:=0) (t:=9) c9 rfl z0)
 obtain ⟨x1,hx1,_,_⟩:=DataW.trod_int Tryz.underlying3 (trod_field (l:=[u0,u1,u2]) (i:=1) (t:=3) c3 rfl z1)
 obtain ⟨l,hl⟩:=open_sorts (trod_field (l:=[u0,u1,u2]) (i:=2) (t:=22) c22 rfl z2)
 simp only [List.cons.injEq,and_true] at hx0 hx1
 subst hx0 hx1
 exact ⟨⟨x0,x1,l⟩,u2,rfl,hl,n0⟩
theorem open_rules {W:World} {v:Value} {d:DataW H} {ps:List MemPlace} (hval:Value.okWide Tryz.prog W .any 0 26 v) (h:DataW.Trod enc Tryz.prog W 0 (fun _=>true) true 26 v d ps):∃ r:Rls,v=.agg (rcs r):=by
 have hC:Tryz.prog.cellsOf 26=8:=by kernel_rfl
 have c3:Tryz.prog.cellsOf 3=1:=by kernel_rfl
 obtain ⟨cs,rfl,hsz⟩:=okWide_struct Tryz.underlying26 hval
 obtain ⟨u3,u4,u5,u6,u7,u8,u9,u10,rfl⟩:∃ a b c d e f g h,cs=#[a,b,c,d,e,f,g,h]:=by
  obtain ⟨x⟩:=cs
  match x,hsz.trans hC with
  | [a,b,c,d,e,f,g,h],_=>exact ⟨a,b,c,d,e,f,g,h,rfl⟩
 obtain ⟨fuel,hf⟩:=h
 obtain ⟨qs,m1,_,_,_,hql,hq⟩:=DataW.trod_struct Tryz.underlying26 hf
 have q0:=hq 0 _ rfl
 have q1:=hq 1 _ rfl
 have q2:=hq 2 _ rfl
 have q3:=hq 3 _ rfl
 have q4:=hq 4 _ rfl
 have q5:=hq 5 _ rfl
 have q6:=hq 6 _ rfl
 have q7:=hq 7 _ rfl
 rw [List.getElem?_eq_getElem (by rw [hql];decide)] at q0 q1 q2 q3 q4 q5 q6 q7
 clear hq
 obtain ⟨y0,hy0,_,_⟩:=DataW.trod_int Tryz.underlying3 (trod_field (l:=[u3,u4,u5,u6,u7,u8,u9,u10]) (i:=0) (t:=3) c3 rfl q0)
 obtain ⟨y1,hy1,_,_⟩:=DataW.trod_int Tryz.underlying3 (trod_field (l:=[u3,u4,u5,u6,u7,u8,u9,u10]) (i:=1) (t:=3) c3 rfl q1)
 obtain ⟨y2,hy2,_,_⟩:=DataW.trod_int Tryz.underlying3 (trod_field (l:=[u3,u4,u5,u6,u7,u8,u9,u10]) (i:=2) (t:=3) c3 rfl q2)
 obtain ⟨y3,hy3,_,_⟩:=DataW.trod_int Tryz.underlying3 (trod_field (l:=[u3,u4,u5,u6,u7,u8,u9,u10]) (i:=3) (t:=3) c3 rfl q3)
 obtain ⟨y4,hy4,_,_⟩:=DataW.trod_int Tryz.underlying3 (trod_field (l:=[u3,u4,u5,u6,u7,u8,u9,u10]) (i:=4) (t:=3) c3 rfl q4)
 obtain ⟨y5,hy5,_,_⟩:=DataW.trod_int Tryz.underlying3 (trod_field (l:=[u3,u4,u5,u6,u7,u8,u9,u10]) (i:=5) (t:=3) c3 rfl q5)
 obtain ⟨y6,hy6,_,_⟩:=DataW.trod_int Tryz.underlying3 (trod_field (l:=[u3,u4,u5,u6,u7,u8,u9,u10]) (i:=6) (t:=3) c3 rfl q6)
 obtain ⟨y7,hy7,_,_⟩:=DataW.trod_int Tryz.underlying3 (trod_field (l:=[u3,u4,u5,u6,u7,u8,u9,u10]) (i:=7) (t:=3) c3 rfl q7)
 simp only [List.cons.injEq,and_true] at hy0 hy1 hy2 hy3 hy4 hy5 hy6 hy7
 subst hy0 hy1 hy2 hy3 hy4 hy5 hy6 hy7
 exact ⟨⟨y0,y1,y2,y3,y4,y5,y6,y7⟩,rfl⟩
theorem open_two {W:World} {v:Value} {d:DataW H} {ps:List MemPlace} (hval:Value.okWide Tryz.prog W .any 0 70 v) (h:DataW.Trod enc Tryz.prog W 0 (fun _=>true) true 70 v d ps):∃ a b:Int,v=.agg #[.int .i64 a,.int .i64 b]:=by
 have hC:Tryz.prog.cellsOf 70=2:=by kernel_rfl
 have c3:Tryz.prog.cellsOf 3=1:=by kernel_rfl
 obtain ⟨cs,rfl,hsz⟩:∃ cs,v=.agg cs∧cs.size=Tryz.prog.cellsOf 70:=by
  simp only [Value.okWide,Tryz.underlying70] at hval
  obtain ⟨cs,h1,h2,_⟩:=hval
  exact ⟨cs,h1,h2⟩
 obtain ⟨u0,u1,rfl⟩:∃ a b,cs=#[a,b]:=by
  obtain ⟨x⟩:=cs
  match x,hsz.trans hC with
  | [a,b],_=>exact ⟨a,b,rfl⟩
 obtain ⟨fuel,hf⟩:=h
 obtain ⟨xs,m,_,_,_,hxl,hx⟩:=DataW.trod_array Tryz.underlying70 hf
 have f0:=hx 0 (by omega)
 have f1:=hx 1 (by omega)
 rw [List.getElem?_eq_getElem (by rw [hxl];decide),c3] at f0 f1
 obtain ⟨a,ha,_,_⟩:=DataW.trod_int Tryz.underlying3 f0
 obtain ⟨b,hb,_,_⟩:=DataW.trod_int Tryz.underlying3 f1
 have h0:[u0]=[Value.int .i64 a]:=ha
 have h1:[u1]=[Value.int .i64 b]:=hb
 injection h0 with h0
 injection h1 with h1
 subst h0 h1
 exact ⟨a,b,rfl⟩
end
end Go.Proofs.YtbnganlfelgogaaGreat
