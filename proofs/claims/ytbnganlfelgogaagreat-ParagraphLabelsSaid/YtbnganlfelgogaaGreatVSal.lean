/- Plain: lines set one after the other; set lines while they are gathered. -/
import Derived.Test.YtbnganlfelgogaaGreatVStl
import Derived.Test.YtbnganlfelgogaaGreatVRpl
import Derived.Test.YtbnganlfelgogaaGreatVLns
import Derived.Test.YtbnganlfelgogaaGreatVBrl
set_option linter.unusedSimpArgs false
set_option linter.unusedVariables false
set_option maxRecDepth 100000
set_option maxHeartbeats 40000000
namespace Go.Proofs.YtbnganlfelgogaaGreat
open Go.RowKit
theorem inF_app {f:Fnt} {a b:List Int} (ha:InF f a) (hb:InF f b):InF f (a++b):=by
 rw [inF_iff] at ha hb ⊢
 intro x hx
 rcases List.mem_append.1 hx with h | h
 · exact ha x h
 · exact hb x h
theorem just_il {t:Tsk} {lf:List Int} {r:List Nat} (h:opnE t=0) (hlf:takR t.cs (ownL t)=some lf) (hr:chzT t lf=some r):(justL t r).length≤300∧InF t.f (justL t r):=by
 obtain ⟨ok,⟨lf',e',hlfok⟩,hf0,hf1⟩:=opnE_ok h
 rw [hlf] at e'
 injection e' with e'
 subst e'
 have hch:ChzOk t.f lf (fillT t).toNat (t.words.length-1) (t.words.length-1+2*(t.words.length-1)) (cntT t r):=chz_ok ok.f hlfok hr
 obtain ⟨own1,own2⟩:=own_in ok
 have hG:t.words.length-1≤29:=by have:=ok.w30;omega
 generalize hcn:cntT t r=cnt at *
 have hn:=hch.num
 have hwi:∀ x,x ∈ widR t.f cnt→1≤wd t.f x:=fun x hx=>by
  have:=inF_iff.1 (widR_in t.f cnt) x hx
  exact (wd_ok ok.f ⟨this.1,this.2⟩).1
 have hso:=spr_ok t.f (widR t.f cnt) (t.words.length-1) (by omega) _ (Nat.le_refl _)
 have hem:=spr_emp t.f (widR t.f cnt) (t.words.length-1) (by omega) hwi _ (Nat.le_refl _)
 rw [show t.words.length-1-(widR t.f cnt).length=0 by omega] at hem
 have hem2:=empN_zero hem
 have hj:justL t r=joinK t.ind t.words (sprR t.f cnt (t.words.length-1)) t.words.length:=by unfold justL;rw [hcn]
 have hsr:sprR t.f cnt (t.words.length-1)=sprK t.f (widR t.f cnt) (t.words.length-1) (widR t.f cnt).length:=rfl
 rw [←hsr] at hso hem2
 generalize sprR t.f cnt (t.words.length-1)=gs at *
 rw [hj]
 have hp:(joinK t.ind t.words gs t.words.length).Perm (ownL t++widR t.f cnt):=by
  refine (joinK_perm t.ind t.words gs t.words.length (Nat.le_refl _) (by rw [hso.len];omega)).trans ?_
  rw [List.take_length,List.take_of_length_le (by rw [hso.len];omega)]
  unfold ownL
  rw [List.flatten_cons]
  have:=hso.perm
  rw [List.take_length] at this
  exact List.Perm.append_left _ this
 refine ⟨?_,?_⟩
 · rw [hp.length_eq,List.length_append]
   omega
 · rw [inF_iff]
   intro x hx
   rcases List.mem_append.1 (hp.mem_iff.1 hx) with hx | hx
   · exact inF_iff.1 own1 x hx
   · exact inF_iff.1 (widR_in t.f cnt) x hx
theorem jus_ok {t:Tsk} (h:(jusR t).1=0):(jusR t).2.length≤300∧InF t.f (jusR t).2:=by
 unfold jusR at h ⊢
 by_cases h0:opnE t=0
 · rw [if_neg (fun h=>h h0)] at h ⊢
   obtain ⟨ok,⟨lf,hlf,hlok⟩,hf0,hf1⟩:=opnE_ok h0
   rw [hlf] at h ⊢
   simp only at h ⊢
   cases hc:chzT t lf with
   | none=>rw [hc] at h;simp at h
   | some r=>
    exact just_il h0 hlf hc
 · rw [if_pos h0] at h
   exact absurd h h0
theorem rag_ok {t:Tsk} {g:Int} (h:(ragL t g).1=0):(ragL t g).2.length≤300∧InF t.f (ragL t g).2:=by
 unfold ragL at h ⊢
 by_cases h0:opnE t=0
 · rw [if_neg (fun h=>h h0)] at h ⊢
   obtain ⟨ok,⟨lf,hlf,hlok⟩,hf0,hf1⟩:=opnE_ok h0
   by_cases hw:win g 0 (t.f.sorts.length-1)=false
   · rw [if_pos hw] at h;simp at h
   rw [if_neg hw] at h ⊢
   by_cases hs:spB t.f g=false
   · rw [if_pos hs] at h;simp at h
   rw [if_neg hs] at h ⊢
   have hg:0≤g∧g < (t.f.sorts.length:Int):=by
    have:=win_t.1 (by simpa using hw);omega
   rw [hlf] at h ⊢
   simp only [Option.getD_some] at h ⊢
   cases ht:takR lf (List.replicate (t.words.length-1) g) with
   | none=>rw [ht] at h;simp at h
   | some l2=>
    rw [ht] at h
    simp only at h ⊢
    by_cases hr:fillT t-((t.words.length-1:Nat):Int)*wd t.f g < 0
    · rw [if_pos hr] at h;simp at h
    rw [if_neg hr] at h ⊢
    cases hc:fewS (qsF t.f l2) (fillT t-((t.words.length-1:Nat):Int)*wd t.f g).toNat 0 13 with
    | none=>rw [hc] at h;simp at h
    | some r=>
     simp only
     have hl2:CsOk t.f.sorts.length l2:=takR_ok hlok (fun j hj=>by
      rw [List.length_replicate] at hj
      have e:gz (List.replicate (t.words.length-1) g) j=g:=by unfold gz;rw [List.getD_eq_getElem?_getD,List.getElem?_replicate,if_pos hj];rfl
      rw [e];exact hg) ht
     have hco:=(cntR_ok ok.f hl2 (m:=12) hc).1
     have hp:=joinK_perm t.ind t.words (List.replicate (t.words.length-1) [g]) t.words.length (Nat.le_refl _) (by rw [List.length_replicate];omega)
     have hfl:∀ n,(List.replicate n [g]).flatten=List.replicate n g:=fun n=>by simp
     rw [List.take_replicate,hfl,List.take_length] at hp
     have hown:=own_in ok
     have hoe:ownL t=t.ind++t.words.flatten:=rfl
     rw [hoe] at hown
     constructor
     · have h1:=hp.length_eq
       rw [List.length_append,List.length_replicate] at h1
       rw [List.length_append,h1]
       have h2:=hown.2
       have h3:=hco.num.2
       have h4:=ok.w30
       have h5:min (t.words.length-1) (t.words.length-1)=t.words.length-1:=Nat.min_self _
       omega
     · refine inF_app ?_ (widR_in _ _)
       rw [inF_iff]
       intro x hx
       have hx:=hp.mem_iff.1 hx
       rcases List.mem_append.1 hx with h1 | h1
       · exact inF_iff.1 hown.1 x h1
       · rw [(List.mem_replicate.1 h1).2];exact hg
 · rw [if_pos h0] at h
   exact absurd h h0
theorem setL_ok {f:Fnt} {r:Rls} {l:Ln} {cs:List Int} (h:(setL f r l cs).1=0):(setL f r l cs).2.length≤300∧InF f (setL f r l cs).2:=by
 unfold setL at h ⊢
 split at h
 · rename_i h1
   rw [if_pos h1]
   exact rag_ok h
 · rename_i h1
   rw [if_neg h1]
   exact jus_ok h
def decK (cs zs:List Int):Nat→List Int
 | 0=>cs
 | k+1=>(decK cs zs k).set (gz zs k).toNat (gz (decK cs zs k) (gz zs k).toNat-1)
theorem decK_ok {n:Nat} {cs zs:List Int} {lo:Int} (hl:cs.length=n) (hb:∀ i,i < n→lo≤gz cs i∧gz cs i≤1000000) (hin:∀ j,j < zs.length→0≤gz zs j∧gz zs j < (n:Int)):∀ k,k≤zs.length→(decK cs zs k).length=n∧∀ i,i < n→lo-k≤gz (decK cs zs k) i∧gz (decK cs zs k) i≤1000000
 | 0,_=>⟨hl,fun i hi=>by have:=hb i hi;show lo-0≤gz cs i∧gz cs i≤1000000;omega⟩
 | k+1,hk=>by
  obtain ⟨h1,h2⟩:=decK_ok hl hb hin k (by omega)
  have hz:=hin k (by omega)
  refine ⟨by unfold decK;rw [List.length_set];exact h1,fun i hi=>?_⟩
  unfold decK
  rw [gz_set (by omega)]
  have h3:=h2 i hi
  split
  · rename_i e
    have h4:=h2 (gz zs k).toNat (by omega)
    subst e
    push_cast
    omega
  · push_cast
    omega
def lnA (f:Fnt) (r:Rls) (ws:List PWord) (ls:List (Nat × Nat)) (k:Nat):Ln:=lineF f r ws (ls.getD k (0,0)).1 (ls.getD k (0,0)).2
def saK (f:Fnt) (r:Rls) (ws:List PWord) (ls:List (Nat × Nat)) (cs:List Int):Nat→List Int × List (List Int)
 | 0=>(cs,[])
 | k+1=>
  let s:=saK f r ws ls cs k
  let R:=setL f r (lnA f r ws ls k) s.1
  (decK s.1 R.2 R.2.length,s.2++[R.2])
def saE (f:Fnt) (r:Rls) (ws:List PWord) (ls:List (Nat × Nat)) (cs:List Int) (k:Nat):Int:=(setL f r (lnA f r ws ls k) (saK f r ws ls cs k).1).1
theorem saK_ok {f:Fnt} {r:Rls} {ws:List PWord} {ls:List (Nat × Nat)} {cs:List Int} (hc:CsOk f.sorts.length cs):∀ k,(∀ j,j < k→saE f r ws ls cs j=0)→(saK f r ws ls cs k).1.length=f.sorts.length∧(∀ i,i < f.sorts.length→-300*(k:Int)≤gz (saK f r ws ls cs k).1 i∧gz (saK f r ws ls cs k).1 i≤1000000)∧(saK f r ws ls cs k).2.length=k
 | 0,_=>⟨hc.1,fun i hi=>by have:=hc.2 i hi;show -300*0≤gz cs i∧gz cs i≤1000000;omega,rfl⟩
 | k+1,h=>by
  obtain ⟨h1,h2,h3⟩:=saK_ok hc k (fun j hj=>h j (by omega))
  have h4:=setL_ok (h k (by omega))
  have h5:=decK_ok (zs:=(setL f r (lnA f r ws ls k) (saK f r ws ls cs k).1).2) h1 h2 h4.2 _ (Nat.le_refl _)
  refine ⟨h5.1,fun i hi=>?_,?_⟩
  · have h6:=h5.2 i hi
    have h7:=h4.1
    show -300*((k+1:Nat):Int)≤gz (decK _ _ _) i∧_
    refine ⟨?_,h6.2⟩
    have h8:=h6.1
    push_cast
    omega
  · show ((saK f r ws ls cs k).2++[_]).length=k+1
    rw [List.length_append,h3];rfl
def lcl (me:Int) (hd:List Value):List Value:=hd.flatMap fun v=>[.int .i64 me,v]
theorem lcl_snoc (me:Int) (hd:List Value) (v:Value):lcl me (hd++[v])=lcl me hd++[.int .i64 me,v]:=by simp [lcl]
theorem lcl_len (me:Int):∀ hd:List Value,(lcl me hd).length=hd.length*2
 | []=>rfl
 | v :: hd=>by
  have:=lcl_len me hd
  show ([Value.int .i64 me,v]++lcl me hd).length=_
  rw [List.length_append,this]
  simp only [List.length_cons,List.length_nil]
  omega
structure LSt (W:World) (B:Nat) (me:Int) (outs:List (List Int)) (vo:Value) (hd:List Value):Prop where
 row:W.ownsRow B 83 2 vo outs.length (lcl me hd)
 len:hd.length=outs.length
 pc:∀ i,i < outs.length→IO W B (gl outs i) (hd.getD i undef)
theorem LSt.nil (W:World) (B:Nat) (me:Int):LSt W B me [] (.slice none 0 0) []:=⟨World.ownsRow_nil _ _ _ _,rfl,fun i hi=>absurd hi (Nat.not_lt_zero _)⟩
theorem LSt.below {W W':World} {B:Nat} {me:Int} {outs:List (List Int)} {vo:Value} {hd:List Value} (h:LSt W B me outs vo hd) (hb:Below W.heap.size W W'):LSt W' B me outs vo hd:=
 ⟨h.row.kept (grown_of_below hb none) (Classical.em _),h.len,fun i hi=>(h.pc i hi).below hb⟩
theorem LSt.set_ {W:World} {B:Nat} {me:Int} {outs:List (List Int)} {vo:Value} {hd:List Value} (h:LSt W B me outs vo hd) {a:Addr} (ha:a.block < B) (u:Value):LSt (W.setCell a u) B me outs vo hd:=
 ⟨ownsRow_setCell_below h.row ha u,h.len,fun i hi=>ownsRow_setCell_below (h.pc i hi) ha u⟩
theorem LSt.push {W W5 W6:World} {B:Nat} {me:Int} {outs:List (List Int)} {vo v v':Value} {hd:List Value} {zs:List Int} (h:LSt W B me outs vo hd) (hp:IO W B zs v) (h5:Below W.heap.size W W5)
 (hown:W6.ownsRow B 83 2 v' (outs.length+1) (lcl me hd++[.int .i64 me,v])) (hg:W5.grownBy W6 vo.ownBlock):LSt W6 B me (outs++[zs]) v' (hd++[v]):=by
 have h6:=h.below h5
 have hp5:=hp.below h5
 refine ⟨by rw [List.length_append,lcl_snoc];exact hown,by simp [h.len],fun i hi=>?_⟩
 by_cases e:i < outs.length
 · rw [gl_app_lt e,gd_app_lt (by rw [h.len];exact e)]
   exact (h6.pc i e).kept hg (own_ne (h6.pc i e) h6.row (by decide))
 · have e':i=outs.length:=by simp at hi;omega
   subst e'
   rw [gl_app_eq,←h.len,gd_app_eq]
   exact hp5.kept hg (own_ne hp5 h6.row (by decide))
theorem LSt.shape {W:World} {B:Nat} {me:Int} {outs:List (List Int)} {vo:Value} {hd:List Value} (h:LSt W B me outs vo hd):∃ A c,vo=.slice A outs.length c:=by
 rcases h.row.2 with ⟨rfl,h0⟩ | ⟨g,cap,cur,rfl,_⟩
 · exact ⟨none,0,by rw [h0]⟩
 · exact ⟨_,_,rfl⟩
def LnV (W:World) (ls:List (Int × List Int)) (v:Value):Prop:=∃ hs:Nat→Value,RV W v ls.length 2 (fun j=>if j % 2=0 then .int .i64 (ls.getD (j / 2) (0,[])).1 else hs (j / 2))∧∀ i,i < ls.length→IV W (ls.getD i (0,[])).2 (hs i)
theorem lcl_get (me:Int):∀ (hd:List Value) (j:Nat),j < hd.length*2→(lcl me hd).getD j undef=if j % 2=0 then .int .i64 me else hd.getD (j / 2) undef
 | [],j,h=>by simp at h
 | v :: hd,0,h=>rfl
 | v :: hd,1,h=>rfl
 | v :: hd,j+2,h=>by
  have h1:=lcl_get me hd j (by simp at h;omega)
  have e1:lcl me (v :: hd)=.int .i64 me :: v :: lcl me hd:=rfl
  rw [e1,show (j+2) % 2=j % 2 by omega,show (j+2) / 2=j / 2+1 by omega]
  simpa using h1
theorem LSt.lnv {W:World} {B:Nat} {me:Int} {outs:List (List Int)} {vo:Value} {hd:List Value} (h:LSt W B me outs vo hd):LnV W (outs.map fun z=>(me,z)) vo:=by
 have hg:∀ i,i < outs.length→(outs.map fun z=>(me,z)).getD i (0,[])=(me,gl outs i):=fun i hi=>by
  unfold gl
  rw [List.getD_eq_getElem?_getD,List.getElem?_map,List.getElem?_eq_getElem hi,List.getD_eq_getElem?_getD,List.getElem?_eq_getElem hi]
  rfl
 refine ⟨fun j=>hd.getD j undef,?_,fun i hi=>?_⟩
 · rw [List.length_map]
   refine (rv_of_own h.row (by rw [lcl_len,h.len])).congr fun j hj=>?_
   rw [lcl_get me hd j (by rw [h.len];exact hj)]
   split
   · rw [hg (j / 2) (by omega)]
   · rfl
 · rw [List.length_map] at hi
   rw [hg i hi]
   exact (h.pc i hi).iv
end Go.Proofs.YtbnganlfelgogaaGreat
namespace Go.Proofs.YtbnganlfelgogaaGreat
open Go.RowKit
theorem cloneV (zs:List Int) (v:Value) (w:World) (h:IV w zs v) (hm:zs.length≤1000000):Calls Tryz.prog 104 #[v] w (CloPost w zs):=by
 obtain ⟨A,b,off,c,rfl,hA,hz,-,-⟩:=h.open
 exact cloneI_any zs A b off c w hA hz hm
theorem ln_res {me:Int} {R:Int × List Int} {w w':World} {a:Int} {A:Option Addr} {n c:Nat} {er:Int} (h:LnPost me R w (.returned (.tuple #[.agg #[.int .i64 a,.slice A n c],.int .i64 er])) w') :
 (R.1≠0∧er=R.1)∨(R.1=0∧er=0∧a=me∧IO w' w.heap.size R.2 (.slice A n c)):=by
 obtain ⟨h1,⟨h3,he⟩ | ⟨h3,v,he,hio⟩⟩:=h
 · left
   simp at he
   exact ⟨h3,he.2⟩
 · right
   simp at he
   obtain ⟨⟨rfl,rfl⟩,rfl⟩:=he
   exact ⟨h3,rfl,rfl,hio⟩
theorem info83:(Tryz.prog.info? 83).map (fun i=>(i.zero,i.size,i.bytes))=some (some (.agg #[.int .i64 0,.slice none 0 0]),2,32):=by kernel_rfl
def SaPost (f:Fnt) (r:Rls) (ws:List PWord) (ls:List (Nat × Nat)) (cs:List Int) (w:World) (e:Ending) (w':World):Prop:=Below w.heap.size w w'∧
 (((fstE (saE f r ws ls cs) ls.length).2≠0∧e=.returned (.tuple #[.slice none 0 0,.int .i64 (fstE (saE f r ws ls cs) ls.length).1,.int .i64 (fstE (saE f r ws ls cs) ls.length).2]))∨
   ((fstE (saE f r ws ls cs) ls.length).2=0∧∃ v,e=.returned (.tuple #[v,.int .i64 0,.int .i64 0])∧LnV w' ((saK f r ws ls cs ls.length).2.map fun z=>(r.measure,z)) v))
theorem results_tmp3 {fn:Func} {t u v:Tmp} (h:fn.results=#[.tmp t,.tmp u,.tmp v]) (tmps:Array Value) (P:Program) (w:World) :
 (results fn tmps).run P w=.ok (.tuple #[tmps.getD t undef,tmps.getD u undef,tmps.getD v undef]) w:=by
 simp [results,h,Sem.run_bind,Result.andThen]
structure SI (w W:World) (B0 zb tb:Nat) (me:Int) (left zs:List Int) (m:Nat) (outs:List (List Int)) (vl vo vz:Value) (hd:List Value):Prop where
 B:Below w.heap.size w W
 L:IO W w.heap.size (decK left zs m) vl
 O:LSt W B0 me outs vo hd
 Z:IO W zb zs vz
 T:Blk W tb 83 #[.int .i64 me,vz]
 s:zb≤W.heap.size
theorem SI.put {w W:World} {B0 zb tb g q:Nat} {me:Int} {left zs:List Int} {m ns c1:Nat} {outs:List (List Int)} {vo vz:Value} {hd:List Value} (h:SI w W B0 zb tb me left zs m outs (.slice (some ⟨g,0,none⟩) ns c1) vo vz hd) (hg:g < B0) (hw:w.heap.size≤g) (hz:B0≤zb) (ht:zb≤tb)
 (u:Value) (hL:IO (W.setCell ⟨g,q,none⟩ u) w.heap.size (decK left zs (m+1)) (.slice (some ⟨g,0,none⟩) ns c1)):SI w (W.setCell ⟨g,q,none⟩ u) B0 zb tb me left zs (m+1) outs (.slice (some ⟨g,0,none⟩) ns c1) vo vz hd:=
 ⟨h.B.setCell (p:=⟨g,q,none⟩) hw u,hL,h.O.set_ (a:=⟨g,q,none⟩) hg u,ownsRow_setCell_below h.Z (a:=⟨g,q,none⟩) (by show g < zb;omega) u,(Below.heap_setCell _ _ _ _ (fun e=>by have:tb=g:=e;omega)).trans h.T,by have:=h.s;simpa [World.setCell] using this⟩
theorem setAll_any (f:Fnt) (v:Value) (r:Rls) (ws:List PWord) (vw vp:Value) (pb Bq:Nat) (ls:List (Nat × Nat)) (qs:List ((Nat × Nat) × Value)) (vq:Value) (cs:List Int) (vc:Value) (w:World) (h:PA w pb f v r ws vw vp) (hok:POk f r ws) (hi0:r.indent=0)
 (hs:SSt w Bq f r ws qs vq) (hq:qs.map Prod.fst=ls) (hc:IV w cs vc) (hcs:CsOk f.sorts.length cs) (hps:∀ k,k < ls.length→(lnA f r ws ls k).ps.length≤100000) (hn:f.name.size≤9223372036854775807) (hl300:ls.length≤300) :
 Calls Tryz.prog 100 #[.pointer (some ⟨pb,0,none⟩),vq,vc] w (SaPost f r ws ls cs w):=by
 have hqn:qs.length=ls.length:=by rw [←hq,List.length_map]
 have HPA:=Lib.hid h
 have HOK:=Lib.hid hok
 have HSS:=Lib.hid hs
 have HQ:=Lib.hid hq
 have HCS:=Lib.hid hcs
 have HPS:=Lib.hid hps
 have HFEW:=Lib.hid (fnErr_few hok.fn)
 have HQN:=Lib.hid hqn
 have hcl:=hcs.1
 obtain ⟨Aq,cq,rfl⟩:=hs.shape
 obtain ⟨Ac,_,_,cc,rfl,-⟩:=hc.open
 have HC0:=Lib.hid (cloneV cs _ w hc (by have:=HFEW.out;omega))
 have HERR:Hid (∀ W k,k < ls.length→(∀ j,j < k→saE f r ws ls cs j=0)→saE f r ws ls cs k≠0→Below w.heap.size w W→SaPost f r ws ls cs w (.returned (.tuple #[.slice none 0 0,.int .i64 (k:Int),.int .i64 (saE f r ws ls cs k)])) W):=(show ∀ W k,_ from fun W k h1 h2 h3 h4=>by
  have e:=fstE_hit h3 h2 h1
  unfold SaPost
  rw [e]
  exact ⟨h4,.inl ⟨h3,rfl⟩⟩)
 have HFIN:Hid (∀ W v,(∀ j,j < ls.length→saE f r ws ls cs j=0)→LnV W ((saK f r ws ls cs ls.length).2.map fun z=>(r.measure,z)) v→Below w.heap.size w W→SaPost f r ws ls cs w (.returned (.tuple #[v,.int .i64 0,.int .i64 0])) W):=(show ∀ W v,_ from fun W v h1 h2 h3=>by
  have e:=fstE_none h1
  unfold SaPost
  rw [e]
  exact ⟨h3,.inr ⟨rfl,v,rfl,h2⟩⟩)
 have HSK:Hid (∀ k,(∀ j,j < k→saE f r ws ls cs j=0)→(saK f r ws ls cs k).1.length=f.sorts.length∧(∀ i,i < f.sorts.length→-300*(k:Int)≤gz (saK f r ws ls cs k).1 i∧gz (saK f r ws ls cs k).1 i≤1000000)∧(saK f r ws ls cs k).2.length=k):=(show ∀ k,_ from saK_ok hcs)
 have HST:Hid (∀ k,saE f r ws ls cs k=(setL f r (lnA f r ws ls k) (saK f r ws ls cs k).1).1∧saK f r ws ls cs (k+1)=(decK (saK f r ws ls cs k).1 (setL f r (lnA f r ws ls k) (saK f r ws ls cs k).1).2 (setL f r (lnA f r ws ls k) (saK f r ws ls cs k).1).2.length,(saK f r ws ls cs k).2++[(setL f r (lnA f r ws ls k) (saK f r ws ls cs k).1).2])):=(show ∀ k,_ from fun k=>⟨rfl,rfl⟩)
 have HS0:Hid (saK f r ws ls cs 0=(cs,[])):=rfl
 clear h hok hs hq hc hcs hps
 rw [hqn]
 generalize hN:ls.length=N at *
 have HN:=Lib.hid hN
 clear hN hqn
 generalize hns:f.sorts.length=ns at *
 have HNS:=Lib.hid hns
 have HCL:=Lib.hid hcl
 rw [hcl] at HC0 ⊢
 clear hns hcl
 go_enter Tryz.func100,Tryz.ntmps100
 go_wp2_with fail
 refine HC0.out.mono ?_
 rintro e w1 ⟨u,rfl,hio,hb1⟩
 have HB1:=Lib.hid hb1
 have HI1:=Lib.hid hio
 obtain ⟨A1,c1,rfl⟩:=hio.shape
 rw [HCL.out] at HI1 ⊢
 have HLB:Hid (∀ t,(Value.slice A1 ns c1).ownBlock=some t→w.heap.size≤t∧t < w1.heap.size):=(show ∀ t,_ from fun t ht=>World.ownsRow.lt HI1.out t ht)
 clear hio hb1 HC0
 go_wp2_with fail
 go_loopg [9,21] N (fun gg s9 s21 wr=>∃ (k:Nat) (hd:List Value),k≤N∧N-k≤gg∧s21=.int .i64 (k:Int)∧Hid (∀ j,j < k→saE f r ws ls cs j=0)∧Hid (Below w.heap.size w wr)∧Hid (IO wr w.heap.size (saK f r ws ls cs k).1 (.slice A1 ns c1))∧Hid (LSt wr w1.heap.size r.measure (saK f r ws ls cs k).2 s9 hd)∧Hid (w1.heap.size≤wr.heap.size))
 case atStart=>exact ⟨0,[],by omega,by omega,rfl,fun j hj=>absurd hj (Nat.not_lt_zero _),HB1.out,(show IO _ _ _ _ from by rw [HS0.out];exact HI1.out),(show LSt _ _ _ _ _ _ from by rw [HS0.out];exact LSt.nil _ _ _),Nat.le_refl _⟩
 case round=>
  obtain ⟨k,hd,hk,hg,rfl,HE,HB,HI,HLS,HSZ⟩:=hrel
  obtain ⟨hk1,hk2,hk3⟩:=HSK.out k HE.out
  obtain ⟨Ao,co,rfl⟩:=HLS.out.shape
  by_cases hlt:k < N
  · have hltz:(k:Int) < (N:Int):=by omega
    obtain ⟨p,hp⟩:∃ p,ls[k]?=some p:=⟨_,List.getElem?_eq_getElem (by rw [HN.out];exact hlt)⟩
    have hlnA:lnA f r ws ls k=lineF f r ws p.1 p.2:=by
     unfold lnA
     rw [List.getD_eq_getElem?_getD,hp]
     rfl
    obtain ⟨g,Av,cv,hAq,hgl,z0,z1,z2,z3,z4,hlv⟩:=SSt.at (HSS.out.below HB.out) (k:=k) (p:=p) (by rw [HQN.out];exact hlt) (by rw [HQ.out];exact hp)
    subst hAq
    have hpl:=HPS.out k hlt
    rw [hlnA] at hpl
    have HPL:=Lib.hid hpl
    have hst:=HST.out k
    rw [hlnA] at hst
    generalize hll:lineF f r ws p.1 p.2=ll at *
    clear hll hlnA hp hpl
    obtain ⟨hs1,hs2⟩:=hst
    generalize hLe:(saK f r ws ls cs k).1=left at *
    generalize hOu:(saK f r ws ls cs k).2=outs at *
    have HR:Hid (∀ W u,PA W pb f v r ws vw vp→LV W ll.ps (.slice Av ll.ps.length cv)→IV W left u→Calls Tryz.prog 133 #[.pointer (some ⟨pb,0,none⟩),.agg (lcs (p.1:Int) (p.2:Int) (.slice Av ll.ps.length cv) ll.room ll.ends),u] W (LnPost r.measure (setL f r ll left) W)):=(show ∀ W u,_ from fun W u h1 h2 h3=>setLine_any f v r ws vw vp pb p.1 p.2 ll Av cv left u W h1 HOK.out hi0 h2 h3 HPL.out hn)
    have HOKL:Hid ((setL f r ll left).1=0→(setL f r ll left).2.length≤300∧InF f (setL f r ll left).2):=(show _→_ from fun h=>setL_ok h)
    generalize hRe:setL f r ll left=R at *
    have HS1:=Lib.hid hs1
    have HS2:=Lib.hid hs2
    have hpk:PA wr pb f v r ws vw vp:=HPA.out.step HB.out
    have hb2:=below_new wr (.cells (lcs (p.1:Int) (p.2:Int) (.slice Av ll.ps.length cv) ll.room ll.ends) 155)
    have HB2:=Lib.hid (HB.out.trans (hb2.mono HB.out.size))
    have HP2:=Lib.hid (hpk.step hb2)
    have HL2:=Lib.hid (hlv.below hb2)
    have HI2:=Lib.hid (HI.out.below hb2)
    have HO2:=Lib.hid (HLS.out.below hb2)
    have HX2:=Lib.hid (Blk.new wr 155 (lcs (p.1:Int) (p.2:Int) (.slice Av ll.ps.length cv) ll.room ll.ends))
    have HSZ2:Hid (w1.heap.size≤(wr.alloc (.cells (lcs (p.1:Int) (p.2:Int) (.slice Av ll.ps.length cv) ll.room ll.ends) 155)).heap.size):=(show _≤_ from by have:=HSZ.out;have:=hb2.size;omega)
    have HLEN:Hid (left.length=ns∧(∀ i,i < ns→-300*(k:Int)≤gz left i∧gz left i≤1000000)∧outs.length=k):=⟨hk1,hk2,hk3⟩
    rw [hk3]
    clear hs1 hs2 hRe hLe hOu hpk hb2 hlv hk1 hk2 hk3
    go_upto_region 6 with fail
    clear z0 z1 z2 z3 z4 HI HLS HB hgl
    generalize wr.alloc (.cells (lcs (p.1:Int) (p.2:Int) (.slice Av ll.ps.length cv) ll.room ll.ends) 155)=W1 at *
    generalize wr.heap.size=xb at *
    have HKS:Hid (∀ W,Below W1.heap.size W1 W→(W.cell? ⟨xb,0,none⟩=some (.int .i64 (p.1:Int))∧W.cell? ⟨xb,1,none⟩=some (.int .i64 (p.2:Int))∧W.cell? ⟨xb,2,none⟩=some (.slice Av ll.ps.length cv)∧W.cell? ⟨xb,3,none⟩=some (.int .i64 ll.room)∧W.cell? ⟨xb,4,none⟩=some (.bool ll.ends))):=(show ∀ W,_ from fun W hW=>by
     have h1:=HX2.out.below hW HX2.out.lt
     exact ⟨h1.cell 0,h1.cell 1,h1.cell 2,h1.cell 3,h1.cell 4⟩)
    have HC4:Hid (∀ W,Below W1.heap.size W1 W→Calls Tryz.prog 104 #[.slice A1 ns c1] W (CloPost W left)):=(show ∀ W,_ from fun W hW=>cloneV left _ W ((HI2.out.below hW).iv) (by have:=HLEN.out.1;have:=HFEW.out;have:=HNS.out;omega))
    have HC5:Hid (∀ W u,Below W1.heap.size W1 W→IV W left u→Calls Tryz.prog 133 #[.pointer (some ⟨pb,0,none⟩),.agg (lcs (p.1:Int) (p.2:Int) (.slice Av ll.ps.length cv) ll.room ll.ends),u] W (LnPost r.measure R W)):=(show ∀ W u,_ from fun W u hW hu=>HR.out W u (HP2.out.step hW) (HL2.out.below hW) hu)
    have hbd:Below W1.heap.size W1 W1.drew:=(Below.refl _ _).drew
    have hba:Below W1.heap.size W1 (W1.alloc (.cells #[.int .i64 0,.slice none 0 0] 83)).drew:=(below_new W1 _).drew
    have hqn:Blk (W1.alloc (.cells #[.int .i64 0,.slice none 0 0] 83)).drew W1.heap.size 83 #[.int .i64 0,.slice none 0 0]:=Blk.new W1 83 #[.int .i64 0,.slice none 0 0]
    have hS0:=HKS.out _ hbd
    go_wp2_with fail
    go_region_held3 (fun W=>(W.cell? ⟨xb,0,none⟩=some (.int .i64 (p.1:Int))∧W.cell? ⟨xb,1,none⟩=some (.int .i64 (p.2:Int))∧W.cell? ⟨xb,2,none⟩=some (.slice Av ll.ps.length cv)∧W.cell? ⟨xb,3,none⟩=some (.int .i64 ll.room)∧W.cell? ⟨xb,4,none⟩=some (.bool ll.ends)))
     (first
      | exact hS0
      | exact HKS.out _ hba
      | exact HKS.out _ hb7
      | exact HKS.out _ hb6a
      | exact HKS.out _ hb6
      | exact HKS.out _ hb5a
      | exact HKS.out _ hb5
      | exact HKS.out _ (hb6.alloc hb6.size _)
      | go_keep)
     ((first
       | (go_at_call 104;(with_reducible refine (HC4.out W1.drew hbd).mono ?_);rintro e w5 ⟨u5,rfl,hio5,hb5'⟩;have hb5:Below W1.heap.size W1 w5:=hbd.trans (hb5'.mono hbd.size);have hb5a:=hb5.alloc hb5.size (.cells #[.int .i64 0,.slice none 0 0] 83);obtain ⟨A5,c5,rfl⟩:=hio5.shape)
       | (go_at_call 104;(with_reducible refine (HC4.out _ hba).mono ?_);rintro e w5 ⟨u5,rfl,hio5,hb5'⟩;have hb5:Below W1.heap.size W1 w5:=hba.trans (hb5'.mono hba.size);have qb5:Blk w5 W1.heap.size 83 #[.int .i64 0,.slice none 0 0]:=hqn.below hb5' hqn.lt;obtain ⟨A5,c5,rfl⟩:=hio5.shape)
       | (go_at_call 133;(with_reducible refine (HC5.out w5 _ hb5 hio5.iv).mono ?_);intro e w6 hln;obtain ⟨a',A',n',c',er,rfl⟩:=ln_shape hln;have hb6:Below W1.heap.size W1 w6:=hb5.trans (hln.1.mono hb5.size);have qb6:=qb5.below hln.1 qb5.lt;have q0:=qb6.cell 0;have q1:=qb6.cell 1;have q0f:=Blk.frozen qb6 0;have q1f:=Blk.frozen qb6 1;have ql6:=qb6.lt;have hb7:=below_two hb6 (Nat.le_refl _) (.int .i64 a') (.slice A' n' c'))
       | (go_at_call 133;(with_reducible refine (HC5.out w5 _ hb5 hio5.iv).mono ?_);intro e w6 hln;obtain ⟨a',A',n',c',er,rfl⟩:=ln_shape hln;have hb6:Below W1.heap.size W1 w6:=hb5.trans (hln.1.mono hb5.size))
       | (go_at_call 133;(with_reducible refine (HC5.out _ _ hb5a (hio5.iv.below (below_new w5 _))).mono ?_);intro e w6 hln;obtain ⟨a',A',n',c',er,rfl⟩:=ln_shape hln;have hb6:Below W1.heap.size W1 w6:=hb5a.trans (hln.1.mono hb5a.size);have qb6:=(Blk.new w5 83 #[.int .i64 0,.slice none 0 0]).below hln.1 (Blk.lt (Blk.new w5 83 #[.int .i64 0,.slice none 0 0]));have q0:=qb6.cell 0;have q1:=qb6.cell 1;have q0f:=Blk.frozen qb6 0;have q1f:=Blk.frozen qb6 1;have ql6:=qb6.lt;have hb7:=below_two hb6 hb5.size (.int .i64 a') (.slice A' n' c'))))
    all_goals
     (first
      | (have hne5:W1.heap.size < w5.heap.size:=qb5.lt
         have HT7:Hid (Blk ((w6.setCell ⟨W1.heap.size,0,none⟩ (.int .i64 a')).setCell ⟨W1.heap.size,1,none⟩ (.slice A' n' c')) W1.heap.size 83 #[.int .i64 a',.slice A' n' c']):=qb6.two _ _
         have HB7:=Lib.hid hb7
         have HZ7:Hid ((R.1≠0∧er=R.1)∨(R.1=0∧er=0∧a'=r.measure∧IO ((w6.setCell ⟨W1.heap.size,0,none⟩ (.int .i64 a')).setCell ⟨W1.heap.size,1,none⟩ (.slice A' n' c')) W1.heap.size R.2 (.slice A' n' c'))):=(show _∨_ from by
          rcases ln_res hln with h | ⟨h1,h2,h3,h4⟩
          · exact .inl h
          · exact .inr ⟨h1,h2,h3,World.ownsRow.mono (base:=w5.heap.size) (ownsRow_setCell_below (ownsRow_setCell_below h4 hne5 _) hne5 _) (Nat.le_of_lt hne5)⟩)
         clear hb7 hb6 hb5 hb5' hio5 hln qb5 qb6 q0 q1 q0f q1f ql6 hqn hba hbd hS0 hne5 HC4 HC5 HKS
         generalize (w6.setCell ⟨W1.heap.size,0,none⟩ (.int .i64 a')).setCell ⟨W1.heap.size,1,none⟩ (.slice A' n' c')=W7 at *
         obtain ⟨tb,htb⟩:∃ tb,W1.heap.size=tb:=⟨_,rfl⟩
         have HTB:Hid (W1.heap.size≤tb):=(show _≤_ from by omega)
         rw [htb] at HT7 ⊢
         clear htb)
      | (have hz5:W1.heap.size≤w5.heap.size:=hb5.size
         have HT7:Hid (Blk ((w6.setCell ⟨w5.heap.size,0,none⟩ (.int .i64 a')).setCell ⟨w5.heap.size,1,none⟩ (.slice A' n' c')) w5.heap.size 83 #[.int .i64 a',.slice A' n' c']):=qb6.two _ _
         have HB7:=Lib.hid hb7
         have HZ7:Hid ((R.1≠0∧er=R.1)∨(R.1=0∧er=0∧a'=r.measure∧IO ((w6.setCell ⟨w5.heap.size,0,none⟩ (.int .i64 a')).setCell ⟨w5.heap.size,1,none⟩ (.slice A' n' c')) W1.heap.size R.2 (.slice A' n' c'))):=(show _∨_ from by
          rcases ln_res hln with h | ⟨h1,h2,h3,h4⟩
          · exact .inl h
          · have e:(w5.alloc (.cells #[.int .i64 0,.slice none 0 0] 83)).heap.size=w5.heap.size+1:=by simp
            rw [e] at h4
            exact .inr ⟨h1,h2,h3,World.ownsRow.mono (base:=w5.heap.size+1) (ownsRow_setCell_below (ownsRow_setCell_below h4 (by show w5.heap.size < _;omega) _) (by show w5.heap.size < _;omega) _) (by omega)⟩)
         have HTB:Hid (W1.heap.size≤w5.heap.size):=hz5
         clear hb7 hb6 hb5 hb5a hb5' hio5 hln qb6 q0 q1 q0f q1f ql6 hqn hba hbd hS0 hz5 HC4 HC5 HKS
         generalize (w6.setCell ⟨w5.heap.size,0,none⟩ (.int .i64 a')).setCell ⟨w5.heap.size,1,none⟩ (.slice A' n' c')=W7 at *
         generalize w5.heap.size=tb at *)
      | (have HT7:Hid (Blk (w6.alloc (.cells #[.int .i64 a',.slice A' n' c'] 83)) w6.heap.size 83 #[.int .i64 a',.slice A' n' c']):=Blk.new w6 83 _
         have HB7:Hid (Below W1.heap.size W1 (w6.alloc (.cells #[.int .i64 a',.slice A' n' c'] 83))):=hb6.alloc hb6.size _
         have HZ7:Hid ((R.1≠0∧er=R.1)∨(R.1=0∧er=0∧a'=r.measure∧IO (w6.alloc (.cells #[.int .i64 a',.slice A' n' c'] 83)) W1.heap.size R.2 (.slice A' n' c'))):=(show _∨_ from by
          rcases ln_res hln with h | ⟨h1,h2,h3,h4⟩
          · exact .inl h
          · exact .inr ⟨h1,h2,h3,(IO.base h4 hb5.size).below (below_new w6 _)⟩)
         have HTB:Hid (W1.heap.size≤w6.heap.size):=hb6.size
         clear hb6 hb5 hb5a hb5' hio5 hln hqn hba hbd hS0 HC4 HC5 HKS
         generalize w6.alloc (.cells #[.int .i64 a',.slice A' n' c'] 83)=W7 at *
         generalize w6.heap.size=tb at *))
    all_goals
     (have HBW:=Lib.hid (HB2.out.trans (HB7.out.mono HB2.out.size))
      have HO7:=Lib.hid (HO2.out.below HB7.out)
      have HI7:=Lib.hid (HI2.out.below HB7.out)
      have HSZ7:Hid (w1.heap.size≤W1.heap.size∧W1.heap.size≤W7.heap.size):=⟨HSZ2.out,HB7.out.size⟩
      clear HB2 HP2 HL2 HI2 HO2 HX2 HSZ2 HR
      have t0:=HT7.out.cell 0
      have t1:=HT7.out.cell 1
      have tl:=HT7.out.lt
      rcases HZ7.out with ⟨hne,rfl⟩ | ⟨hze,rfl,rfl,hio⟩
      · have hbn:=bne_t hne
        have HF:=Lib.hid (HERR.out W7 k hlt HE.out (by rw [HS1.out];exact hne) HBW.out)
        rw [HS1.out] at HF
        generalize R.1=re at *
        clear hne HZ7
        go_wp2_with fail
        refine bodyPost_ret (results_tmp3 rfl _ _ _) rfl ?_
        exact HF.out
      · have hokl:=HOKL.out hze
        have HHE:Hid (∀ j,j < k+1→saE f r ws ls cs j=0):=(show ∀ j,_ from fun j hj=>by
         by_cases e:j=k
         · subst e;rw [HS1.out];exact hze
         · exact HE.out j (by omega))
        have HOL:=Lib.hid hokl
        have HIO:=Lib.hid hio
        clear HZ7 hze hokl hio HOKL
        obtain ⟨A'',c'',he⟩:=IO.shape HIO.out
        injection he with e1 e2 e3
        subst e1 e2 e3
        obtain ⟨i83,hi83,hz83,hy83,hx83⟩:=info_parts info83
        generalize hzs:R.2=zs at *
        have HZS:=Lib.hid hzs
        clear hzs
        obtain ⟨L,hL⟩:∃ L,zs.length=L:=⟨_,rfl⟩
        have HL:=Lib.hid hL
        rw [hL] at HOL HIO HT7 t1 ⊢
        clear hL
        have HI0:Hid (SI w W7 w1.heap.size W1.heap.size tb r.measure left zs 0 outs (.slice A1 ns c1) (.slice Ao k co) (.slice A' L c') hd):=(show SI _ _ _ _ _ _ _ _ _ _ _ _ _ _ from by
         refine ⟨HBW.out,HI7.out,?_,HIO.out,HT7.out,HSZ7.out.2⟩
         have:=HO7.out
         rwa [HLEN.out.2.2] at this)
        have HDK:Hid (∀ m,m≤L→(decK left zs m).length=ns∧∀ i,i < ns→-300*(k:Int)-m≤gz (decK left zs m) i∧gz (decK left zs m) i≤1000000):=(show ∀ m,_ from fun m hm=>decK_ok HLEN.out.1 HLEN.out.2.1 (fun j hj=>by have:=HOL.out.2 j hj;rw [HNS.out] at this;exact this) m (by rw [HL.out];exact hm))
        have HST2:Hid (∀ m,decK left zs (m+1)=(decK left zs m).set (gz zs m).toNat (gz (decK left zs m) (gz zs m).toNat-1)):=(show ∀ m,_ from fun m=>rfl)
        have hl3:=HOL.out.1
        clear HBW HI7 HO7 HIO HT7
        go_upto_region 10 with fail
        go_loopg [41] L (fun gg s41 wr=>∃ m:Nat,m≤L∧L-m≤gg∧s41=.int .i64 (m:Int)∧Hid (SI w wr w1.heap.size W1.heap.size tb r.measure left zs m outs (.slice A1 ns c1) (.slice Ao k co) (.slice A' L c') hd))
        case atStart=>exact ⟨0,by omega,by omega,rfl,HI0.out⟩
        case round=>
         obtain ⟨m,hm,hgm,rfl,HI⟩:=hrel
         obtain ⟨hd1,hd2⟩:=HDK.out m hm
         by_cases hml:m < L
         · have hmz:(m:Int) < (L:Int):=by omega
           have hzi:=HOL.out.2 m (by rw [HL.out];exact hml)
           rw [HNS.out] at hzi
           have HS1m:=Lib.hid (HST2.out m)
           obtain ⟨Az,bz,oz,ccz,hze,hAz,hzz,-,-⟩:=(HI.out.Z.iv).open
           injection hze with e1 e2 e3
           subst e1
           obtain ⟨rfl,hbz⟩:=hAz (by rw [HL.out];omega)
           have hzc:=hzz m (by rw [HL.out];exact hml)
           generalize gz zs m=z at *
           obtain ⟨q,rfl⟩:=Int.eq_ofNat_of_zero_le hzi.1
           rw [Int.toNat_natCast] at HS1m
           have hql:q < ns:=by omega
           have hqz:(q:Int) < (ns:Int):=by omega
           obtain ⟨g,hA1,hBg,hgl,hgc,hgf,hput⟩:=HI.out.L.at (i:=q) (by rw [hd1];exact hql)
           subst hA1
           have hr:=hd2 q hql
           have hk300:(k:Int)≤300:=by omega
           have hm300:(m:Int)≤300:=by omega
           have hgw:=(HLB.out g rfl).2
           have hzz2:=HSZ7.out.1
           have HPX:=Lib.hid (hput (gz (decK left zs m) q-1))
           have HPU:=Lib.hid (HI.out.put (q:=q) hgw hBg hzz2 HTB.out (.int .i64 (gz (decK left zs m) q-1)) (by rw [HS1m.out];exact HPX.out))
           generalize gz (decK left zs m) q=y at *
           clear hput hd2 hAz hzz e2 e3
           go_wp2_with fail
           go_roundg (L-(m+1))
           case measure=>omega
           case rel=>exact ⟨m+1,by omega,by omega,by go_num,HPU.out⟩
         · have hmz:¬(m:Int) < (L:Int):=by omega
           have hmL:m=L:=by omega
           subst hmL
           have u0:=HI.out.T.cell 0
           have u1:=HI.out.T.cell 1
           have ul:=HI.out.T.lt
           have hbn:=below_new wr (.cells #[.int .i64 r.measure,.slice A' m c'] 83)
           have HBN:=Lib.hid hbn
           have hnews:∀ j u,[Value.int .i64 r.measure,.slice A' m c'][j]?=some u→(wr.alloc (.cells #[.int .i64 r.measure,.slice A' m c'] 83)).cell? ((⟨wr.heap.size,0,none⟩:Addr).add j)=some u:=World.news_of_block (w:=wr.alloc (.cells #[.int .i64 r.measure,.slice A' m c'] 83)) (heap_alloc_new wr _)
           have hrow:=((HI.out.O).below hbn).row
           have hB0:w1.heap.size≤(wr.alloc (.cells #[.int .i64 r.measure,.slice A' m c'] 83)).heap.size:=by have:=hbn.size;have:=HI.out.s;have:=HSZ7.out.1;omega
           have hkk:k≤300:=by omega
           clear hd1 hd2
           go_wp2_with ((at_builtin
                         refine wpList_append_lies _ rfl _ _ 57 (by rfl) w1.heap.size 83 i83 _ 2 32 Tryz.underlying57 hi83 hz83 hy83 hx83 rfl (by omega) _ k (lcl r.measure hd) (by rfl) (HLEN.out.2.2 ▸ hrow) ⟨wr.heap.size,0,none⟩ 1 1 [.int .i64 r.measure,.slice A' m c'] (by rfl) (by rfl) hnews (by simp [Value.oneCell']) (by omega) (by simp only [maxLen];omega) (by omega) hB0 _ rfl ?_
                         intro g6 cap6 w6 hown hgrow hat hlt6
                         have HLS6:Hid (LSt w6 w1.heap.size r.measure (outs++[zs]) (.slice (some ⟨g6,0,none⟩) (k+1) cap6) (hd++[.slice A' m c'])):=(show LSt _ _ _ _ _ _ from (HI.out.O).push (IO.base HI.out.Z HSZ7.out.1) HBN.out (by rw [HLEN.out.2.2];exact hown) hgrow)
                         have hz6:=hgrow.size
                         have HB6:Hid (Below w1.heap.size wr w6):=(show Below _ _ _ from (HBN.out.mono (by have:=HI.out.s;have:=HSZ7.out.1;omega)).grown hgrow hB0 (fun t ht=>(HI.out.O.row.lt t ht).1))
                         have HI6:Hid (IO w6 w.heap.size (decK left zs m) (.slice A1 ns c1)):=(show IO _ _ _ _ from by
                          refine World.ownsRow.kept (row:=(Value.slice Ao k co).ownBlock) (HI.out.L.below HBN.out) hgrow ?_
                          rcases hq:(Value.slice A1 ns c1).ownBlock with _ | t
                          · exact .inl rfl
                          · refine .inr (fun e=>?_)
                            have h1:=(HLB.out t hq).2
                            have h2:=(HI.out.O.row.lt t e.symm).1
                            omega)
                         clear hown hgrow hat hlt6 hnews hrow))
           go_roundg (N-(k+1))
           case measure=>omega
           case rel=>
            have hs2:=HS2.out
            have hsz1:=HB6.out.size
            have hszr:=HI.out.s
            have hsz7:=HSZ7.out.1
            have hbw1:=HB1.out.size
            refine ⟨k+1,hd++[.slice A' m c'],by omega,by omega,by go_num,HHE.out,HI.out.B.trans (HB6.out.mono hbw1),(show IO _ _ _ _ from ?_),(show LSt _ _ _ _ _ _ from ?_),(show _≤_ from by omega)⟩
            · rw [hs2,HL.out]
              exact HI6.out
            · rw [hs2]
              exact HLS6.out)
  · have hltz:¬(k:Int) < (N:Int):=by omega
    have hkn:k=N:=by omega
    subst hkn
    have HF:=Lib.hid (HFIN.out wr _ HE.out HLS.out.lnv HB.out)
    rw [hk3] at HF ⊢
    go_wp2_with fail
    refine bodyPost_ret (results_tmp3 rfl _ _ _) rfl ?_
    exact HF.out
end Go.Proofs.YtbnganlfelgogaaGreat
