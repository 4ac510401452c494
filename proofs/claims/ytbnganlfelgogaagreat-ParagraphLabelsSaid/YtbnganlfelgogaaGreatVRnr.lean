/- A range over a function whose iterator keeps its place in a box of its own. -/
import Derived.RangeFuncNested
import Derived.RangeFuncBound
import Derived.RangeFuncCalls
import Derived.Test.YtbnganlfelgogaaGreatVBas
import Derived.RangeFuncLeaves
import Derived.Shelf.Abstract
import Derived.Shelf.RegionOpen
import Derived.WalkKit
import Derived.OwnWalkIn
import Derived.TacticsInMore
import Derived.LoopNIn
import Derived.LoopIn
import Derived.IntWalk
import Derived.Lib.QuietBelow
import Derived.Deep.RegionHeld3
import Derived.Test.YtbnganlfelgogaaGreatVFcf
set_option linter.unusedSimpArgs false
set_option linter.unusedVariables false
set_option maxRecDepth 100000
set_option maxHeartbeats 40000000
namespace Go.Proofs.YtbnganlfelgogaaGreat
open Go.RowKit
def AbB {β:Type} (B bx:Nat) (J:β→World→Prop):Prop:=
 ∀ s W W' row,J s W→W.grownBy W' row→(∀ r,row=some r→r=bx∨(B≤r∧∃ o:Obj,W.heap[r]?=some o∧o.isWalk=true))→J s W'
def OwB {β:Type} (B bx:Nat) (I:β→World→Prop):Prop:=
 ∀ s W W' row,I s W→W.grownBy W' row→(∀ r,row=some r→r=bx∨(B≤r∧∃ o:Obj,W.heap[r]?=some o∧o.isCells=false))→I s W'
theorem OwB.own {β:Type} {B bx:Nat} {I:β→World→Prop} (h:OwB B bx I):OwnFrom B I:=fun s W W' row hs hg hr=>h s W W' row hs hg (fun r e=>.inr (hr r e))
theorem AbB.below {β:Type} {B bx:Nat} {J:β→World→Prop} (h:AbB B bx J) {s:β} {W W':World} (hs:J s W) (hb:Below W.heap.size W W'):J s W':=
 h s W W' none hs (grown_of_below hb none) (fun r e=>by cases e)
theorem AbB.box {β:Type} {B bx:Nat} {J:β→World→Prop} (h:AbB B bx J) {s:β} {W W':World} (hs:J s W) (hg:W.grownBy W' (some bx)):J s W':=
 h s W W' (some bx) hs hg (fun r e=>.inl (by cases e;rfl))
def RunsB {α:Type} (F:Fence) (n:Nat) (P:Program) (g:Nat) (lb:Array Value) (encs:α→Array Value) (Kp:World→World→Prop) (S:List α→Prop) (N:Nat) (w:World) (bx:Nat):Prop:=
 ∀ (l:Nat) (J:List α→World→Prop) (W:World),Below w.heap.size w W→AbB W.heap.size bx J→
  (∀ pre x W1,J pre W1→pre.length < N→YieldAt F (n-1) P l (encs x) W1 fun e W'=>e=.returned (.bool true)∧J (pre++[x]) W'∧Kp W1 W')→
  J [] W→CallsIn F n P g (#[.func (.yield l) #[] #[]]++lb) W fun e W'=>(∃ v,e=.returned v)∧∃ xs,S xs∧J xs W'
theorem range_box {F:Fence} {n:Nat} {P:Program} {α:Type} {g:Operand} {ps:Array Tmp} {assign body:Code} {Q:Exit→Act→World→Prop} {a:Act} {w:World}
 (hro:F.round=none) (h1:1≤n) {gf:Nat} {lb:Array Value} (hg:a.eval g=.func (.func gf) #[] lb) (hFg:F.fn gf) (eg:∀ args w,(callFunc gf args).run P w=.ok (.enter gf args) w)
 {encs:α→Array Value} {Kp:World→World→Prop} {S:List α→Prop} {N:Nat} {w0:World} {bx:Nat} (hseq:RunsB F (n-1) P gf lb encs Kp S N w0 bx)
 (hKt:∀ {A B C:World},Kp A B→Kp B C→Kp A C) (hKb:∀ (W:World) (l:Nat) (o o':Obj),w.heap.size≤l→W.heap[l]?=some o→o.isCells=false→o.isWalk=false→Kp W (W.putObj l o'))
 (hb0:Below w0.heap.size w0 w) (hps:∀ x,(encs x).size=ps.size) (hbx:bx < w.heap.size)
 (I:List α→World→Prop) (hI:OwB w.heap.size bx I) (h0:I [] w) (Ax:α→Act→World→Prop) (hAx:∀ x a',OwnFrom w.heap.size (fun (_:Unit) W=>Ax x a' W))
 (hassign:∀ (l:Nat) (pre:List α) (x:α) (W:World) (K:Act→World→Prop),I pre W→(∀ a' W',KeepsFrom w.heap.size W W'→Kp W W'→I pre W'→Ax x a' W'→K a' W')→
  assign.wpIn (F.inRound l) (n-1-1) P (Exit.then K (fun _ _ _=>False)) { tmps:=(ps.zip (encs x)).foldl (fun t (p,v)=>t.setIfInBounds p v) a.tmps,defers:=[] } W)
 (hbody:∀ (l:Nat) (pre:List α) (x:α) (a':Act) (W:World),I pre W→Ax x a' W→pre.length < N→
  body.wpIn (F.inRound l) (n-1-1) P (fun e _ W'=>e=.normal∧KeepsFrom w.heap.size W W'∧Kp W W'∧I (pre++[x]) W') a' W)
 (hdone:∀ (D:Nat) (xs:List α) (W:World),w.heap.size≤D→S xs→I xs W→W.heap[D]?=some (.deferred (some []))→Q .normal { a with defers:={ target:=.collected D,args:=#[] } :: a.defers } W) :
 (Code.rangeFunc g ps assign body).wpIn F n P Q a w:=by
 -- d: the block of what the rounds defer;r: the loop's record
 obtain ⟨d,hd⟩:∃ d,d=w.heap.size:=⟨_,rfl⟩
 have hO:=hI.own
 refine wpIn_rangeFunc fun fn hfn=>?_
 rw [hro]
 let rec_:LoopState→Option Code→Loop:=fun st pe=>{ state:=st,pending:=pe,fn,tmps:=a.tmps,params:=ps,assign,body,defers:=d }
 have rec_d:∀ st pe,(rec_ st pe).params=ps:=fun _ _=>rfl
 -- what lies in the two blocks
 let Bk:Loop→World→Prop:=fun r W=>W.heap[d]?=some (.deferred (some []))∧W.heap[d+1]?=some (.loop r)
 have bk_keep:∀ {r:Loop} {A B:World},Bk r A→KeepsFrom d A B→Bk r B:=fun h k=>⟨k.same _ _ (Nat.le_refl _) h.1 rfl,k.same _ _ (by omega) h.2 rfl⟩
 have bk_put:∀ {r r':Loop} {A:World},Bk r A→Bk r' (A.putObj (d+1) (.loop r')):=fun {r r' A} h=>
  ⟨(World.putObj_heap_other (by omega)).trans h.1,World.putObj_heap_same (Array.getElem?_eq_some_iff.1 h.2).1⟩
 obtain ⟨W1,hW1⟩:∃ W1,W1=(w.alloc (.deferred (some []))).alloc (.loop (rec_ .ready none)):=⟨_,rfl⟩
 have hz1:W1.heap.size=d+2:=by rw [hW1,hd];simp
 have hB1:Below w.heap.size w W1:=by rw [hW1];exact ((Below.refl _ w).alloc (Nat.le_refl _) _).alloc (by simp) _
 have hbk1:Bk (rec_ .ready none) W1:=by
  rw [hW1]
  refine ⟨(Below.heap_alloc _ _ _ (by rw [hd];simp)).trans (by rw [hd];exact World.alloc_heap_new w _),?_⟩
  have:=World.alloc_heap_new (w.alloc (.deferred (some []))) (.loop (rec_ .ready none))
  rw [World.size_alloc,←hd] at this
  exact this
 have hI1:I [] W1:=by rw [hW1];exact hO.alloc _ (hO.alloc _ h0)
 refine ⟨d+1,[{ target:=.collected d,args:=#[] }],W1,{ target:=.fn (.func gf) lb,args:=#[.func (.yield (d+1)) #[] #[]] },W1,gf,#[.func (.yield (d+1)) #[] #[]]++lb,W1,
  by subst hd;rw [hW1];exact run_enterLoop_outer _ _ _ _ _,by simp only [resolve,hg];simp [go_sem],fun f' hf'=>by simp [Target.leads] at hf';subst hf';exact hFg,by simp [invoke,go_sem,eg],fun _=>h1,?_⟩
 refine (hseq (d+1) (fun pre W=>I pre W∧Bk (rec_ .ready none) W) W1 (hb0.trans (hB1.mono hb0.size)) ?ab ?round ⟨hI1,hbk1⟩).mono ?behind
 case ab=>
  rintro s A B row ⟨hi,hk⟩ hgr hr
  have hne:∀ q,q=d∨q=d+1→some q≠row:=fun q hq e=>by
   rcases hr q e.symm with h | h
   · omega
   · have:=h.1;omega
  refine ⟨hI s A B row hi hgr fun r e=>?_,?_,?_⟩
  · rcases hr r e with h | ⟨h,o,ho,hw⟩
    · exact .inl h
    · exact .inr ⟨by omega,o,ho,Obj.not_cells_of_walk hw⟩
  · exact (hgr.block d (Array.getElem?_eq_some_iff.1 hk.1).1 (hne d (.inl rfl))).trans hk.1
  · exact (hgr.block (d+1) (Array.getElem?_eq_some_iff.1 hk.2).1 (hne (d+1) (.inr rfl))).trans hk.2
 case round=>
  rintro pre x W ⟨hi,hk⟩ hlen
  refine ⟨fn,_,assign,body,run_yield (P:=P) (args:=encs x) hk.2 (hps x),roundIn_of_wpIn hfn (hassign _ pre x W _ hi fun a' Wa hka hkp hia hax=>?_)⟩
  have hk2:=bk_keep hk (by subst hd;exact hka)
  refine ⟨_,run_beginRound hk2.2 rfl,?_⟩
  have hk3:Bk (rec_ .busy none) (Wa.putObj (d+1) (.loop (rec_ .busy none))):=bk_put hk2
  have hp1:Kp Wa (Wa.putObj (d+1) (.loop (rec_ .busy none))):=hKb _ _ _ _ (by omega) hk2.2 rfl rfl
  refine wpIn_mono (hbody _ pre x a' _ (hO.putObj _ hia (by omega) hk2.2 rfl) ((hAx x a').putObj (s:=()) _ hax (by omega) hk2.2 rfl) hlen) ?_
  rintro e a3 W3 ⟨rfl,hk4,hkp4,hi4⟩
  have hk5:=bk_keep hk3 (by subst hd;exact hk4)
  exact ⟨_,_,run_endRound (P:=P) none hk5.2,rfl,⟨hO.putObj _ hi4 (by omega) hk5.2 rfl,bk_put hk5⟩,hKt hkp (hKt hp1 (hKt hkp4 (hKb _ _ _ _ (by omega) hk5.2 rfl rfl)))⟩
 case behind=>
  rintro e W2 ⟨⟨v,rfl⟩,xs,hS,hi,hk⟩
  refine ⟨none,_,run_endLoop (P:=P) hk.2 (by simp [rec_]),?_⟩
  exact hdone d xs _ (by omega) hS (hO.putObj _ hi (by omega) hk.2 rfl) ((World.putObj_heap_other (by omega)).trans hk.1)
end Go.Proofs.YtbnganlfelgogaaGreat
namespace Go.Proofs.YtbnganlfelgogaaGreat
open Go.RowKit
def rnI (p:Int→Bool) (zs:List Int) (k:Nat):Int:=idx (fun j=>p (gz (zs.drop k) j) != p (gz zs k)) (zs.length-k)
def rnN (p:Int→Bool) (zs:List Int) (k:Nat):Nat:=if rnI p zs k < 0 then zs.length-k else (rnI p zs k).toNat
theorem gz_drop (zs:List Int) (k j:Nat):gz (zs.drop k) j=gz zs (k+j):=by
 unfold gz
 rw [List.getD_eq_getElem?_getD,List.getD_eq_getElem?_getD,List.getElem?_drop]
theorem idx_lt {pr:Nat→Bool}:∀ {n:Nat},0≤idx pr n→(idx pr n).toNat < n∧pr (idx pr n).toNat=true
 | n,h=>by
  rcases Classical.em (∃ j,j < n∧pr j=true) with he | he
  · obtain ⟨j,hj,hp⟩:=he
    have:∃ k,pr k=true∧(∀ i,i < k→pr i=false)∧k≤j:=by
     induction j using Nat.strongRecOn with
     | _ j ih=>
      by_cases e:∃ i,i < j∧pr i=true
      · obtain ⟨i,hi,hpi⟩:=e
        obtain ⟨k,h1,h2,h3⟩:=ih i hi (by omega) hpi
        exact ⟨k,h1,h2,by omega⟩
      · refine ⟨j,hp,fun i hi=>?_,Nat.le_refl _⟩
        cases hq:pr i with
        | false=>rfl
        | true=>exact absurd ⟨i,hi,hq⟩ e
    obtain ⟨k,h1,h2,h3⟩:=this
    rw [idx_hit h1 h2 (by omega)]
    exact ⟨by show k < n;omega,h1⟩
  · rw [idx_none (fun j hj=>by
     cases hq:pr j with
     | false=>rfl
     | true=>exact absurd ⟨j,hj,hq⟩ he)] at h
    omega
theorem rnN_bound (p:Int→Bool) (zs:List Int) {k:Nat} (h:k < zs.length):1≤rnN p zs k∧k+rnN p zs k≤zs.length:=by
 unfold rnN
 split
 · omega
 · rename_i hn
   have h1:=idx_lt (pr:=fun j=>p (gz (zs.drop k) j) != p (gz zs k)) (n:=zs.length-k) (by show 0≤rnI p zs k;omega)
   have h2:(rnI p zs k).toNat < zs.length-k:=h1.1
   have h3:(p (gz (zs.drop k) (rnI p zs k).toNat) != p (gz zs k))=true:=h1.2
   refine ⟨?_,by omega⟩
   rcases Nat.eq_zero_or_pos (rnI p zs k).toNat with e | e
   · rw [e,gz_drop,Nat.add_zero] at h3
     simp at h3
   · exact e
def rns (p:Int→Bool) (zs:List Int):Nat→Nat→List (Nat × Nat)
 | 0,_=>[]
 | n+1,k=>if k < zs.length then (k,rnN p zs k) :: rns p zs n (k+rnN p zs k) else []
theorem rns_end (p:Int→Bool) (zs:List Int) {k:Nat} (h:zs.length≤k):∀ n,rns p zs n k=[]
 | 0=>rfl
 | n+1=>by unfold rns;rw [if_neg (by omega)]
theorem rns_step (p:Int→Bool) (zs:List Int) {n k:Nat} (h:k < zs.length):rns p zs (n+1) k=(k,rnN p zs k) :: rns p zs n (k+rnN p zs k):=by
 conv=>lhs;unfold rns
 rw [if_pos h]
theorem rns_fuel (p:Int→Bool) (zs:List Int):∀ n k,zs.length-k≤n→rns p zs n k=rns p zs (zs.length-k) k
 | 0,k,h=>by rw [show zs.length-k=0 by omega]
 | n+1,k,h=>by
  by_cases hk:k < zs.length
  · have hb:=rnN_bound p zs hk
    obtain ⟨q,hq⟩:∃ q,zs.length-k=q+1:=⟨zs.length-k-1,by omega⟩
    rw [hq,rns_step p zs hk,rns_step p zs hk,rns_fuel p zs n _ (by omega),rns_fuel p zs q _ (by omega)]
  · rw [rns_end p zs (by omega),rns_end p zs (by omega)]
def runsL (p:Int→Bool) (zs:List Int):List (Nat × Nat):=rns p zs zs.length 0
theorem runs_next (p:Int→Bool) (zs:List Int) {k:Nat} (h:k < zs.length):rns p zs (zs.length-k) k=(k,rnN p zs k) :: rns p zs (zs.length-(k+rnN p zs k)) (k+rnN p zs k):=by
 have hb:=rnN_bound p zs h
 obtain ⟨q,hq⟩:∃ q,zs.length-k=q+1:=⟨zs.length-k-1,by omega⟩
 rw [hq,rns_step p zs h,rns_fuel p zs q _ (by omega)]
theorem rns_mem (p:Int→Bool) (zs:List Int):∀ n k x,x ∈ rns p zs n k→x.1 < zs.length∧x.2=rnN p zs x.1
 | 0,_,_,h=>by cases h
 | n+1,k,x,h=>by
  by_cases hk:k < zs.length
  · rw [rns_step p zs hk] at h
    rcases List.mem_cons.1 h with e | e
    · subst e;exact ⟨hk,rfl⟩
    · exact rns_mem p zs n _ x e
  · rw [rns_end p zs (by omega)] at h;cases h
theorem rns_len (p:Int→Bool) (zs:List Int):∀ n k,(rns p zs n k).length≤zs.length-k
 | 0,_=>Nat.zero_le _
 | n+1,k=>by
  by_cases hk:k < zs.length
  · rw [rns_step p zs hk,List.length_cons]
    have:=rns_len p zs n (k+rnN p zs k)
    have:=rnN_bound p zs hk
    omega
  · rw [rns_end p zs (by omega)];exact Nat.zero_le _
def rnW (zs:List Int) (x:Nat × Nat):List Int:=(zs.drop x.1).take x.2
def wdsOf (p:Int→Bool) (zs:List Int) (l:List (Nat × Nat)):List (List Int):=(l.filter fun x=>!p (gz zs x.1)).map (rnW zs)
theorem wdsOf_snoc (p:Int→Bool) (zs:List Int) (l:List (Nat × Nat)) (x:Nat × Nat):wdsOf p zs (l++[x])=if p (gz zs x.1) then wdsOf p zs l else wdsOf p zs l++[rnW zs x]:=by
 unfold wdsOf
 rw [List.filter_append]
 cases h:p (gz zs x.1) <;> simp [h]
end Go.Proofs.YtbnganlfelgogaaGreat
namespace Go.Proofs.YtbnganlfelgogaaGreat
open Go.RowKit Go.Shelf Go.Sort
attribute [local go_sem] Oper.semAt_some
theorem enters155:∀ (args:Array Value) (w:World),(callFunc 155 args).run Tryz.prog w=.ok (.enter 155 args) w:=enters_of' Tryz.func155 (by kernel_rfl) rfl
theorem runsIn_any (f:Fnt) (v vs:Value) (bf bs:Nat) (sp:Bool) (s:Int) (w:World) (hv:SoV w f.sorts v) (hF:Blk w bf 189 (xfs f v vs)) (hS:Blk w bs 4 #[.bool sp]) (hs:0≤s∧s < f.sorts.length) (hm:f.sorts.length≤1000) :
 Calls Tryz.prog 155 #[.int .i64 s,.pointer (some ⟨bf,0,none⟩),.pointer (some ⟨bs,0,none⟩)] w fun e w'=>e=.returned (.bool (spB f s != sp))∧Below w.heap.size w w':=by
 have HC:Hid (∀ d os,Calls Tryz.prog 154 #[.agg (xfs f v vs),.int .i64 s] (grow (redrawn w d) os) fun e w''=>e=.returned (.bool (spB f s))∧∃ p:Regrown,w''=grow (redrawn w p.d) p.os):=(show ∀ d os,_ from fun d os=>Calls.regrown_of (isSpaceF_any f v vs s _ (hv.below (below_regrown w d os)) hs hm))
 have c0:=cell_regrown (hF.cell 0)
 have c1:=cell_regrown (hF.cell 1)
 have c2:=cell_regrown (hF.cell 2)
 have c3:=cell_regrown (hF.cell 3)
 have d0:=cell_regrown (hS.cell 0)
 obtain ⟨A,c,rfl⟩:=hv.shape
 generalize spB f s=b at *
 clear hv hF hS
 have hbd:=below_regrown w
 go_enter Tryz.func155,Tryz.ntmps155
 go_upto_region 1 with fail
 refine wp_region_quiet_below (by kernel_rfl) (by kernel_rfl) ?_
 repeat (first | go_big_quiet_step (exact HC.out _ _) | quiet_step (exact HC.out _ _))
 refine wpQuiet_nil ?_
 intro _ hw'
 obtain ⟨⟨dq,osq⟩,hw''⟩:=hw'
 subst hw''
 have b5:=hbd dq osq
 generalize grow (redrawn w dq) osq=w5 at *
 go_wp2_with fail
 go_ret
 exact ⟨rfl,b5⟩
def KpR (m bx bf:Nat) (A B:World):Prop:=Below m A B∧B.heap[bx]?=A.heap[bx]?∧B.heap[bf]?=A.heap[bf]?
theorem kpR_t {m bx bf:Nat} {A B C:World} (h:KpR m bx bf A B) (k:KpR m bx bf B C):KpR m bx bf A C:=⟨h.1.trans k.1,k.2.1.trans h.2.1,k.2.2.trans h.2.2⟩
structure RW (wm W:World) (f:Fnt) (v vs:Value) (zs:List Int) (b off c bx bf k:Nat):Prop where
 B:Below wm.heap.size wm W
 x:∃ A cc,Blk W bx 34 #[.slice A (zs.length-k) cc]∧(k < zs.length→A=some ⟨b,off+k,none⟩∧cc=c-k)
 p:Blk W bf 189 (xfs f v vs)
theorem RW.at {wm W:World} {f:Fnt} {v vs:Value} {zs:List Int} {b off c bx bf k:Nat} (h:RW wm W f v vs zs b off c bx bf k) (hk:k < zs.length):Blk W bx 34 #[.slice (some ⟨b,off+k,none⟩) (zs.length-k) (c-k)]:=by
 obtain ⟨A,cc,h1,h2⟩:=h.x
 obtain ⟨rfl,rfl⟩:=h2 hk
 exact h1
theorem RW.below {wm W W':World} {f:Fnt} {v vs:Value} {zs:List Int} {b off c bx bf k:Nat} (h:RW wm W f v vs zs b off c bx bf k) (hb:Below W.heap.size W W'):RW wm W' f v vs zs b off c bx bf k:=by
 obtain ⟨A,cc,h1,h2⟩:=h.x
 exact ⟨h.B.trans (hb.mono h.B.size),⟨A,cc,h1.below hb h1.lt,h2⟩,h.p.below hb h.p.lt⟩
theorem RW.kp {wm W W':World} {f:Fnt} {v vs:Value} {zs:List Int} {b off c bx bf k:Nat} (h:RW wm W f v vs zs b off c bx bf k) (hb:KpR wm.heap.size bx bf W W'):RW wm W' f v vs zs b off c bx bf k:=by
 obtain ⟨A,cc,h1,h2⟩:=h.x
 exact ⟨h.B.trans hb.1,⟨A,cc,hb.2.1.trans h1,h2⟩,hb.2.2.trans h.p⟩
theorem grownBy_setCell0 (W:World) (g o:Nat) (v:Value):W.grownBy (W.setCell ⟨g,o,none⟩ v) (some g):=
 ⟨rfl,rfl,rfl,by simp [World.setCell],fun k _ hn=>Below.heap_setCell _ _ _ _ (fun e=>hn (by rw [e]))⟩
theorem RW.put {wm W:World} {f:Fnt} {v vs:Value} {zs:List Int} {b off c bx bf k k':Nat} (h:RW wm W f v vs zs b off c bx bf k) (hne:bx≠bf) (hlo:wm.heap.size≤bx) (A:Option Addr) (n cc:Nat) (hn:n=zs.length-k')
 (hA:k' < zs.length→A=some ⟨b,off+k',none⟩∧cc=c-k'):RW wm (W.setCell ⟨bx,0,none⟩ (.slice A n cc)) f v vs zs b off c bx bf k':=by
 obtain ⟨A0,cc0,h1,h2⟩:=h.x
 subst hn
 exact ⟨h.B.setCell (p:=⟨bx,0,none⟩) hlo _,⟨A,cc,h1.set_ 0 _,hA⟩,h.p.grown (grownBy_setCell0 _ _ _ _) (fun e=>hne (by cases e;rfl))⟩
def lenB (bx:Nat) (W:World):Nat:=match W.cell? ⟨bx,0,none⟩ with | some (.slice _ n _)=>n | _=>0
theorem RW.len {wm W:World} {f:Fnt} {v vs:Value} {zs:List Int} {b off c bx bf k:Nat} (h:RW wm W f v vs zs b off c bx bf k):lenB bx W=zs.length-k:=by
 obtain ⟨A,cc,h1,h2⟩:=h.x
 unfold lenB
 rw [h1.cell 0]
 rfl
abbrev Rn (N:Nat):={ x:Nat × Nat // x.1 < N∧x.1+x.2≤N }
abbrev encR (f:Fnt) (zs:List Int) (b off c:Nat) {N:Nat} (x:Rn N):Array Value:=#[.agg #[.bool (spB f (gz zs x.1.1)),.slice (some ⟨b,off+x.1.1,none⟩) x.1.2 (c-x.1.1)]]
theorem runs_gives (f:Fnt) (v vs:Value) (zs:List Int) (b off c bx bf:Nat) (wm w:World) (hv:SoV wm f.sorts v) (hb:b < wm.heap.size) (hz:ZsAt wm b off zs) (N:Nat) (hN:zs.length=N) (hc:N≤c) (hc2:c≤9223372036854775807) (hin:InF f zs) (hm:N≤1000000) (hf:f.sorts.length≤1000)
 (hw:RW wm w f v vs zs b off c bx bf 0) (hne:bx≠bf) (hlo:wm.heap.size≤bx) (n:Nat) (hn:2≤n) :
 RunsB Fence.wide n Tryz.prog 153 #[.pointer (some ⟨bx,0,none⟩),.pointer (some ⟨bf,0,none⟩)] (encR f zs b off c (N:=N)) (KpR wm.heap.size bx bf) (fun xs=>xs.map Subtype.val=runsL (spB f) zs) N w bx:=fun l J W hW hJ hY h0=>by
 have HSW:=Lib.hid (hw.below hW)
 have HV:=Lib.hid hv
 have HZ:=Lib.hid hz
 have HIN:=Lib.hid hin
 have HJ:=Lib.hid hJ
 have HY:=Lib.hid hY
 have HST:Hid (List.map Subtype.val ([]:List (Rn N))++rns (spB f) zs (N-0) 0=runsL (spB f) zs):=(show _=_ from by rw [←hN];rfl)
 have HRN:Hid (∀ k,k < N→rns (spB f) zs (N-k) k=(k,rnN (spB f) zs k) :: rns (spB f) zs (N-(k+rnN (spB f) zs k)) (k+rnN (spB f) zs k)∧1≤rnN (spB f) zs k∧k+rnN (spB f) zs k≤N):=(show ∀ k,_ from fun k h=>by
  rw [←hN] at h ⊢
  exact ⟨runs_next _ _ h,rnN_bound _ _ h⟩)
 have HRL:Hid (∀ pre l,pre++l=runsL (spB f) zs→pre.length+l.length≤N):=(show ∀ pre l,_ from fun pre l h=>by
  have h1:=rns_len (spB f) zs zs.length 0
  rw [←List.length_append,h,←hN];exact h1)
 have hwx:=hw.below hW
 obtain ⟨Av,cv,rfl⟩:=hv.shape
 clear hv hz hin hw hW hJ hY
 have HBX:Hid (b < wm.heap.size):=hb
 have HN:=Lib.hid hN
 clear hN
 refine callsIn_of_wp Tryz.func153 rfl trivial ?_ rfl
 simp only [Tryz.ntmps153,List.size_toArray,List.length_cons,List.length_nil,Nat.reduceAdd,Nat.reduceSub,Array.replicate_succ,Array.replicate_zero,List.push_toArray,List.append_toArray,List.nil_append,List.cons_append]
 gi_wp2
 gi_loopw [5] (fun s5 wr=>∃ (k:Nat) (pre:List (Rn N)),k≤N∧Hid (pre.map Subtype.val++rns (spB f) zs (N-k) k=runsL (spB f) zs)∧Hid (J pre wr)∧Hid (RW wm wr f (.slice Av f.sorts.length cv) vs zs b off c bx bf k)) (fun s5 wr=>lenB bx wr)
 case atStart=>exact ⟨0,[],by omega,HST.out,h0,HSW.out⟩
 case round=>
  obtain ⟨k,pre,hk,HPRE,HJS,HS⟩:=hrel
  have HLB:=Lib.hid HS.out.len
  obtain ⟨A0,cc0,hxx,hAA⟩:=HS.out.x
  have x0:=hxx.cell 0
  have xl:=hxx.lt
  have x0f:=Blk.frozen hxx 0
  have p0:=HS.out.p.cell 0
  have p1:=HS.out.p.cell 1
  have p2:=HS.out.p.cell 2
  have p3:=HS.out.p.cell 3
  have pl:=HS.out.p.lt
  by_cases hlt:k < N
  · have hpz:(0:Int) < ((zs.length-k:Nat):Int):=by have:=HN.out;omega
    have HKL:Hid (k < zs.length):=(show _ < _ from by rw [HN.out];exact hlt)
    obtain ⟨rfl,rfl⟩:=hAA HKL.out
    have z0:=(HS.out.B.cell (p:=⟨b,off+k,none⟩) HBX.out).trans (HZ.out k (by rw [HN.out];exact hlt))
    have hgk:0≤gz zs k∧gz zs k < (f.sorts.length:Int):=HIN.out k (by rw [HN.out];exact hlt)
    have HGK:=Lib.hid hgk
    have HC1:Hid (∀ W,Below wr.heap.size wr W→Calls Tryz.prog 154 #[.agg (xfs f (.slice Av f.sorts.length cv) vs),.int .i64 (gz zs k)] W fun e w'=>e=.returned (.bool (spB f (gz zs k)))∧Below W.heap.size W w'):=(show ∀ W,_ from fun W hW=>isSpaceF_any f _ vs (gz zs k) W (HV.out.below (HS.out.B.trans (hW.mono HS.out.B.size))) HGK.out hf)
    have HKS:Hid (∀ W,Below wr.heap.size wr W→(W.cell? ⟨bx,0,none⟩=some (.slice (some ⟨b,off+k,none⟩) (N-k) (c-k))∧W.cell? ⟨b,off+k,none⟩=some (.int .i64 (gz zs k)))):=(show ∀ W,_ from fun W hW=>⟨by rw [←HN.out];exact ((HS.out.below hW).at HKL.out).cell 0,(hW.cell (p:=⟨b,off+k,none⟩) (by have:=HS.out.B.size;have:=HBX.out;show b < _;omega)).trans z0⟩)
    rw [HN.out] at x0 hpz
    clear hgk
    have HKF:Hid (∀ W,Below wr.heap.size wr W→(W.cell? ⟨bf,0,none⟩=some (.string f.name)∧W.cell? ⟨bf,1,none⟩=some (.int .i64 f.body)∧W.cell? ⟨bf,2,none⟩=some (.slice Av f.sorts.length cv)∧W.cell? ⟨bf,3,none⟩=some vs)∧(W.cell? ⟨bx,0,none⟩=some (.slice (some ⟨b,off+k,none⟩) (N-k) (c-k))∧W.cell? ⟨b,off+k,none⟩=some (.int .i64 (gz zs k)))):=(show ∀ W,_ from fun W hW=>⟨⟨(HS.out.below hW).p.cell 0,(HS.out.below hW).p.cell 1,(HS.out.below hW).p.cell 2,(HS.out.below hW).p.cell 3⟩,HKS.out W hW⟩)
    gi_wp2_with fail
    refine wpIn_wide.2 ?_
    have hbd:Below wr.heap.size wr wr.drew:=(Below.refl _ _).drew
    have hba:Below wr.heap.size wr (wr.alloc (.cells #[.bool false] 4)).drew:=(below_new wr _).drew
    have hqn:Blk (wr.alloc (.cells #[.bool false] 4)).drew wr.heap.size 4 #[.bool false]:=Blk.new wr 4 #[.bool false]
    have hS0:=HKF.out wr.drew hbd
    clear hxx hAA x0 xl x0f p0 p1 p2 p3 pl z0
    go_region_held3 (fun W=>(W.cell? ⟨bf,0,none⟩=some (.string f.name)∧W.cell? ⟨bf,1,none⟩=some (.int .i64 f.body)∧W.cell? ⟨bf,2,none⟩=some (.slice Av f.sorts.length cv)∧W.cell? ⟨bf,3,none⟩=some vs)∧(W.cell? ⟨bx,0,none⟩=some (.slice (some ⟨b,off+k,none⟩) (N-k) (c-k))∧W.cell? ⟨b,off+k,none⟩=some (.int .i64 (gz zs k))))
     (first
      | exact hS0
      | exact HKF.out _ hb5
      | exact HKF.out _ hba
      | exact HKF.out _ (hb5.alloc hb5.size _)
      | exact HKF.out _ (hb5.setCell (p:=⟨wr.heap.size,0,none⟩) (Nat.le_refl _) _)
      | go_keep)
     ((first
       | (go_at_call 154;(with_reducible refine (HC1.out wr.drew hbd).mono ?_);rintro e w5 ⟨rfl,hb5'⟩;have hb5:Below wr.heap.size wr w5:=hbd.trans (hb5'.mono hbd.size))
       | (go_at_call 154;(with_reducible refine (HC1.out _ hba).mono ?_);rintro e w5 ⟨rfl,hb5'⟩;have hb5:Below wr.heap.size wr w5:=hba.trans (hb5'.mono hba.size);have qb:Blk w5 wr.heap.size 4 #[.bool false]:=hqn.below hb5' hqn.lt;have q0:=qb.cell 0;have q0f:=Blk.frozen qb 0;have q0l:=qb.lt)))
    all_goals
     (first
      | (have HQ6:Hid (Blk (w5.setCell ⟨wr.heap.size,0,none⟩ (.bool (spB f (gz zs k)))) wr.heap.size 4 #[.bool (spB f (gz zs k))]):=(show Blk _ _ _ _ from by have:=qb.set_ 0 (.bool (spB f (gz zs k)));simpa using this)
         have HB6:Hid (Below wr.heap.size wr (w5.setCell ⟨wr.heap.size,0,none⟩ (.bool (spB f (gz zs k))))):=hb5.setCell (p:=⟨wr.heap.size,0,none⟩) (Nat.le_refl _) _
         clear hb5 hb5' qb q0 q0f q0l hqn hba hbd hS0
         obtain ⟨bs,hbs⟩:∃ bs,wr.heap.size=bs:=⟨_,rfl⟩
         rw [hbs] at HQ6 ⊢
         have HB6:Hid (Below wr.heap.size wr (w5.setCell ⟨bs,0,none⟩ (.bool (spB f (gz zs k))))):=by rw [←hbs];exact HB6
         generalize w5.setCell ⟨bs,0,none⟩ (.bool (spB f (gz zs k)))=w6 at *
         clear hbs)
      | (have HQ6:Hid (Blk (w5.alloc (.cells #[.bool (spB f (gz zs k))] 4)) w5.heap.size 4 #[.bool (spB f (gz zs k))]):=Blk.new w5 4 _
         have HB6:Hid (Below wr.heap.size wr (w5.alloc (.cells #[.bool (spB f (gz zs k))] 4))):=hb5.alloc hb5.size _
         clear hb5 hb5' hqn hba hbd hS0
         generalize w5.alloc (.cells #[.bool (spB f (gz zs k))] 4)=w6 at *
         generalize w5.heap.size=bs at *))
    all_goals
     (have HS6:=Lib.hid (HS.out.below HB6.out)
      have HJ6:Hid (J pre w6):=HJ.out.below HJS.out HB6.out
      have hdl:(zs.drop k).length=N-k:=by rw [List.length_drop,HN.out]
      have HC2:Hid (Calls Tryz.prog 148 #[.slice (some ⟨b,off+k,none⟩) (N-k) (c-k),.func (.func 155) #[] #[.pointer (some ⟨bf,0,none⟩),.pointer (some ⟨bs,0,none⟩)]] w6 fun e w'=>e=.returned (.int .i64 (rnI (spB f) zs k))∧Below w6.heap.size w6 w'):=(show Calls _ _ _ _ _ from by
       have h1:=indexI_any 155 #[.pointer (some ⟨bf,0,none⟩),.pointer (some ⟨bs,0,none⟩)] (some ⟨b,off+k,none⟩) b (off+k) (N-k) (c-k) (zs.drop k) (fun s=>spB f s != spB f (gz zs k)) w6
        (fun W' j hW' hj=>(runsIn_any f (.slice Av f.sorts.length cv) vs bf bs (spB f (gz zs k)) (gz (zs.drop k) j) W' (HV.out.below (HS6.out.B.trans (hW'.mono HS6.out.B.size))) (HS6.out.below hW').p (HQ6.out.below hW' HQ6.out.lt) (by rw [gz_drop];exact HIN.out (k+j) (by rw [HN.out];omega)) hf).mono fun e w' h=>⟨h.1,hW'.trans (h.2.mono hW'.size)⟩)
        hdl.symm (by omega) (fun _=>⟨rfl,by have:=HS6.out.B.size;have:=HBX.out;omega⟩) enters155 (fun j hj=>by
         rw [gz_drop,Nat.add_assoc]
         exact (HS6.out.B.cell (p:=⟨b,off+(k+j),none⟩) HBX.out).trans (HZ.out (k+j) (by rw [hdl] at hj;rw [HN.out];omega)))
       unfold rnI
       rw [HN.out]
       exact h1)
      obtain ⟨hrn,hm1,hm2⟩:=HRN.out k hlt
      have hix:(rnI (spB f) zs k < 0∧rnN (spB f) zs k=N-k)∨rnI (spB f) zs k=(rnN (spB f) zs k:Int):=by
       unfold rnN
       rw [HN.out]
       by_cases h:rnI (spB f) zs k < 0
       · exact .inl ⟨h,if_pos h⟩
       · rw [if_neg h];exact .inr (Int.toNat_of_nonneg (by omega)).symm
      have HRN1:=Lib.hid hrn
      have x0:=(HS6.out.at HKL.out).cell 0
      rw [HN.out] at x0
      have xl:=(HS6.out.at HKL.out).lt
      have q0:=HQ6.out.cell 0
      have ql:=HQ6.out.lt
      have pl:=HS6.out.p.lt
      clear hrn hdl HKS HKF HC1
      generalize rnI (spB f) zs k=ii at *
      generalize rnN (spB f) zs k=m at *
      have HEN:Hid (∀ W7,Below w6.heap.size w6 W7→RW wm W7 f (.slice Av f.sorts.length cv) vs zs b off c bx bf k∧J pre W7∧Blk W7 bs 4 #[.bool (spB f (gz zs k))]):=(show ∀ W7,_ from fun W7 h7=>⟨HS6.out.below h7,HJ.out.below HJ6.out h7,HQ6.out.below h7 HQ6.out.lt⟩)
      rcases hix with ⟨hneg,hme⟩ | rfl
      · have hii:ii < 0:=hneg
        obtain rfl:m=N-k:=hme
        clear hneg
        gi_wp2_with (first
         | (refine ⟨trivial,(fun _=>by omega),?_⟩;gi_at_call 148;refine (callsIn_wide.2 HC2.out).mono ?_;rintro e w7 ⟨rfl,hb7⟩;have h7:=HEN.out w7 hb7;have x7:=(h7.1.at HKL.out).cell 0;rw [HN.out] at x7;have xl7:=(h7.1.at HKL.out).lt;have q7:=h7.2.2.cell 0;have ql7:=h7.2.2.lt))
        have h7d:=HEN.out w7.drew hb7.drew
        have hlen:pre.length < N:=by
         have h1:=HRL.out _ _ HPRE.out
         rw [HRN1.out,List.length_cons,List.length_map] at h1
         omega
        obtain ⟨fn,tmps,assign,body,hy,hR⟩:=HY.out pre ⟨(k,(N-k)),⟨hlt,hm2⟩⟩ w7.drew h7d.2.1 hlen
        have HS7:=Lib.hid h7d.1
        dsimp only [encR] at hy
        have HLB0:=Lib.hid HLB.out
        clear h7 h7d HS6 HJ6 HQ6 HEN HC2 HJS HLB hlen
        gi_region_with (refine ⟨(fun _=>by omega),hR.mono ?_⟩;rintro e W8 ⟨rfl,hJ8,hk8⟩;have HS8:=Lib.hid (HS7.out.kp hk8);have HJ8:=Lib.hid hJ8;have x8:=(HS8.out.at HKL.out).cell 0;rw [HN.out] at x8;have xl8:=(HS8.out.at HKL.out).lt;have x8f:=Blk.frozen (HS8.out.at HKL.out) 0)
        all_goals
         (clear x7 xl7 q7 ql7 hk8 hR hy
          gi_wp2
          refine ⟨⟨k+(N-k),pre++[⟨(k,(N-k)),⟨hlt,hm2⟩⟩],by omega,(show _=_ from by rw [List.map_append,List.map_cons,List.map_nil,List.append_assoc,List.singleton_append,←HRN1.out];exact HPRE.out),HJ.out.box HJ8.out (grownBy_setCell0 _ _ _ _),HS8.out.put hne hlo _ _ _ (by rw [HN.out];omega) (fun h=>⟨by rw [HN.out] at h;rw [if_neg (by omega),Nat.add_assoc],by omega⟩)⟩,?_⟩
          rw [HLB0.out,(HS8.out.put (k':=k+(N-k)) hne hlo _ _ _ (by rw [HN.out];omega) (fun h=>⟨by rw [HN.out] at h;rw [if_neg (by omega),Nat.add_assoc],by omega⟩)).len,HN.out]
          omega)
      · have hii:¬(m:Int) < 0:=by omega
        gi_wp2_with (first
         | (refine ⟨trivial,(fun _=>by omega),?_⟩;gi_at_call 148;refine (callsIn_wide.2 HC2.out).mono ?_;rintro e w7 ⟨rfl,hb7⟩;have h7:=HEN.out w7 hb7;have x7:=(h7.1.at HKL.out).cell 0;rw [HN.out] at x7;have xl7:=(h7.1.at HKL.out).lt;have q7:=h7.2.2.cell 0;have ql7:=h7.2.2.lt))
        have h7d:=HEN.out w7.drew hb7.drew
        have hlen:pre.length < N:=by
         have h1:=HRL.out _ _ HPRE.out
         rw [HRN1.out,List.length_cons,List.length_map] at h1
         omega
        obtain ⟨fn,tmps,assign,body,hy,hR⟩:=HY.out pre ⟨(k,m),⟨hlt,hm2⟩⟩ w7.drew h7d.2.1 hlen
        have HS7:=Lib.hid h7d.1
        dsimp only [encR] at hy
        have HLB0:=Lib.hid HLB.out
        clear h7 h7d HS6 HJ6 HQ6 HEN HC2 HJS HLB hlen
        gi_region_with (refine ⟨(fun _=>by omega),hR.mono ?_⟩;rintro e W8 ⟨rfl,hJ8,hk8⟩;have HS8:=Lib.hid (HS7.out.kp hk8);have HJ8:=Lib.hid hJ8;have x8:=(HS8.out.at HKL.out).cell 0;rw [HN.out] at x8;have xl8:=(HS8.out.at HKL.out).lt;have x8f:=Blk.frozen (HS8.out.at HKL.out) 0)
        all_goals
         (clear x7 xl7 q7 ql7 hk8 hR hy
          gi_wp2
          refine ⟨⟨k+m,pre++[⟨(k,m),⟨hlt,hm2⟩⟩],by omega,(show _=_ from by rw [List.map_append,List.map_cons,List.map_nil,List.append_assoc,List.singleton_append,←HRN1.out];exact HPRE.out),HJ.out.box HJ8.out (grownBy_setCell0 _ _ _ _),HS8.out.put hne hlo _ _ _ (by rw [HN.out];omega) (fun h=>⟨by rw [HN.out] at h;rw [if_neg (by omega),Nat.add_assoc],by omega⟩)⟩,?_⟩
          rw [HLB0.out,(HS8.out.put (k':=k+m) hne hlo _ _ _ (by rw [HN.out];omega) (fun h=>⟨by rw [HN.out] at h;rw [if_neg (by omega),Nat.add_assoc],by omega⟩)).len,HN.out]
          omega))
  · have hpz:¬(0:Int) < ((N-k:Nat):Int):=by omega
    have hke:N-k=0:=by omega
    rw [HN.out,hke] at x0
    have HFIN:Hid (pre.map Subtype.val=runsL (spB f) zs):=(show _=_ from by
     have h1:=HPRE.out
     rw [hke] at h1
     simpa [rns] using h1)
    clear hpz
    gi_wp2
    go_end0
    exact ⟨⟨_,rfl⟩,pre,HFIN.out,HJS.out⟩
end Go.Proofs.YtbnganlfelgogaaGreat
