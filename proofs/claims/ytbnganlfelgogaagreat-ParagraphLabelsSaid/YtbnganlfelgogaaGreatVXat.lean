/- The keys of what cannot be made: three numbers. -/
import Derived.Test.YtbnganlfelgogaaGreatVFtk
import Derived.DeepKeys4
import Derived.Maps.OwnOps
import Derived.Maps.Ext
import Derived.WideKeyEntry
import Derived.Maps.Views
import Derived.Deep.RegionHeld3
set_option linter.unusedSimpArgs false
set_option linter.unusedVariables false
set_option maxRecDepth 100000
set_option maxHeartbeats 40000000
namespace Go.Proofs.YtbnganlfelgogaaGreat
open Go.RowKit
theorem laid193:laidOutB Tryz.prog=true:=by kernel_rfl
theorem law193:WideMaps.KeyLaw Tryz.prog 280:=deep_law_laid laid193 (m:=2) (by omega) (of_decide_eq_true (by kernel_rfl)) (by kernel_rfl) (by kernel_rfl)
theorem keyed193:Maps.Keyed Tryz.prog 280:=Maps.Keyed.of_law law193
theorem pos193:decide (0 < Tryz.prog.types.size)=true:=by kernel_rfl
theorem size193:∃ m,Tryz.prog.types.size=m+1:=⟨Tryz.prog.types.size-1,by have:=of_decide_eq_true pos193;omega⟩
theorem kt193:Tryz.prog.keyType 280=true:=by kernel_rfl
theorem cellsOf193:Tryz.prog.cellsOf 280=3:=by kernel_rfl
theorem cellsOf3k:Tryz.prog.cellsOf 3=1:=by kernel_rfl
def st3 (a b c:Int):Value:=.agg #[.int .i64 a,.int .i64 b,.int .i64 c]
theorem st3_inj {a b c a' b' c':Int} (h:st3 a b c=st3 a' b' c'):a=a'∧b=b'∧c=c':=by
 unfold st3 at h
 injection h with h
 have:=congrArg Array.toList h
 simpa using this
theorem key193 (a b c:Int) (ha:(Lit.int .i64 a).wf=true) (hb:(Lit.int .i64 b).wf=true) (hc:(Lit.int .i64 c).wf=true):∃ s,keyOf Tryz.prog 280 (st3 a b c)=some (.string s):=by
 have hf:(st3 a b c).formed Tryz.prog 280=true:=by
  simp only [st3,Value.formed,Tryz.underlying280,cellsOf193];rfl
 obtain ⟨m,hm⟩:=size193
 have hk:Tryz.prog.keyLits (m+1+1) 280 [.int .i64 a,.int .i64 b,.int .i64 c]=some [.int .i64 a,.int .i64 b,.int .i64 c]:=by
  unfold Program.keyLits
  simp only [Tryz.underlying280,cellsOf193,cellsOf3k,List.length_cons,List.length_nil,if_true]
  have h1:∀ x:Int,(Lit.int .i64 x).wf=true→Tryz.prog.keyLits (m+1) 3 [.int .i64 x]=some [.int .i64 x]:=fun x hx=>by
   unfold Program.keyLits
   simp only [Tryz.underlying3,hx,and_self,if_true]
  simp [List.mapM_cons,cellsOf3k,h1 a ha,h1 b hb,h1 c hc]
 unfold keyOf
 rw [Tryz.underlying280]
 simp only [kt193,hf,Bool.and_self,if_true,hm]
 refine ⟨keyBytes [.int .i64 a,.int .i64 b,.int .i64 c],?_⟩
 rw [show (st3 a b c).cells.toList=[.int .i64 a,.int .i64 b,.int .i64 c] from rfl,hk]
 rfl
end Go.Proofs.YtbnganlfelgogaaGreat
namespace Go.Proofs.YtbnganlfelgogaaGreat
def fsome {α:Type} (g:Nat→Option α):Nat→Option α
 | 0=>none
 | n+1=>match fsome g n with
  | some x=>some x
  | none=>g n
theorem fsome_none {α:Type} {g:Nat→Option α}:∀ {n:Nat},(∀ k,k < n→g k=none)→fsome g n=none
 | 0,_=>rfl
 | n+1,h=>by
  unfold fsome
  rw [fsome_none (n:=n) fun k hk=>h k (by omega)]
  exact h n (by omega)
theorem fsome_hit {α:Type} {g:Nat→Option α} {k:Nat} {x:α} (hx:g k=some x) (h:∀ j,j < k→g j=none):∀ {n:Nat},k < n→fsome g n=some x
 | 0,hk=>absurd hk (Nat.not_lt_zero _)
 | n+1,hk=>by
  unfold fsome
  rcases Nat.lt_or_ge k n with hlt | hge
  · rw [fsome_hit hx h hlt]
  · have e:k=n:=by omega
    subst e
    rw [fsome_none h]
    exact hx
theorem fsome_some {α:Type} {g:Nat→Option α} {x:α}:∀ {n:Nat},fsome g n=some x→∃ k,k < n∧g k=some x∧∀ j,j < k→g j=none
 | 0,h=>by simp [fsome] at h
 | n+1,h=>by
  unfold fsome at h
  cases hq:fsome g n with
  | some y=>
   rw [hq] at h
   obtain ⟨k,h1,h2,h3⟩:=fsome_some hq
   simp only [Option.some.injEq] at h
   subst h
   exact ⟨k,by omega,h2,h3⟩
  | none=>
   rw [hq] at h
   refine ⟨n,by omega,h,fun j hj=>?_⟩
   have:∀ {m:Nat},fsome g m=none→∀ j,j < m→g j=none:=by
    intro m
    induction m with
    | zero=>intro _ j hj;omega
    | succ m ih=>
     intro hm j hj
     unfold fsome at hm
     cases hp:fsome g m with
     | some y=>rw [hp] at hm;cases hm
     | none=>
      rw [hp] at hm
      rcases Nat.lt_or_ge j m with hlt | hge
      · exact ih hp j hlt
      · have e:j=m:=by omega
        subst e;exact hm
   exact this hq j hj
def exq:List (Nat × Nat)→Nat→Nat→Option (List Nat)
 | [],s,w=>if s=0∧w=0 then some [] else none
 | q :: qs,s,w=>fsome (fun k=>(exq qs (s-k) (w-k*q.2)).map (k :: ·)) (min (min q.1 s) (w / q.2)+1)
theorem div_le (k u w:Nat) (hu:0 < u):k≤w / u↔k*u≤w:=Nat.le_div_iff_mul_le hu
def sumN (l:List Nat):Nat:=l.foldr (·+·) 0
def widN:List (Nat × Nat)→List Nat→Nat
 | q :: qs,k :: ks=>k*q.2+widN qs ks
 | _,_=>0
def limN:List (Nat × Nat)→List Nat→Prop
 | q :: qs,k :: ks=>k≤q.1∧limN qs ks
 | [],[]=>True
 | _,_=>False
theorem exq_sound:∀ {qs:List (Nat × Nat)} {s w:Nat} {r:List Nat},(∀ q ∈ qs,0 < q.2)→exq qs s w=some r→sumN r=s∧widN qs r=w∧limN qs r
 | [],s,w,r,_,h=>by
  unfold exq at h
  split at h
  · rename_i hc
    injection h with h
    subst h
    exact ⟨hc.1.symm,hc.2.symm,trivial⟩
  · cases h
 | q :: qs,s,w,r,hp,h=>by
  unfold exq at h
  obtain ⟨k,h1,h2,-⟩:=fsome_some h
  have hu:=hp q (by simp)
  have h3:k≤w / q.2:=by omega
  rw [div_le _ _ _ hu] at h3
  cases he:exq qs (s-k) (w-k*q.2) with
  | none=>rw [he] at h2;cases h2
  | some r'=>
   rw [he] at h2
   simp only [Option.map_some,Option.some.injEq] at h2
   subst h2
   obtain ⟨i1,i2,i3⟩:=exq_sound (fun x hx=>hp x (by simp [hx])) he
   refine ⟨?_,?_,?_,i3⟩
   · show k+sumN r'=s
     omega
   · show k*q.2+widN qs r'=w
     omega
   · omega
def fewS (qs:List (Nat × Nat)) (w least n:Nat):Option (List Nat):=fsome (fun k=>exq qs (least+k) w) n
end Go.Proofs.YtbnganlfelgogaaGreat
namespace Go.Proofs.YtbnganlfelgogaaGreat
open Go.RowKit
open Go.Maps (Keyed)
theorem zero4b (w:World):(zeroValue 4).run Tryz.prog w=.ok (.bool false) w:=by kernel_rfl
theorem plainElem_bool_inv {H:Type} {P:Program} {e:TypeId} (he:P.underlying e=some .bool) {v:Value} {z:DataW H × List MemPlace} (h:plainElem P e v=some z):∃ a,v=.bool a∧z=(.lit (.bool a),[]):=by
 unfold plainElem at h
 rw [he] at h
 cases v <;> simp at h
 exact ⟨_,rfl,h.symm⟩
theorem ownsMap_lookup_bool {H:Type} {P:Program} {w:World} {t k e:TypeId} {b n:Nat} {D:DataW H} (h:w.ownsMap P k (plainElem P e) b n D) (K:Keyed P k) (ht:P.underlying t=some (.map k e)) (he:P.underlying e=some .bool) (hz:(zeroValue e).run P w=.ok (.bool false) w)
 {key:Value} {kl:Lit} (hkey:keyOf P k key=some kl):∃ c,(Instr.lookup t (.map (some b)) key false).run P w=.ok (.bool c) w∧D.atKey kl (.lit (.bool false))=.lit (.bool c):=by
 obtain ⟨v,ps,hrun,hv⟩:=h.lookup K ht hz (plainElem_bool he false) hkey
 obtain ⟨c,rfl,hc⟩:=plainElem_bool_inv he hv
 simp only [Prod.mk.injEq] at hc
 exact ⟨c,hrun,hc.1⟩
structure FailM (D:DataW Unit) (qs:List (Nat × Nat)):Prop where
 im:Maps.IsMap D
 val:∀ (i s w:Nat) kl,keyOf Tryz.prog 280 (st3 i s w)=some kl→D.atKey kl (.lit (.bool false))=.lit (.bool true)→exq (qs.drop i) s w=none
theorem failM_nil (qs:List (Nat × Nat)):FailM (.map []) qs:=⟨Maps.isMap_empty,fun i s w kl h h2=>by cases h2⟩
theorem FailM.put {D:DataW Unit} {qs:List (Nat × Nat)} (h:FailM D qs) {i s w:Nat} {kl:Lit} (hk:keyOf Tryz.prog 280 (st3 i s w)=some kl) (he:exq (qs.drop i) s w=none):FailM (D.put kl (.lit (.bool true))) qs:=by
 refine ⟨h.im.put _ _,fun i' s' w' kl' h1 h2=>?_⟩
 by_cases e:kl'=kl
 · subst e
   obtain ⟨e1,e2,e3⟩:=st3_inj (keyed193.inj h1 hk)
   have f1:i'=i:=Int.ofNat.inj e1
   have f2:s'=s:=Int.ofNat.inj e2
   have f3:w'=w:=Int.ofNat.inj e3
   rw [f1,f2,f3]
   exact he
 · refine h.val i' s' w' kl' h1 ?_
   rw [←h2]
   exact (Maps.atKey_put_other e _ _).symm
end Go.Proofs.YtbnganlfelgogaaGreat
namespace Go.Proofs.YtbnganlfelgogaaGreat
open Go.RowKit
@[reducible,go_sem] def ncs (f:Fnt) (v vs vl:Value) (a b:Int) (mv:Value):Array Value:=#[.string f.name,.int .i64 f.body,v,vs,vl,.int .i64 a,.int .i64 b,mv]
structure XP (w0:World) (f:Fnt) (v vs vl:Value) (qs:List (Nat × Nat)) (sp lim:List Int):Prop where
 s:SoV w0 f.sorts v
 p:IV w0 sp vs
 l:IV w0 lim vl
 few:f.sorts.length≤120
 sp8:sp.length≤8
 inF:InF f sp
 lok:CsOk f.sorts.length lim
 qlen:qs.length=sp.length
 qat:∀ j,j < sp.length→qs[j]?=some ((gz lim (gz sp j).toNat).toNat,(wd f (gz sp j)).toNat)
 wdp:∀ j,j < sp.length→1≤wd f (gz sp j)∧wd f (gz sp j)≤100000
 asc:∀ i j,i < j→j < sp.length→gz sp i < gz sp j
structure XS (w0 W:World) (nb ob tb mb gb co:Nat) (f:Fnt) (v vs vl:Value) (a b:Int) (qs:List (Nat × Nat)) (out:List Int) (nn:Nat) (D:DataW Unit):Prop where
 B:Below w0.heap.size w0 W
 N:Blk W nb 258 (ncs f v vs vl a b (.map (some mb)))
 O:Blk W ob 34 #[.slice (some ⟨gb,0,none⟩) f.sorts.length co]
 T:Blk W tb 278 #[.func (.func 206) #[] #[.pointer (some ⟨nb,0,none⟩),.pointer (some ⟨ob,0,none⟩),.pointer (some ⟨tb,0,none⟩)]]
 I:IO W w0.heap.size out (.slice (some ⟨gb,0,none⟩) f.sorts.length co)
 M:W.ownsMap Tryz.prog 280 (plainElem Tryz.prog 4) mb nn D
 F:FailM D qs
 len:out.length=f.sorts.length
 hm:w0.heap.size≤mb
 hg:w0.heap.size≤gb
 hne:gb≠mb∧nb≠gb∧nb≠mb∧ob≠gb∧ob≠mb∧tb≠gb∧tb≠mb
section
variable {w0 W W':World} {nb ob tb mb gb co:Nat} {f:Fnt} {v vs vl:Value} {a b:Int} {qs:List (Nat × Nat)} {out:List Int} {nn:Nat} {D:DataW Unit}
theorem XS.below (h:XS w0 W nb ob tb mb gb co f v vs vl a b qs out nn D) (hb:Below W.heap.size W W'):XS w0 W' nb ob tb mb gb co f v vs vl a b qs out nn D:=
 ⟨h.B.trans (hb.mono h.B.size),h.N.below hb h.N.lt,h.O.below hb h.O.lt,h.T.below hb h.T.lt,h.I.below hb,h.M.kept (grown_of_below hb none) (by simp),h.F,h.len,h.hm,h.hg,h.hne⟩
theorem XS.but (h:XS w0 W nb ob tb mb gb co f v vs vl a b qs out nn D) (hb:But2 gb mb W W') {out':List Int} {nn':Nat} {D':DataW Unit} (hI:IO W' w0.heap.size out' (.slice (some ⟨gb,0,none⟩) f.sorts.length co)) (hl:out'.length=f.sorts.length)
 (hM:W'.ownsMap Tryz.prog 280 (plainElem Tryz.prog 4) mb nn' D') (hF:FailM D' qs):XS w0 W' nb ob tb mb gb co f v vs vl a b qs out' nn' D':=by
 obtain ⟨n1,n2,n3,n4,n5,n6,n7⟩:=h.hne
 exact ⟨h.B.trans (hb.below h.hg h.hm h.B.size),(hb.block _ h.N.lt n2 n3).trans h.N,(hb.block _ h.O.lt n4 n5).trans h.O,(hb.block _ h.T.lt n6 n7).trans h.T,hI,hM,hF,hl,h.hm,h.hg,h.hne⟩
theorem XS.put (h:XS w0 W nb ob tb mb gb co f v vs vl a b qs out nn D) {q:Nat} (hq:q < f.sorts.length) (x:Int):XS w0 (W.setCell ⟨gb,q,none⟩ (.int .i64 x)) nb ob tb mb gb co f v vs vl a b qs (out.set q x) nn D:=by
 obtain ⟨g,he,-,-,-,-,hp⟩:=h.I.at (i:=q) (by rw [h.len];exact hq)
 injection he with he
 injection he with he
 subst he
 have hg:=grown_setCell W gb q (.int .i64 x)
 exact h.but (But2.of_grown hg (.inl rfl)) (hp x) (by rw [List.length_set];exact h.len) (h.M.kept hg (by intro e;injection e with e;exact h.hne.1 e.symm)) h.F
theorem XS.ins (h:XS w0 W nb ob tb mb gb co f v vs vl a b qs out nn D) (hg:W.grownBy W' (some mb)) {nn':Nat} {D':DataW Unit} (hM:W'.ownsMap Tryz.prog 280 (plainElem Tryz.prog 4) mb nn' D') (hF:FailM D' qs):XS w0 W' nb ob tb mb gb co f v vs vl a b qs out nn' D':=
 h.but (But2.of_grown hg (.inr rfl)) (h.I.keptG hg (.inr (by rw [ownBlock_some];intro e;injection e with e;exact h.hne.1 e))) h.len hM hF
end
def putR:List Int→List Int→List Nat→List Int
 | out,p :: ps,k :: ks=>putR (out.set p.toNat (k:Int)) ps ks
 | out,_,_=>out
def cB:Nat→Nat
 | 0=>0
 | m+1=>1+91*cB m
theorem cB_le:∀ {m:Nat},m≤8→cB m≤53000000000000:=by
 intro m hm
 have h:∀ m,m≤8→cB m≤cB 8:=by
  intro m hm
  rcases (show m=0∨m=1∨m=2∨m=3∨m=4∨m=5∨m=6∨m=7∨m=8 by omega) with rfl | rfl | rfl | rfl | rfl | rfl | rfl | rfl | rfl <;> decide
 have:=h m hm
 have h8:cB 8≤53000000000000:=by decide
 omega
def XPost (w0 W:World) (nb ob tb mb gb co:Nat) (f:Fnt) (v vs vl:Value) (a b:Int) (qs:List (Nat × Nat)) (sp out:List Int) (nn:Nat) (at_ s w:Nat) (e:Ending) (W':World):Prop:=
 But2 gb mb W W'∧∃ out' nn' D',XS w0 W' nb ob tb mb gb co f v vs vl a b qs out' nn' D'∧nn≤nn'∧nn'≤nn+cB (sp.length-at_)∧
  ((exq (qs.drop at_) s w=none∧e=.returned (.bool false)∧out'=out)∨∃ r,exq (qs.drop at_) s w=some r∧e=.returned (.bool true)∧out'=putR out (sp.drop at_) r)
end Go.Proofs.YtbnganlfelgogaaGreat
namespace Go.Proofs.YtbnganlfelgogaaGreat
open Go.RowKit
theorem try_end {w0:World} {f:Fnt} {v vs vl:Value} {qs:List (Nat × Nat)} {sp lim:List Int} (hP:XP w0 f v vs vl qs sp lim) {W:World} {nb ob tb mb gb co:Nat} {a b:Int} {out:List Int} {nn:Nat} {D:DataW Unit} (h:XS w0 W nb ob tb mb gb co f v vs vl a b qs out nn D) (s w:Nat) (hs:s≤90) (hw:w≤20000) :
 Calls Tryz.prog 206 #[.agg #[.int .i64 (sp.length:Int),.int .i64 (s:Int),.int .i64 (w:Int)],.pointer (some ⟨nb,0,none⟩),.pointer (some ⟨ob,0,none⟩),.pointer (some ⟨tb,0,none⟩)] W (XPost w0 W nb ob tb mb gb co f v vs vl a b qs sp out nn sp.length s w):=by
 obtain ⟨As,bs,os,cs,rfl,-,-,-,-⟩:=hP.p.open
 obtain ⟨Av,cv,rfl⟩:=hP.s.shape
 obtain ⟨Al,bl,ol,cl,rfl,-,-,-,-⟩:=hP.l.open
 have hbn:=below_new W (.cells #[.int .i64 (sp.length:Int),.int .i64 (s:Int),.int .i64 (w:Int)] 280)
 have hX:=h.below hbn
 have hK:=Blk.new W 280 #[.int .i64 (sp.length:Int),.int .i64 (s:Int),.int .i64 (w:Int)]
 have k0:=hK.cell 0
 have k1:=hK.cell 1
 have k2:=hK.cell 2
 have kl:=hK.lt
 have n3:=hX.N.cell 3
 have nl:=hX.N.lt
 have hd:qs.drop sp.length=[]:=List.drop_of_length_le (by rw [hP.qlen];exact Nat.le_refl _)
 have HP:Hid (∀ x:Bool,x=decide (s=0∧w=0)→XPost w0 W nb ob tb mb gb co f (.slice Av f.sorts.length cv) (.slice As sp.length cs) (.slice Al lim.length cl) a b qs sp out nn sp.length s w (.returned (.bool x)) (W.alloc (.cells #[.int .i64 (sp.length:Int),.int .i64 (s:Int),.int .i64 (w:Int)] 280))):=(show ∀ x,_ from fun x hx=>by
  refine ⟨But2.of_below hbn,out,nn,D,hX,Nat.le_refl _,Nat.le_add_right _ _,?_⟩
  rw [hd]
  by_cases hc:s=0∧w=0
  · right
    refine ⟨[],by unfold exq;rw [if_pos hc],by rw [hx,decide_eq_true hc],?_⟩
    rw [List.drop_of_length_le (Nat.le_refl _)]
    rfl
  · left
    exact ⟨by unfold exq;rw [if_neg hc],by rw [hx,decide_eq_false hc],rfl⟩)
 have hp8:=hP.sp8
 clear hX hK hbn h hP hd
 generalize sp.length=N at *
 go_enter Tryz.func206,Tryz.ntmps206
 go_upto_region 1 with fail
 generalize W.alloc (.cells #[.int .i64 (N:Int),.int .i64 (s:Int),.int .i64 (w:Int)] 280)=Wq at *
 by_cases hs0:s=0
 · have hs1:(s:Int)=0:=by omega
   by_cases hw0:w=0
   · have hw1:(w:Int)=0:=by omega
     have HX:=Lib.hid (HP.out true (by rw [decide_eq_true ⟨hs0,hw0⟩]))
     clear hs0 hw0
     go_wp2_with fail
     go_ret
     exact HX.out
   · have hw1:¬(w:Int)=0:=by omega
     have hw2:=beq_false_of_ne hw1
     have HX:=Lib.hid (HP.out false (by rw [decide_eq_false (fun h=>hw0 h.2)]))
     clear hs0
     go_wp2_with fail
     go_ret
     exact HX.out
 · have hs1:¬(s:Int)=0:=by omega
   have HX:=Lib.hid (HP.out false (by rw [decide_eq_false (fun h=>hs0 h.1)]))
   go_wp2_with fail
   go_ret
   exact HX.out
end Go.Proofs.YtbnganlfelgogaaGreat
namespace Go.Proofs.YtbnganlfelgogaaGreat
open Go.RowKit
theorem list_set_same {l:List Int} {i:Nat}:l.set i (gz l i)=l:=by
 apply List.ext_getElem?
 intro j
 rw [List.getElem?_set]
 by_cases e:i=j
 · subst e
   by_cases h:i < l.length
   · simp [gz,h]
   · simp [h]
 · rw [if_neg e]
theorem wfN (n:Nat) (h:n≤100000):(Lit.int .i64 (n:Int)).wf=true:=WalkArith.wf_i64 (by omega)
theorem try_at {w0:World} {f:Fnt} {v vs vl:Value} {qs:List (Nat × Nat)} {sp lim:List Int} (hP:XP w0 f v vs vl qs sp lim) {nb ob tb mb gb co:Nat} {a b:Int} (at_:Nat) (hat:at_ < sp.length)
 (ih:∀ (s w:Nat) (W:World) (out:List Int) (nn:Nat) (D:DataW Unit),s≤90→w≤20000→XS w0 W nb ob tb mb gb co f v vs vl a b qs out nn D→(∀ j,at_+1≤j→j < sp.length→gz out (gz sp j).toNat=0)→nn+cB (sp.length-(at_+1))≤1000000000000000000→
  Calls Tryz.prog 206 #[.agg #[.int .i64 ((at_+1:Nat):Int),.int .i64 (s:Int),.int .i64 (w:Int)],.pointer (some ⟨nb,0,none⟩),.pointer (some ⟨ob,0,none⟩),.pointer (some ⟨tb,0,none⟩)] W (XPost w0 W nb ob tb mb gb co f v vs vl a b qs sp out nn (at_+1) s w))
 (s w:Nat) (W:World) (out:List Int) (nn:Nat) (D:DataW Unit) (hs:s≤90) (hw:w≤20000) (h:XS w0 W nb ob tb mb gb co f v vs vl a b qs out nn D) (hz:∀ j,at_≤j→j < sp.length→gz out (gz sp j).toNat=0) (hn:nn+cB (sp.length-at_)≤1000000000000000000) :
 Calls Tryz.prog 206 #[.agg #[.int .i64 (at_:Int),.int .i64 (s:Int),.int .i64 (w:Int)],.pointer (some ⟨nb,0,none⟩),.pointer (some ⟨ob,0,none⟩),.pointer (some ⟨tb,0,none⟩)] W (XPost w0 W nb ob tb mb gb co f v vs vl a b qs sp out nn at_ s w):=by
 obtain ⟨As,bs,os,cs,rfl,hAs,hzs,-,-⟩:=hP.p.open
 obtain ⟨Av,cv,rfl⟩:=hP.s.shape
 obtain ⟨Al,bl,ol,cl,rfl,hAl,hzl,-,-⟩:=hP.l.open
 have hbn:=below_new W (.cells #[.int .i64 (at_:Int),.int .i64 (s:Int),.int .i64 (w:Int)] 280)
 have hX:=h.below hbn
 have hK:=Blk.new W 280 #[.int .i64 (at_:Int),.int .i64 (s:Int),.int .i64 (w:Int)]
 have HB2:=Lib.hid (But2.of_below (m1:=gb) (m2:=mb) hbn)
 have k0:=hK.cell 0
 have k1:=hK.cell 1
 have k2:=hK.cell 2
 have kl:=hK.lt
 have n3:=hX.N.cell 3
 have n7:=hX.N.cell 7
 have nl:=hX.N.lt
 have hp8:=hP.sp8
 obtain ⟨str,hkl⟩:=key193 (at_:Int) (s:Int) (w:Int) (wfN _ (by omega)) (wfN _ (by omega)) (wfN _ (by omega))
 have HX:=Lib.hid hX
 have HK:=Lib.hid hK
 have HPP:=Lib.hid hP
 have HH:=Lib.hid h
 have HZ:=Lib.hid hz
 have hown:=hX.M
 have hFv:=hX.F.val at_ s w (.string str) hkl
 have hatz:(at_:Int) < (sp.length:Int):=by omega
 have hnez:¬(at_:Int)=(sp.length:Int):=by omega
 clear hX hK hbn h hP hz
 generalize hN:sp.length=N at *
 have HN:=Lib.hid hN
 clear hN
 go_enter Tryz.func206,Tryz.ntmps206
 go_upto_region 1 with fail
 generalize W.alloc (.cells #[.int .i64 (at_:Int),.int .i64 (s:Int),.int .i64 (w:Int)] 280)=Wq at *
 obtain ⟨cc,hrun,hatk⟩:=ownsMap_lookup_bool hown keyed193 Tryz.underlying256 Tryz.underlying4 (zero4b _) hkl
 unfold st3 at hrun
 cases cc with
 | true=>
  have hnone:=hFv hatk
  have HXP:Hid (XPost w0 W nb ob tb mb gb co f (.slice Av f.sorts.length cv) (.slice As N cs) (.slice Al lim.length cl) a b qs sp out nn at_ s w (.returned (.bool false)) Wq):=⟨HB2.out,out,nn,D,HX.out,Nat.le_refl _,Nat.le_add_right _ _,.inl ⟨hnone,rfl,rfl⟩⟩
  go_wp2_with fail
  go_ret
  exact HXP.out
 | false=>
  obtain ⟨rfl,hbsl⟩:=hAs (by omega)
  have hsc:=(HX.out.B.cell (p:=⟨bs,os+at_,none⟩) hbsl).trans (hzs at_ (by rw [HN.out];exact hat))
  have hbsl':=Nat.lt_of_lt_of_le hbsl HX.out.B.size
  have hneq:=beq_false_of_ne hnez
  have hin:=HPP.out.inF at_ (by rw [HN.out];exact hat)
  have hwd:=HPP.out.wdp at_ (by rw [HN.out];exact hat)
  have hqt:=HPP.out.qat at_ (by rw [HN.out];exact hat)
  have hz0:=HZ.out at_ (Nat.le_refl _) hat
  have HAS:=Lib.hid (fun j (h1:at_ < j) (h2:j < N)=>HPP.out.asc at_ j h1 (by rw [HN.out];exact h2))
  have HSD:Hid (sp.drop at_=gz sp at_ :: sp.drop (at_+1)):=(by
   show sp.drop at_=_
   have hi:at_ < sp.length:=by rw [HN.out];exact hat
   rw [List.drop_eq_getElem_cons hi,gz,List.getD_eq_getElem?_getD,List.getElem?_eq_getElem hi]
   rfl)
  have HCB:Hid (cB (N-at_)=1+91*cB (N-(at_+1))):=(by
   show cB (N-at_)=_
   rw [show N-at_=(N-(at_+1))+1 by omega]
   rfl)
  generalize gz sp at_=z at *
  obtain ⟨q,rfl⟩:=Int.eq_ofNat_of_zero_le hin.1
  rw [Int.toNat_natCast] at hqt hz0
  have hlk:=HPP.out.lok.2 q (by omega)
  have hql:q < f.sorts.length:=by omega
  obtain ⟨bv,ov,cv',hev,hbv,hsw⟩:=HPP.out.s.width (f:=f) (s:=(q:Int)) hin
  injection hev with ev1 ev2 ev3
  subst ev1
  clear ev2 ev3
  rw [Int.toNat_natCast] at hsw
  obtain ⟨rfl,hbl⟩:=hAl (by rw [HPP.out.lok.1];omega)
  have hlc:=hzl q (by rw [HPP.out.lok.1];omega)
  obtain ⟨u,hu⟩:∃ u:Nat,wd f (q:Int)=(u:Int):=⟨(wd f (q:Int)).toNat,by omega⟩
  obtain ⟨l,hl⟩:∃ l:Nat,gz lim q=(l:Int):=⟨(gz lim q).toNat,by omega⟩
  rw [hu,hl,Int.toNat_natCast,Int.toNat_natCast] at hqt
  rw [hu] at hsw hwd
  rw [hl] at hlc hlk
  have hdr:qs.drop at_=(l,u) :: qs.drop (at_+1):=by
   obtain ⟨hi,hx⟩:=List.getElem?_eq_some_iff.1 hqt
   rw [List.drop_eq_getElem_cons hi,hx]
  have HDR:=Lib.hid hdr
  have HQ0:=Lib.hid hz0
  clear hu hl hqt hdr hz0 hFv hatk hown
  go_upto_region 7 with fail
  clear hrun k0 k1 k2 n3 n7
  go_loopg [5,7] (s+1) (fun gg _ s7 wr=>∃ (k:Nat) (o:List Int) (n':Nat) (D':DataW Unit),k≤s+1∧s+1-k≤gg∧s7=.int .i64 (k:Int)∧nn≤n'∧n'≤nn+k*cB (N-(at_+1))∧Hid (XS w0 wr nb ob tb mb gb co f (.slice (some ⟨bv,ov,none⟩) f.sorts.length cv) (.slice (some ⟨bs,os,none⟩) N cs) (.slice (some ⟨bl,ol,none⟩) lim.length cl) a b qs o n' D')∧Hid (∀ x,o.set q x=out.set q x)∧Hid (But2 gb mb W wr)∧Hid (Blk wr W.heap.size 280 #[.int .i64 (at_:Int),.int .i64 (s:Int),.int .i64 (w:Int)])∧Hid (∀ j,j < k→exq (qs.drop (at_+1)) (s-j) (w-j*u)=none))
  case atStart=>exact ⟨0,out,nn,D,by omega,by omega,rfl,Nat.le_refl _,by omega,HX.out,fun x=>rfl,HB2.out,HK.out,fun j hj=>absurd hj (Nat.not_lt_zero _)⟩
  case round=>
   obtain ⟨k,o,n',D',hk,hg,rfl,hn1,hn2,HXR,HOR,HBR,HKR,HNO⟩:=hrel
   have n2:=HXR.out.N.cell 2
   have n4:=HXR.out.N.cell 4
   have nl2:=HXR.out.N.lt
   have k1:=HKR.out.cell 1
   have k2:=HKR.out.cell 2
   have kl2:=HKR.out.lt
   have c1:=(HXR.out.B.cell (p:=⟨bl,ol+q,none⟩) hbl).trans hlc
   have c2:=(HXR.out.B.cell (p:=⟨bv,ov+q*4+3,none⟩) hbv).trans hsw
   have hbl2:=Nat.lt_of_lt_of_le hbl HXR.out.B.size
   have hbv2:=Nat.lt_of_lt_of_le hbv HXR.out.B.size
   have hlim:lim.length=f.sorts.length:=HPP.out.lok.1
   have hqz:(q:Int) < (lim.length:Int):=by omega
   have hqz2:(q:Int) < (f.sorts.length:Int):=by omega
   clear hlim
   obtain ⟨mn,hmn⟩:∃ m:Nat,m=min l s:=⟨_,rfl⟩
   have hmz:min (l:Int) (s:Int)=(mn:Int):=by omega
   obtain ⟨p,hp⟩:∃ p:Nat,p=k*u:=⟨_,rfl⟩
   have hpz:(k:Int)*(u:Int)=(p:Int):=by rw [hp];push_cast;rfl
   have hpb:p≤9100000:=by
    have h1:u≤100000:=by omega
    have:=Nat.mul_le_mul (show k≤91 by omega) h1
    omega
   have HMN:=Lib.hid hmn
   have HPE:=Lib.hid hp
   clear hmn hp
   by_cases hc1:k≤mn
   · have hc1z:(k:Int)≤(mn:Int):=by omega
     by_cases hc2:p≤w
     · have hc2z:(p:Int)≤(w:Int):=by omega
       go_wp2_with fail
       go_quiet (fail)
       have hbq:=below_drewN wr nq
       have HXQ:=Lib.hid (HXR.out.below hbq)
       have HBQ:=Lib.hid (HBR.out.trans (But2.of_below (m1:=gb) (m2:=mb) hbq))
       have HKQ:=Lib.hid (HKR.out.below hbq HKR.out.lt)
       clear n2 n4 nl2 k1 k2 kl2 c1 c2 hbl2 hbv2 hbq
       generalize wr.drewN nq=w2 at *
       have o0:=HXQ.out.O.cell 0
       have ol2:=HXQ.out.O.lt
       obtain ⟨gg,hge,hgg,hgl,hgc,hgf,-⟩:=HXQ.out.I.at (i:=q) (by rw [HXQ.out.len];exact hql)
       injection hge with hge
       injection hge with hge
       subst hge
       have HX3:=Lib.hid (HXQ.out.put hql (k:Int))
       have HB3:=Lib.hid (HBQ.out.trans (But2.of_grown (m1:=gb) (m2:=mb) (grown_setCell w2 gb q (.int .i64 (k:Int))) (.inl rfl)))
       have hWg:W.heap.size≠gb:=by have h1:=HH.out.I;obtain ⟨g1,e1,-,h2,-⟩:=h1.at (i:=q) (by rw [HH.out.len];exact hql);injection e1 with e1;injection e1 with e1;omega
       have HK3:Hid (Blk (w2.setCell ⟨gb,q,none⟩ (.int .i64 (k:Int))) W.heap.size 280 _):=(Below.heap_setCell _ _ _ _ hWg).trans HKQ.out
       go_upto_region 10 with fail
       clear o0 ol2 hgl hgc hgf
       generalize w2.setCell ⟨gb,q,none⟩ (.int .i64 (k:Int))=w3 at *
       have t0:=HX3.out.T.cell 0
       have tl:=HX3.out.T.lt
       have m2:=HX3.out.N.cell 2
       have ml:=HX3.out.N.lt
       have k0:=HK3.out.cell 0
       have k1:=HK3.out.cell 1
       have k2:=HK3.out.cell 2
       have kl2:=HK3.out.lt
       have c2:=(HX3.out.B.cell (p:=⟨bv,ov+q*4+3,none⟩) hbv).trans hsw
       have hbv2:=Nat.lt_of_lt_of_le hbv HX3.out.B.size
       have hkm:k*cB (N-(at_+1))≤90*cB (N-(at_+1)):=Nat.mul_le_mul_right _ (by have:=HMN.out;omega)
       have hcb:n'+cB (N-(at_+1))≤1000000000000000000:=by have:=HCB.out;omega
       have HKM:=Lib.hid hkm
       clear hkm
       have hks:((s-k:Nat):Int)=(s:Int)-(k:Int):=by have:=HMN.out;omega
       have hws:((w-p:Nat):Int)=(w:Int)-(p:Int):=by omega
       have HCALL:Hid (∀ W',Below w3.heap.size w3 W'→Calls Tryz.prog 206 #[.agg #[.int .i64 ((at_:Int)+1),.int .i64 ((s:Int)-(k:Int)),.int .i64 ((w:Int)-(p:Int))],.pointer (some ⟨nb,0,none⟩),.pointer (some ⟨ob,0,none⟩),.pointer (some ⟨tb,0,none⟩)] W'
        (XPost w0 W' nb ob tb mb gb co f (.slice (some ⟨bv,ov,none⟩) f.sorts.length cv) (.slice (some ⟨bs,os,none⟩) N cs) (.slice (some ⟨bl,ol,none⟩) lim.length cl) a b qs sp (o.set q (k:Int)) n' (at_+1) (s-k) (w-p))):=(show ∀ W',_ from fun W' hb'=>by
        have hcc:=ih (s-k) (w-p) W' (o.set q (k:Int)) n' D' (by omega) (by omega) (HX3.out.below hb') (fun j hj1 hj2=>by
         rw [HOR.out,gz_set (by rw [HH.out.len];exact hql)]
         have hjq:(gz sp j).toNat≠q:=by have:=HAS.out j (by omega) hj2;omega
         rw [if_neg hjq]
         exact HZ.out j (by omega) hj2) hcb
        rw [hks,hws] at hcc
        rw [show ((at_+1:Nat):Int)=(at_:Int)+1 by push_cast;rfl] at hcc
        exact hcc)
       clear ih hks hws hcb
       go_still_tail 22,(by kernel_rfl)
       change wpList _ _ _ _ _ w3.drew
       have hbd:Below w3.heap.size w3 w3.drew:=(Below.refl _ _).drew
       have HCD:=Lib.hid (HCALL.out _ hbd)
       go_wp2_with fail
       clear t0 tl m2 ml k0 k1 k2 kl2 c2 hbv2 HCALL
       refine HCD.out.mono ?_
       rintro e w4 ⟨hb4,o',n4,D4,hx4,hn3,hn4,⟨hnone,rfl,rfl⟩ | ⟨r,hsome,rfl,rfl⟩⟩
       · rw [HN.out] at hn4
         have HX4:=Lib.hid hx4
         have HB4:=Lib.hid ((HB3.out.trans (But2.of_below (m1:=gb) (m2:=mb) hbd)).trans hb4)
         have hWm:W.heap.size≠mb:=by have:=HH.out.M.lt;omega
         have HK4:Hid (Blk w4 W.heap.size 280 _):=(hb4.block W.heap.size (Nat.lt_of_lt_of_le HK3.out.lt hbd.size) hWg hWm).trans (HK3.out.below hbd HK3.out.lt)
         have HN4:=Lib.hid hnone
         clear hx4 hb4 hnone HCD
         go_wp2_with fail
         go_roundg (s+1-(k+1))
         case measure=>have:=HMN.out;omega
         case rel=>
          refine ⟨k+1,o.set q (k:Int),n4,D4,by have:=HMN.out;omega,by omega,by go_num,by omega,by rw [Nat.succ_mul];omega,HX4.out,(show Hid _ from fun x=>by rw [List.set_set];exact HOR.out x),HB4.out,HK4.out,(show Hid _ from fun j hj=>?_)⟩
          by_cases e:j=k
          · subst e;rw [←HPE.out];exact HN4.out
          · exact HNO.out j (by omega)
       · have HPX:Hid (XPost w0 W nb ob tb mb gb co f (.slice (some ⟨bv,ov,none⟩) f.sorts.length cv) (.slice (some ⟨bs,os,none⟩) N cs) (.slice (some ⟨bl,ol,none⟩) lim.length cl) a b qs sp out nn at_ s w (.returned (.bool true)) w4):=by
          refine ⟨(HB3.out.trans (But2.of_below (m1:=gb) (m2:=mb) hbd)).trans hb4,_,n4,D4,hx4,by omega,?_,.inr ⟨k :: r,?_,rfl,?_⟩⟩
          · rw [HN.out] at hn4 ⊢
            have h1:=HCB.out
            have h2:=HKM.out
            omega
          · rw [HDR.out]
            unfold exq
            refine fsome_hit (k:=k) ?_ (fun j hj=>?_) ?_
            · show (exq (qs.drop (at_+1)) (s-k) (w-k*u)).map _=_
              rw [←HPE.out,hsome];rfl
            · show (exq (qs.drop (at_+1)) (s-j) (w-j*u)).map _=_
              rw [HNO.out j hj];rfl
            · have h1:k≤w / u:=(div_le k u w (by omega)).2 (by rw [←HPE.out];exact hc2)
              have h2:=HMN.out
              show k < min (min l s) (w / u)+1
              omega
          · rw [HSD.out,putR,Int.toNat_natCast,HOR.out]
         clear hx4 hb4 HCD
         go_wp2_with fail
         go_ret
         exact HPX.out
     · have hc2z:¬(p:Int)≤(w:Int):=by omega
       have HEX:Hid (exq (qs.drop at_) s w=none):=(by
        show exq (qs.drop at_) s w=none
        rw [HDR.out]
        unfold exq
        refine fsome_none fun j hj=>?_
        have hjk:j < k:=by
         have h2:=HMN.out
         have hj2:j < min (min l s) (w / u)+1:=hj
         rcases Nat.lt_or_ge j k with h3 | h3
         · exact h3
         · exfalso
           have h4:j*u≤w:=(div_le j u w (by omega)).1 (by omega)
           have h5:k*u≤j*u:=Nat.mul_le_mul_right _ h3
           have h6:=HPE.out
           omega
        show (exq (qs.drop (at_+1)) (s-j) (w-j*u)).map _=_
        rw [HNO.out j hjk];rfl)
       go_wp2_with fail
       go_quiet (fail)
       have hbq:=below_drewN wr nq
       have HXQ:=Lib.hid (HXR.out.below hbq)
       have HBQ:=Lib.hid (HBR.out.trans (But2.of_below (m1:=gb) (m2:=mb) hbq))
       have HKQ:=Lib.hid (HKR.out.below hbq HKR.out.lt)
       clear n2 n4 nl2 k1 k2 kl2 c1 c2 hbl2 hbv2 hbq
       generalize wr.drewN nq=w2 at *
       have o0:=HXQ.out.O.cell 0
       have ol2:=HXQ.out.O.lt
       obtain ⟨gg,hge,hgg,hgl,hgc,hgf,-⟩:=HXQ.out.I.at (i:=q) (by rw [HXQ.out.len];exact hql)
       injection hge with hge
       injection hge with hge
       subst hge
       have HX3:=Lib.hid (HXQ.out.put hql 0)
       rw [HOR.out,show out.set q 0=out by rw [←HQ0.out];exact list_set_same] at HX3
       have HB3:=Lib.hid (HBQ.out.trans (But2.of_grown (m1:=gb) (m2:=mb) (grown_setCell w2 gb q (.int .i64 0)) (.inl rfl)))
       have hWg:W.heap.size≠gb:=by have h1:=HH.out.I;obtain ⟨g1,e1,-,h2,-⟩:=h1.at (i:=q) (by rw [HH.out.len];exact hql);injection e1 with e1;injection e1 with e1;omega
       have HK3:Hid (Blk (w2.setCell ⟨gb,q,none⟩ (.int .i64 0)) W.heap.size 280 _):=(Below.heap_setCell _ _ _ _ hWg).trans HKQ.out
       go_upto_region 13 with fail
       clear o0 ol2 hgl hgc hgf
       generalize w2.setCell ⟨gb,q,none⟩ (.int .i64 0)=w3 at *
       have m7:=HX3.out.N.cell 7
       have ml:=HX3.out.N.lt
       have k0:=HK3.out.cell 0
       have k1:=HK3.out.cell 1
       have k2:=HK3.out.cell 2
       have kl2:=HK3.out.lt
       have hown:=HX3.out.M
       have hkl2:keyOf Tryz.prog 280 (.agg #[.int .i64 (at_:Int),.int .i64 (s:Int),.int .i64 (w:Int)])=some (.string str):=hkl
       have hkm:k*cB (N-(at_+1))≤91*cB (N-(at_+1)):=Nat.mul_le_mul_right _ (by omega)
       have hmx:n' < maxLen:=by have:=HCB.out;simp only [maxLen];omega
       have hn5:n'+1≤nn+cB (N-at_):=by have:=HCB.out;omega
       have HN5:=Lib.hid hn5
       clear hkm hn5 ih
       go_wp2_with ((at_mapUpdate
                     refine wpList_mapUpdate_own _ rfl _ _ _ 256 rfl 280 4 keyed193 Tryz.underlying256 (plainElem Tryz.prog 4) mb n' D' rfl hown hmx _ _ (.string str) rfl rfl hkl2 (.lit (.bool true)) [] (plainElem_bool Tryz.underlying4 true) ?_
                     intro w5 hown5 hgrow5
                     have HX5:=Lib.hid (HX3.out.ins hgrow5 hown5 (HX3.out.F.put hkl HEX.out))
                     have HB5:=Lib.hid (HB3.out.trans (But2.of_grown (m1:=gb) (m2:=mb) hgrow5 (.inr rfl)))
                     clear hown5 hgrow5 m7 ml k0 k1 k2 kl2 hown))
       go_ret
       exact ⟨HB5.out,out,n'+1,_,HX5.out,by omega,by rw [HN.out];exact HN5.out,.inl ⟨HEX.out,rfl,rfl⟩⟩
   · have hc1z:¬(k:Int)≤(mn:Int):=by omega
     have HEX:Hid (exq (qs.drop at_) s w=none):=(by
      show exq (qs.drop at_) s w=none
      rw [HDR.out]
      unfold exq
      refine fsome_none fun j hj=>?_
      have hjk:j < k:=by
       have h2:=HMN.out
       have hj2:j < min (min l s) (w / u)+1:=hj
       omega
      show (exq (qs.drop (at_+1)) (s-j) (w-j*u)).map _=_
      rw [HNO.out j hjk];rfl)
     go_wp2_with fail
     go_quiet (fail)
     have hbq:=below_drewN wr nq
     have HXQ:=Lib.hid (HXR.out.below hbq)
     have HBQ:=Lib.hid (HBR.out.trans (But2.of_below (m1:=gb) (m2:=mb) hbq))
     have HKQ:=Lib.hid (HKR.out.below hbq HKR.out.lt)
     clear n2 n4 nl2 k1 k2 kl2 c1 c2 hbl2 hbv2 hbq
     generalize wr.drewN nq=w2 at *
     have o0:=HXQ.out.O.cell 0
     have ol2:=HXQ.out.O.lt
     obtain ⟨gg,hge,hgg,hgl,hgc,hgf,-⟩:=HXQ.out.I.at (i:=q) (by rw [HXQ.out.len];exact hql)
     injection hge with hge
     injection hge with hge
     subst hge
     have HX3:=Lib.hid (HXQ.out.put hql 0)
     rw [HOR.out,show out.set q 0=out by rw [←HQ0.out];exact list_set_same] at HX3
     have HB3:=Lib.hid (HBQ.out.trans (But2.of_grown (m1:=gb) (m2:=mb) (grown_setCell w2 gb q (.int .i64 0)) (.inl rfl)))
     have hWg:W.heap.size≠gb:=by have h1:=HH.out.I;obtain ⟨g1,e1,-,h2,-⟩:=h1.at (i:=q) (by rw [HH.out.len];exact hql);injection e1 with e1;injection e1 with e1;omega
     have HK3:Hid (Blk (w2.setCell ⟨gb,q,none⟩ (.int .i64 0)) W.heap.size 280 _):=(Below.heap_setCell _ _ _ _ hWg).trans HKQ.out
     go_upto_region 13 with fail
     clear o0 ol2 hgl hgc hgf
     generalize w2.setCell ⟨gb,q,none⟩ (.int .i64 0)=w3 at *
     have m7:=HX3.out.N.cell 7
     have ml:=HX3.out.N.lt
     have k0:=HK3.out.cell 0
     have k1:=HK3.out.cell 1
     have k2:=HK3.out.cell 2
     have kl2:=HK3.out.lt
     have hown:=HX3.out.M
     have hkl2:keyOf Tryz.prog 280 (.agg #[.int .i64 (at_:Int),.int .i64 (s:Int),.int .i64 (w:Int)])=some (.string str):=hkl
     have hkm:k*cB (N-(at_+1))≤91*cB (N-(at_+1)):=Nat.mul_le_mul_right _ (by omega)
     have hmx:n' < maxLen:=by have:=HCB.out;simp only [maxLen];omega
     have hn5:n'+1≤nn+cB (N-at_):=by have:=HCB.out;omega
     have HN5:=Lib.hid hn5
     clear hkm hn5 ih
     go_wp2_with ((at_mapUpdate
                   refine wpList_mapUpdate_own _ rfl _ _ _ 256 rfl 280 4 keyed193 Tryz.underlying256 (plainElem Tryz.prog 4) mb n' D' rfl hown hmx _ _ (.string str) rfl rfl hkl2 (.lit (.bool true)) [] (plainElem_bool Tryz.underlying4 true) ?_
                   intro w5 hown5 hgrow5
                   have HX5:=Lib.hid (HX3.out.ins hgrow5 hown5 (HX3.out.F.put hkl HEX.out))
                   have HB5:=Lib.hid (HB3.out.trans (But2.of_grown (m1:=gb) (m2:=mb) hgrow5 (.inr rfl)))
                   clear hown5 hgrow5 m7 ml k0 k1 k2 kl2 hown))
     go_ret
     exact ⟨HB5.out,out,n'+1,_,HX5.out,by omega,by rw [HN.out];exact HN5.out,.inl ⟨HEX.out,rfl,rfl⟩⟩
end Go.Proofs.YtbnganlfelgogaaGreat
namespace Go.Proofs.YtbnganlfelgogaaGreat
open Go.RowKit
theorem try_any {w0:World} {f:Fnt} {v vs vl:Value} {qs:List (Nat × Nat)} {sp lim:List Int} (hP:XP w0 f v vs vl qs sp lim) {nb ob tb mb gb co:Nat} {a b:Int} :
 ∀ (m at_:Nat),at_+m=sp.length→∀ (s w:Nat) (W:World) (out:List Int) (nn:Nat) (D:DataW Unit),s≤90→w≤20000→XS w0 W nb ob tb mb gb co f v vs vl a b qs out nn D→(∀ j,at_≤j→j < sp.length→gz out (gz sp j).toNat=0)→nn+cB (sp.length-at_)≤1000000000000000000→
  Calls Tryz.prog 206 #[.agg #[.int .i64 (at_:Int),.int .i64 (s:Int),.int .i64 (w:Int)],.pointer (some ⟨nb,0,none⟩),.pointer (some ⟨ob,0,none⟩),.pointer (some ⟨tb,0,none⟩)] W (XPost w0 W nb ob tb mb gb co f v vs vl a b qs sp out nn at_ s w)
 | 0,at_,hm,s,w,W,out,nn,D,hs,hw,hX,hz,hn=>by
  have e:at_=sp.length:=by omega
  subst e
  exact try_end hP hX s w hs hw
 | m+1,at_,hm,s,w,W,out,nn,D,hs,hw,hX,hz,hn=>
  try_at hP at_ (by omega) (fun s w W out nn D h1 h2 h3 h4 h5=>try_any hP m (at_+1) (by omega) s w W out nn D h1 h2 h3 h4 h5) s w W out nn D hs hw hX hz hn
end Go.Proofs.YtbnganlfelgogaaGreat
