/- A region that draws its order, whose last operations (stores) wait for all others: the others in whatever order, loads taken first, then the rest in the order of the text. -/
import Derived.OrdersHeld
import Derived.StillTail
import Derived.WalkKit
import Derived.KernelRfl
import Derived.Test.YtbnganlfelgogaaGreatVBas
set_option linter.unusedSimpArgs false
set_option linter.unusedVariables false
set_option maxRecDepth 100000
set_option maxHeartbeats 40000000
namespace Go.Proofs.YtbnganlfelgogaaGreat
open Go.RowKit
section
variable {P:Program} {ops:Array Oper} {Q:Exit→Act→World→Prop} {md:Region.Mode} {S:World→Prop} {D:Array Bool→Act→World→Prop}
def wpG (P:Program) (md:Region.Mode) (ops:Array Oper) (Q:Exit→Act→World→Prop) (S:World→Prop) (D:Array Bool→Act→World→Prop):Nat→Array Bool→Act→World→Prop
 | 0,listed,a,w=>D listed a w
 | f+1,listed,a,w=>Region.ready md ops listed≠[]∧∀ i ∈ Region.ready md ops listed,wpOp P ops Q i (fun a' w'=>S w'∧wpG P md ops Q S D f (listed.setIfInBounds i true) a' w') a w
theorem wpAny_of_wpG {g:Nat} (hD:∀ listed a w,D listed a w→wpAny P md ops Q g listed a w):∀ (f:Nat) (listed:Array Bool) (a:Act) (w:World),wpG P md ops Q S D f listed a w→wpAny P md ops Q (f+g) listed a w
 | 0,listed,a,w,h=>by rw [Nat.zero_add];exact hD _ _ _ h
 | f+1,listed,a,w,h=>by
  rw [show f+1+g=(f+g)+1 by omega]
  exact ⟨fun h0=>absurd h0 h.1,fun i hi=>wpOp_mono (fun a' w' h'=>wpAny_of_wpG hD f _ a' w' h'.2) (h.2 i hi)⟩
def Sink (md:Region.Mode) (ops:Array Oper) (n:Nat) (listed:Array Bool):Prop:=∀ i,i < n→listed.getD i false=false→∃ j,j≤n∧i < j∧Region.waitsFor md ops j i=true
theorem Sink.set {n i:Nat} {listed:Array Bool} (h:Sink md ops n listed):Sink md ops n (listed.setIfInBounds i true):=fun k hk hl=>by
 refine h k hk ?_
 by_cases e:i=k
 · subst e
   rcases Nat.lt_or_ge i listed.size with h' | h'
   · simp [h'] at hl
   · simp [Array.getElem?_eq_none h']
 · rwa [getD_set_ne false e] at hl
theorem tail_waits' {n:Nat} {listed:Array Bool} (hs:Sink md ops n listed) (hc:Region.chainB md ops n=true) (inv:HeadInv md ops n listed) (hn:n < ops.size) :
 ∀ (d i:Nat),n-i=d→i < n→listed.getD i true=false→∀ t,n≤t→t ∉ Region.ready md ops listed:=by
 intro d
 induction d using Nat.strongRecOn with
 | _ d ih=>
  intro i hd hi hun t ht hr
  obtain ⟨_,ot,hot,hall⟩:=mem_ready.1 hr
  have htlt:t < ops.size:=(Array.getElem?_eq_some_iff.1 hot).1
  by_cases htn:t=n
  · subst htn
    obtain ⟨j,hjle,hij,hw⟩:=hs i hi (getD_both hun)
    obtain ⟨oj,hoj,e,he,hb,hon⟩:=Region.waitsFor_spec hw
    by_cases hjt:j=t
    · subst hjt
      have:oj=ot:=Option.some.inj (hoj.symm.trans hot)
      subst this
      have h2:=hall e he hb
      rw [hon,getD_both hun] at h2
      cases h2
    · cases hl:listed.getD j false with
      | true=>
       have h2:=inv.closed j oj hoj hl e he hb
       rw [hon,getD_both hun] at h2
       cases h2
      | false=>
       have hjs:j < listed.size:=by rw [inv.size];omega
       exact ih (t-j) (by omega) j rfl (by omega) (getD_in hjs hl) t (Nat.le_refl _) hr
  · have h1:=List.all_eq_true.1 hc t (List.mem_range.2 htlt)
    simp only [Bool.or_eq_true,decide_eq_true_eq] at h1
    rcases h1 with h1 | h1
    · omega
    · obtain ⟨o',ho',e,he,hb,hon⟩:=Region.waitsFor_spec h1
      have:o'=ot:=Option.some.inj (ho'.symm.trans hot)
      subst this
      have h2:=hall e he hb
      rw [hon,getD_both (inv.tail (t-1) (by omega) (by omega))] at h2
      cases h2
theorem wpG_first {n i:Nat} {oi:Oper} {v:Value} (hi:ops[i]?=some oi) (hsel:∀ (j:Nat) (o:Oper) cs b,ops[j]?=some o→o.op≠.select cs b)
 (hc:Region.chainB md ops n=true) (hn:n < ops.size) (hin:i < n)
 (hdone:∀ listed a w,D listed a w→∀ j ∈ Region.ready md ops listed,n≤j) (hQ:∀ c a w,Q (.panic c) (a.put oi.dst v) w→Q (.panic c) a w) :
 ∀ (f:Nat) (listed:Array Bool) (a:Act) (w:World),HeadInv md ops n listed→Sink md ops n listed→
  (∀ j oj,ops[j]?=some oj→j≠i→listed.getD j true=false→(∀ e ∈ oj.after,Region.binds md e=true→e.on≠i)→oi.apart ops oj=true)→
  i ∈ Region.ready md ops listed→YieldsIf P ops S oi v a→S w→
  wpG P md ops Q S D f (listed.setIfInBounds i true) (a.put oi.dst v) w→wpG P md ops Q S D (f+1) listed a w:=by
 intro f
 induction f with
 | zero=>
  intro listed a w inv hs _ hr hy hS H
  have hun:=(mem_ready.1 hr).1
  refine ⟨fun h=>(by rw [h] at hr;cases hr),fun j hj=>?_⟩
  have hjn:j < n:=by
   rcases Nat.lt_or_ge j n with h | h
   · exact h
   · exact absurd hj (tail_waits' hs hc inv hn _ i rfl hin hun j h)
  by_cases hji:j=i
  · subst hji;exact hy.wpOp hi hS ⟨hS,H⟩
  · have:=hdone _ _ _ H j (ready_mono hj hji)
    omega
 | succ f ih=>
  intro listed a w inv hs hfree hr hy hS H
  have hun:=(mem_ready.1 hr).1
  refine ⟨fun h=>(by rw [h] at hr;cases hr),fun j hj=>?_⟩
  have hjn:j < n:=by
   rcases Nat.lt_or_ge j n with h | h
   · exact h
   · exact absurd hj (tail_waits' hs hc inv hn _ i rfl hin hun j h)
  by_cases hji:j=i
  · subst hji;exact hy.wpOp hi hS ⟨hS,H⟩
  · have h1:=H.2 j (ready_mono hj hji)
    obtain ⟨hjun,oj,hoj,hall⟩:=mem_ready.1 hj
    have hnot:∀ e ∈ oj.after,Region.binds md e=true→e.on≠i:=fun e he hb heq=>by
     have h1:=hall e he hb
     rw [heq,getD_both hun] at h1
     cases h1
    have h2:=wpOp_putIf hoj (hfree j oj hoj hji hjun hnot) (fun cs b=>hsel i oi cs b hi) (fun cs b=>hsel j oj cs b hoj) hQ hy h1
    have hfree':∀ k ok,ops[k]?=some ok→k≠i→(listed.setIfInBounds j true).getD k true=false→
     (∀ e ∈ ok.after,Region.binds md e=true→e.on≠i)→oi.apart ops ok=true:=fun k ok hk hki hun hno=>by
     refine hfree k ok hk hki ?_ hno
     by_cases hjk:j=k
     · subst hjk;exact hjun
     · rw [getD_set_ne true hjk] at hun;exact hun
    refine wpOp_mono (fun a' w' h3=>⟨h3.2.1,ih (listed.setIfInBounds j true) a' w' (inv.set hj hjn) hs.set hfree' (ready_mono hr (Ne.symm hji)) h3.1 h3.2.1 ?_⟩) h2
    rw [Array.setIfInBounds_comm _ _ hji]
    exact h3.2.2
def headB (md:Region.Mode) (ops:Array Oper) (n:Nat) (listed:Array Bool):Bool:=
 listed.size == ops.size && (List.range ops.size).all (fun j=>!(listed.getD j false) || ((ops[j]?).map fun o=>o.after.all fun e=>!(Region.binds md e) || listed.getD e.on false).getD true) &&
  (List.range ops.size).all (fun t=>decide (t < n) || !(listed.getD t true)) && (List.range n).all fun i=>listed.getD i false || (List.range (n+1)).any fun j=>decide (i < j) && Region.waitsFor md ops j i
theorem headB_sink {n:Nat} {listed:Array Bool} (h:headB md ops n listed=true):Sink md ops n listed:=by
 simp only [headB,Bool.and_eq_true,beq_iff_eq] at h
 intro i hi hl
 have:=List.all_eq_true.1 h.2 i (List.mem_range.2 hi)
 rw [hl] at this
 simp only [Bool.false_or,List.any_eq_true,List.mem_range,Bool.and_eq_true,decide_eq_true_eq] at this
 obtain ⟨j,h1,h2,h3⟩:=this
 exact ⟨j,by omega,h2,h3⟩
theorem headB_spec {n:Nat} {listed:Array Bool} (h:headB md ops n listed=true):HeadInv md ops n listed:=by
 simp only [headB,Bool.and_eq_true,beq_iff_eq] at h
 obtain ⟨⟨⟨h1,h2⟩,h3⟩,_⟩:=h
 refine ⟨h1,fun j oj hj hl e he hb=>?_,fun t ht ht'=>?_⟩
 · have:=List.all_eq_true.1 h2 j (List.mem_range.2 (Array.getElem?_eq_some_iff.1 hj).1)
   rw [hl,hj] at this
   simp only [Bool.not_true,Bool.false_or,Option.map_some,Option.getD_some] at this
   have:=Array.all_eq_true'.1 this e he
   rw [hb] at this
   simpa using this
 · have:=List.all_eq_true.1 h3 t (List.mem_range.2 ht')
   simp only [Bool.or_eq_true,decide_eq_true_eq,Bool.not_eq_true'] at this
   rcases this with h | h
   · omega
   · exact h
def TailD (P:Program) (md:Region.Mode) (ops:Array Oper) (Q:Exit→Act→World→Prop) (n:Nat) (listed:Array Bool) (a:Act) (w:World):Prop:=
 Region.seqB md ops (ops.size-n) n listed=true∧wpList P ops Q (ops.toList.drop n) a w
def splitB (md:Region.Mode) (ops:Array Oper) (n:Nat):Bool:=Region.noSelect ops && decide (n < ops.size) && Region.chainB md ops n
theorem wp_region_split {id:Nat} {a:Act} {w:World} {l:List Oper} (S:World→Prop) (n:Nat) (hm:P.follows .mixedOrders=true) (hn:n < l.length)
 (h:wpG P .any l.toArray Q S (TailD P .any l.toArray Q n) n (Array.replicate l.toArray.size false) a w.drew):(Code.region id l.toArray true).wp P Q a w:=by
 refine wp_region_any hm ?_
 have:=wpAny_of_wpG (Q:=Q) (g:=l.toArray.size-n) (fun listed a' w' hL=>by
  have:=wpAny_of_seq (ops:=l.toArray) (md:=.any) (Q':=Q) (l.drop n) n listed a' w' (fun j=>by simp [List.getElem?_drop]) (by simpa using hL.1) (by simpa using hL.2)
  simpa using this) _ _ _ _ h
 have e:n+(l.toArray.size-n)=l.toArray.size:=by simp;omega
 rw [e] at this
 exact this
theorem wpG_take (n i:Nat) {oi:Oper} {v:Value} {f:Nat} {listed:Array Bool} {a:Act} {w:World} (hi:ops[i]?=some oi)
 (hB:(splitB md ops n && headB md ops n listed && Region.free md ops listed i && (Region.ready md ops listed).contains i && decide (i < n))=true)
 (hQ:∀ c a w,Q (.panic c) (a.put oi.dst v) w→Q (.panic c) a w) (hy:YieldsIf P ops S oi v a) (hS:S w)
 (h:wpG P md ops Q S (TailD P md ops Q n) f (listed.setIfInBounds i true) (a.put oi.dst v) w):wpG P md ops Q S (TailD P md ops Q n) (f+1) listed a w:=by
 simp only [splitB,Bool.and_eq_true,decide_eq_true_eq] at hB
 obtain ⟨⟨⟨⟨⟨⟨hsel,hn⟩,hc⟩,hh⟩,hf⟩,hr⟩,hin⟩:=hB
 exact wpG_first hi (Region.noSelect_spec hsel) hc hn hin (fun _ _ _ hL=>seqB_ready hL.1) hQ f listed a w (headB_spec hh) (headB_sink hh) (Region.free_spec hi hf) (by simpa using hr) hy hS h
theorem wpG_all {rs:List Nat} {f:Nat} {listed:Array Bool} {a:Act} {w:World} (hr:Region.ready md ops listed=rs) (hne:rs≠[])
 (h:∀ i ∈ rs,wpOp P ops Q i (fun a' w'=>S w'∧wpG P md ops Q S D f (listed.setIfInBounds i true) a' w') a w):wpG P md ops Q S D (f+1) listed a w:=
 ⟨fun h0=>hne (hr ▸ h0),hr ▸ h⟩
theorem wpG_one {i:Nat} {f:Nat} {listed:Array Bool} {a:Act} {w:World} (hr:Region.ready md ops listed=[i])
 (h:wpOp P ops Q i (fun a' w'=>S w'∧wpG P md ops Q S D f (listed.setIfInBounds i true) a' w') a w):wpG P md ops Q S D (f+1) listed a w:=
 wpG_all hr (by simp) fun j hj=>by have:j=i:=by simpa using hj
                                   subst this;exact h
theorem wpG_two {i k:Nat} {f:Nat} {listed:Array Bool} {a:Act} {w:World} (hr:Region.ready md ops listed=[i,k])
 (h1:wpOp P ops Q i (fun a' w'=>S w'∧wpG P md ops Q S D f (listed.setIfInBounds i true) a' w') a w)
 (h2:wpOp P ops Q k (fun a' w'=>S w'∧wpG P md ops Q S D f (listed.setIfInBounds k true) a' w') a w):wpG P md ops Q S D (f+1) listed a w:=
 wpG_all hr (by simp) fun j hj=>by
  have:j=i∨j=k:=by simpa using hj
  rcases this with rfl | rfl
  · exact h1
  · exact h2
theorem wpOp_step {i:Nat} {o:Oper} {K:Act→World→Prop} {a:Act} {w:World} (hi:ops[i]?=some o)
 (h:∀ K':Act→World→Prop,(∀ a w,K a w→K' a w)→if Region.wanted o (yielded ops a.tmps) then o.wp P a w K' Q else K' (a.put o.dst undef) w):wpOp P ops Q i K a w:=by
 unfold wpOp
 simp only [hi]
 have:=h K (fun _ _ h=>h)
 split
 · rename_i hw;rw [if_pos hw] at this;exact .inl this
 · rename_i hw;rw [if_neg hw] at this;exact this
end
end Go.Proofs.YtbnganlfelgogaaGreat
namespace Go.Proofs.YtbnganlfelgogaaGreat
theorem gz_mem {zs:List Int} {j:Nat} (h:j < zs.length):gz zs j ∈ zs:=by rw [gz_get h];exact List.getElem_mem h
theorem mem_gz {zs:List Int} {s:Int} (h:s ∈ zs):∃ j,j < zs.length∧gz zs j=s:=by
 obtain ⟨j,hj,rfl⟩:=List.getElem_of_mem h
 exact ⟨j,hj,gz_get hj⟩
theorem cutW_mem {ns:Nat} {ws:List PWord} (h:WsOk ns ws) {a b:Nat × Nat} {i:Nat} (hi:i < ws.length) {s:Int} (hs:s ∈ cutW ws a b i):0≤s∧s < ns:=by
 unfold cutW at hs
 obtain ⟨j,hj,rfl⟩:=mem_gz (List.mem_of_mem_take (List.mem_of_mem_drop hs))
 exact (h i hi).st j hj
theorem rawP_mem {ns:Nat} {ws:List PWord} (h:WsOk ns ws) {a b:Nat × Nat}:∀ {k:Nat},a.1+k≤ws.length→∀ {s:Int},s ∈ (rawP ws a b k).flatten→0≤s∧s < ns:=by
 intro k
 induction k with
 | zero=>intro _ s hs;simp [rawP] at hs
 | succ k ih=>
  intro hk s hs
  unfold rawP at hs
  split at hs
  · rw [List.flatten_append,List.mem_append] at hs
    rcases hs with hs | hs
    · exact ih (by omega) hs
    · exact cutW_mem h (i:=a.1+k) (by omega) (by simpa using hs)
  · exact ih (by omega) hs
theorem rawP_len60 {ns:Nat} {ws:List PWord} (h:WsOk ns ws) {a b:Nat × Nat} (hb:PlIn ws b):∀ {k:Nat},a.1+k≤ws.length→lenS (rawP ws a b k)≤k*60∧(rawP ws a b k).length≤k:=by
 intro k
 induction k with
 | zero=>intro _;simp [rawP,lenS]
 | succ k ih=>
  intro hk
  have h1:=ih (by omega)
  unfold rawP
  split
  · rw [lenS_snoc,cutW_len (hb.cutE _ (by omega))]
    have h2:=hb.cutE (a.1+k) (by omega)
    have h3:=(h (a.1+k) (by omega)).most
    simp only [List.length_append,List.length_cons,List.length_nil]
    omega
  · omega
theorem cnt_le (ws:List PWord) (a b:Nat × Nat) (ha:a.1≤ws.length):a.1+cnt ws a b≤ws.length:=by unfold cnt;omega
theorem flat_hyph {h:Int} {l:List (List Int)} (hl:0 < l.length):(hyph h l).flatten=l.flatten++[h]:=by
 obtain ⟨a,x,rfl⟩:∃ a x,l=a++[x]:=⟨l.dropLast,l.getLast (List.ne_nil_of_length_pos hl),(List.dropLast_concat_getLast _).symm⟩
 rw [hyph_snoc]
 simp
theorem pieces_mem {ns:Nat} {ws:List PWord} (h:WsOk ns ws) {hy:Int} (hh:0≤hy∧hy < ns) {a b:Nat × Nat} (ha:a.1≤ws.length) (hl:0 < (rawP ws a b (cnt ws a b)).length) {s:Int} (hs:s ∈ (piecesF ws hy a b).flatten):0≤s∧s < ns:=by
 unfold piecesF at hs
 split at hs
 · rw [flat_hyph hl,List.mem_append] at hs
   rcases hs with hs | hs
   · exact rawP_mem h (cnt_le ws a b ha) hs
   · have:s=hy:=by simpa using hs
     subst this;exact hh
 · exact rawP_mem h (cnt_le ws a b ha) hs
theorem pieces_len60 {ns:Nat} {ws:List PWord} (h:WsOk ns ws) {hy:Int} {a b:Nat × Nat} (ha:a.1≤ws.length) (hb:PlIn ws b) (hl:0 < (rawP ws a b (cnt ws a b)).length):(piecesF ws hy a b).flatten.length≤ws.length*60+1∧(piecesF ws hy a b).length≤ws.length:=by
 have h1:=pieces_len (h:=hy) hl
 have h2:=rawP_len60 h hb (a:=a) (cnt_le ws a b ha)
 have h3:=cnt_le ws a b ha
 unfold lenS at *
 omega
theorem widL_app (f:Fnt) (a b:List Int):widL f (a++b)=widL f a+widL f b:=by unfold widL;simp
theorem widL_take {f:Fnt} {zs:List Int} {k:Nat} (h:k < zs.length):widL f (zs.take (k+1))=widL f (zs.take k)+wd f (gz zs k):=by
 rw [List.take_succ_eq_append_getElem h,widL_app,gz_get h]
 simp [widL]
theorem wd_ok {f:Fnt} (h:(fnErr f).2=0) {s:Int} (hs:0≤s∧s < f.sorts.length):1≤wd f s∧wd f s≤100000:=by
 unfold fnErr at h
 by_cases h1:isNm f.name=false
 · rw [if_pos h1] at h;omega
 rw [if_neg h1] at h
 by_cases h2:win f.body 1 144=false
 · rw [if_pos h2] at h;omega
 rw [if_neg h2] at h
 by_cases h3:f.sorts.length=0
 · omega
 rw [if_neg h3] at h
 by_cases h4:120 < f.sorts.length
 · rw [if_pos h4] at h;omega
 rw [if_neg h4] at h
 have h5:=fstE_zero h s.toNat (by omega)
 unfold soErr at h5
 by_cases a1:isNm (gs f.sorts s.toNat).name=false
 · rw [if_pos a1] at h5;omega
 rw [if_neg a1] at h5
 by_cases a2:hasNm f.sorts s.toNat (gs f.sorts s.toNat).name=true
 · rw [if_pos a2] at h5;omega
 rw [if_neg a2] at h5
 by_cases a3:win (gs f.sorts s.toNat).kind 1 3=false
 · rw [if_pos a3] at h5;omega
 rw [if_neg a3] at h5
 by_cases a4:win (gs f.sorts s.toNat).width 1 100000=false
 · rw [if_pos a4] at h5;omega
 have a5:win (gs f.sorts s.toNat).width 1 100000=true:=by simpa using a4
 exact win_t.1 a5
theorem widL_bound {f:Fnt} (h:(fnErr f).2=0):∀ {zs:List Int},(∀ s ∈ zs,0≤s∧s < f.sorts.length)→0≤widL f zs∧widL f zs≤zs.length*100000
 | [],_=>by simp [widL]
 | z :: l,hz=>by
  have h1:=widL_bound h (zs:=l) (fun s hs=>hz s (List.mem_cons_of_mem _ hs))
  have h2:=wd_ok h (hz z List.mem_cons_self)
  have e:widL f (z :: l)=wd f z+widL f l:=by simp [widL]
  rw [e,List.length_cons]
  omega
theorem few_sorts {f:Fnt} (h:(fnErr f).2=0):f.sorts.length≤120:=by
 unfold fnErr at h
 by_cases h1:isNm f.name=false
 · rw [if_pos h1] at h;omega
 rw [if_neg h1] at h
 by_cases h2:win f.body 1 144=false
 · rw [if_pos h2] at h;omega
 rw [if_neg h2] at h
 by_cases h3:f.sorts.length=0
 · omega
 rw [if_neg h3] at h
 by_cases h4:120 < f.sorts.length
 · rw [if_pos h4] at h;omega
 omega
end Go.Proofs.YtbnganlfelgogaaGreat
