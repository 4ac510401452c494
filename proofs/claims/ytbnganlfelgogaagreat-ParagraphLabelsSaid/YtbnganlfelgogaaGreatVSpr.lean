/- Plain: spaces spread into gaps. -/
import Derived.Test.YtbnganlfelgogaaGreatVWid
import Derived.Test.YtbnganlfelgogaaGreatVPst
import Derived.Lib.QuietBelow
set_option linter.unusedSimpArgs false
set_option linter.unusedVariables false
set_option maxRecDepth 100000
set_option maxHeartbeats 40000000
namespace Go.Proofs.YtbnganlfelgogaaGreat
def bst (f:Fnt) (out:List (List Int)):Nat→Int
 | 0=>-1
 | k+1=>if (gl out k).length < 3∧(bst f out k < 0∨widL f (gl out k) < widL f (gl out (bst f out k).toNat)) then (k:Int) else bst f out k
def sprK (f:Fnt) (ss:List Int) (gaps:Nat):Nat→List (List Int)
 | 0=>List.replicate gaps []
 | k+1=>(sprK f ss gaps k).set (bst f (sprK f ss gaps k) gaps).toNat (gl (sprK f ss gaps k) (bst f (sprK f ss gaps k) gaps).toNat++[gz ss k])
def sprR (f:Fnt) (cs:List Int) (gaps:Nat):List (List Int):=sprK f (widR f cs) gaps (widR f cs).length
theorem bst_range (f:Fnt) (out:List (List Int)):∀ k,bst f out k=-1∨(0≤bst f out k∧bst f out k < (k:Int)∧(gl out (bst f out k).toNat).length < 3)
 | 0=>.inl rfl
 | k+1=>by
  unfold bst
  split
  · rename_i h
    right
    refine ⟨by omega,by omega,?_⟩
    rw [show ((k:Nat):Int).toNat=k from rfl]
    exact h.1
  · rcases bst_range f out k with h | ⟨h1,h2,h3⟩
    · exact .inl h
    · exact .inr ⟨h1,by omega,h3⟩
theorem bst_none (f:Fnt) (out:List (List Int)):∀ k,bst f out k < 0→∀ j,j < k→3≤(gl out j).length
 | 0,_,j,hj=>absurd hj (Nat.not_lt_zero _)
 | k+1,h,j,hj=>by
  unfold bst at h
  split at h
  · omega
  · rename_i hn
    by_cases e:j=k
    · subst e
      rcases Nat.lt_or_ge (gl out j).length 3 with h3 | h3
      · exact absurd ⟨h3,.inl h⟩ hn
      · exact h3
    · exact bst_none f out k h j (by omega)
theorem bst_least (f:Fnt) (out:List (List Int)):∀ k,∀ j,j < k→(gl out j).length < 3→0≤bst f out k∧widL f (gl out (bst f out k).toNat)≤widL f (gl out j)
 | 0,j,hj,_=>absurd hj (Nat.not_lt_zero _)
 | k+1,j,hj,h3=>by
  unfold bst
  split
  · rename_i h
    refine ⟨by omega,?_⟩
    rw [show ((k:Nat):Int).toNat=k from rfl]
    by_cases e:j=k
    · subst e;exact Int.le_refl _
    · have ih:=bst_least f out k j (by omega) h3
      rcases h.2 with h2 | h2
      · omega
      · omega
  · rename_i h
    by_cases e:j=k
    · subst e
      rcases Int.lt_or_le (bst f out j) 0 with h4 | h4
      · exact absurd ⟨h3,.inl h4⟩ h
      · refine ⟨h4,?_⟩
        rcases Int.lt_or_le (widL f (gl out j)) (widL f (gl out (bst f out j).toNat)) with h5 | h5
        · exact absurd ⟨h3,.inr h5⟩ h
        · exact h5
    · exact bst_least f out k j (by omega) h3
theorem gl_cons0 (l:List Int) (ls:List (List Int)):gl (l :: ls) 0=l:=rfl
theorem gl_consS (l:List Int) (ls:List (List Int)) (i:Nat):gl (l :: ls) (i+1)=gl ls i:=rfl
theorem full_flat:∀ (out:List (List Int)),(∀ j,j < out.length→3≤(gl out j).length)→3*out.length≤out.flatten.length
 | [],_=>by simp
 | l :: ls,h=>by
  have h0:=h 0 (by simp)
  have ih:=full_flat ls (fun j hj=>h (j+1) (by simp;omega))
  rw [gl_cons0] at h0
  rw [List.flatten_cons,List.length_append,List.length_cons]
  omega
theorem set_flat:∀ (out:List (List Int)) (b:Nat) (x:Int),b < out.length→(out.set b (gl out b++[x])).flatten.Perm (out.flatten++[x])
 | [],b,x,h=>absurd h (Nat.not_lt_zero _)
 | l :: ls,0,x,_=>by
  rw [List.set_cons_zero,gl_cons0,List.flatten_cons,List.flatten_cons,List.append_assoc,List.append_assoc]
  exact List.Perm.append_left _ List.perm_append_comm
 | l :: ls,b+1,x,h=>by
  rw [List.set_cons_succ,gl_consS,List.flatten_cons,List.flatten_cons,List.append_assoc]
  exact List.Perm.append_left _ (set_flat ls b x (by simpa using h))
theorem gl_set {out:List (List Int)} {b j:Nat} {l:List Int} (hb:b < out.length):gl (out.set b l) j=if j=b then l else gl out j:=by
 unfold gl
 rw [List.getD_eq_getElem?_getD,List.getD_eq_getElem?_getD,List.getElem?_set]
 by_cases e:b=j
 · subst e;simp [hb]
 · rw [if_neg e,if_neg (fun h=>e h.symm)]
theorem gl_rep (n j:Nat):gl (List.replicate n ([]:List Int)) j=[]:=by
 unfold gl
 rw [List.getD_eq_getElem?_getD,List.getElem?_replicate]
 split <;> rfl
theorem flat_rep:∀ n,(List.replicate n ([]:List Int)).flatten=[]
 | 0=>rfl
 | n+1=>by rw [List.replicate_succ,List.flatten_cons,flat_rep n];rfl
theorem take_snoc {ss:List Int} {k:Nat} (h:k < ss.length):ss.take (k+1)=ss.take k++[gz ss k]:=by
 rw [List.take_succ_eq_append_getElem h]
 simp [gz,List.getD_eq_getElem?_getD,h]
structure SprOk (ss:List Int) (gaps k:Nat) (out:List (List Int)):Prop where
 len:out.length=gaps
 perm:out.flatten.Perm (ss.take k)
 most:∀ j,j < gaps→(gl out j).length≤3
theorem spr_ok (f:Fnt) (ss:List Int) (gaps:Nat) (h:ss.length≤3*gaps):∀ k,k≤ss.length→SprOk ss gaps k (sprK f ss gaps k)
 | 0,_=>⟨List.length_replicate,by unfold sprK;rw [flat_rep];exact List.Perm.refl _,fun j _=>by unfold sprK;rw [gl_rep];simp⟩
 | k+1,hk=>by
  have ih:=spr_ok f ss gaps h k (by omega)
  have hb:0≤bst f (sprK f ss gaps k) gaps∧bst f (sprK f ss gaps k) gaps < (gaps:Int)∧(gl (sprK f ss gaps k) (bst f (sprK f ss gaps k) gaps).toNat).length < 3:=by
   rcases bst_range f (sprK f ss gaps k) gaps with h1 | h1
   · exfalso
     have h2:=bst_none f (sprK f ss gaps k) gaps (by omega)
     have h3:=full_flat (sprK f ss gaps k) (fun j hj=>h2 j (by rw [ih.len] at hj;exact hj))
     have h4:=ih.perm.length_eq
     rw [List.length_take] at h4
     rw [ih.len] at h3
     omega
   · exact h1
  have hbl:(bst f (sprK f ss gaps k) gaps).toNat < (sprK f ss gaps k).length:=by rw [ih.len];omega
  unfold sprK
  refine ⟨by rw [List.length_set];exact ih.len,?_,fun j hj=>?_⟩
  · rw [take_snoc (by omega)]
    exact (set_flat _ _ _ hbl).trans (List.Perm.append_right _ ih.perm)
  · rw [gl_set hbl]
    split
    · rw [List.length_append];simp;omega
    · exact ih.most j hj
theorem spr_best (f:Fnt) (ss:List Int) (gaps:Nat) (h:ss.length≤3*gaps) (k:Nat) (hk:k < ss.length):0≤bst f (sprK f ss gaps k) gaps∧bst f (sprK f ss gaps k) gaps < (gaps:Int):=by
 have ih:=spr_ok f ss gaps h k (by omega)
 rcases bst_range f (sprK f ss gaps k) gaps with h1 | h1
 · exfalso
   have h2:=bst_none f (sprK f ss gaps k) gaps (by omega)
   have h3:=full_flat (sprK f ss gaps k) (fun j hj=>h2 j (by rw [ih.len] at hj;exact hj))
   have h4:=ih.perm.length_eq
   rw [List.length_take] at h4
   rw [ih.len] at h3
   omega
 · exact ⟨h1.1,h1.2.1⟩
def empN (out:List (List Int)):Nat:=out.countP (fun l=>l.isEmpty)
theorem empN_set:∀ (out:List (List Int)) (b:Nat) (x:Int),b < out.length→empN (out.set b (gl out b++[x]))=if gl out b=[] then empN out-1 else empN out
 | [],b,x,h=>absurd h (Nat.not_lt_zero _)
 | l :: ls,0,x,_=>by
  rw [List.set_cons_zero,gl_cons0]
  unfold empN
  rw [List.countP_cons,List.countP_cons]
  cases l with
  | nil=>simp
  | cons a l=>simp
 | l :: ls,b+1,x,h=>by
  rw [List.set_cons_succ,gl_consS]
  have ih:=empN_set ls b x (by simpa using h)
  unfold empN at ih ⊢
  rw [List.countP_cons,List.countP_cons,ih]
  split
  · rename_i hb
    have:0 < List.countP (fun l=>l.isEmpty) ls:=by
     rw [List.countP_pos_iff]
     have hbl:b < ls.length:=by simpa using h
     refine ⟨ls[b],List.getElem_mem hbl,?_⟩
     have:gl ls b=ls[b]:=by unfold gl;rw [List.getD_eq_getElem?_getD,List.getElem?_eq_getElem hbl];rfl
     rw [←this,hb]
     rfl
    omega
  · rfl
theorem empN_zero {out:List (List Int)} (h:empN out=0):∀ j,j < out.length→1≤(gl out j).length:=by
 intro j hj
 unfold empN at h
 rw [List.countP_eq_zero] at h
 have h1:=h _ (List.getElem_mem hj)
 have h2:gl out j=out[j]:=by unfold gl;rw [List.getD_eq_getElem?_getD,List.getElem?_eq_getElem hj];rfl
 rw [h2]
 cases hq:out[j] with
 | nil=>rw [hq] at h1;simp at h1
 | cons a l=>simp
theorem empN_pos:∀ {out:List (List Int)},0 < empN out→∃ j,j < out.length∧gl out j=[]:=by
 intro out h
 unfold empN at h
 rw [List.countP_pos_iff] at h
 obtain ⟨l,hl,he⟩:=h
 obtain ⟨j,hj,e⟩:=List.getElem_of_mem hl
 refine ⟨j,hj,?_⟩
 unfold gl
 rw [List.getD_eq_getElem?_getD,List.getElem?_eq_getElem hj,Option.getD_some,e]
 cases l with
 | nil=>rfl
 | cons a l=>simp at he
theorem widL_pos {f:Fnt}:∀ {l:List Int},(∀ x,x ∈ l→1≤wd f x)→0≤widL f l∧(l≠[]→1≤widL f l)
 | [],_=>⟨by simp [widL],fun h=>absurd rfl h⟩
 | a :: l,h=>by
  have h1:=h a (by simp)
  have ih:=(widL_pos (l:=l) (fun x hx=>h x (by simp [hx]))).1
  have e:widL f (a :: l)=wd f a+widL f l:=by simp [widL]
  exact ⟨by omega,fun _=>by omega⟩
theorem spr_emp (f:Fnt) (ss:List Int) (gaps:Nat) (h:ss.length≤3*gaps) (hw:∀ x,x ∈ ss→1≤wd f x):∀ k,k≤ss.length→empN (sprK f ss gaps k)=gaps-k
 | 0,_=>by
  unfold sprK empN
  rw [List.countP_replicate]
  simp
 | k+1,hk=>by
  have ih:=spr_emp f ss gaps h hw k (by omega)
  have ok:=spr_ok f ss gaps h k (by omega)
  have hb:=spr_best f ss gaps h k (by omega)
  have hbl:(bst f (sprK f ss gaps k) gaps).toNat < (sprK f ss gaps k).length:=by rw [ok.len];omega
  unfold sprK
  rw [empN_set _ _ _ hbl]
  have hin:∀ j,∀ x,x ∈ gl (sprK f ss gaps k) j→1≤wd f x:=by
   intro j x hx
   by_cases hj:j < (sprK f ss gaps k).length
   · have h1:x ∈ (sprK f ss gaps k).flatten:=by
      rw [List.mem_flatten]
      refine ⟨(sprK f ss gaps k)[j],List.getElem_mem hj,?_⟩
      have:gl (sprK f ss gaps k) j=(sprK f ss gaps k)[j]:=by unfold gl;rw [List.getD_eq_getElem?_getD,List.getElem?_eq_getElem hj];rfl
      rw [←this];exact hx
     exact hw x (List.mem_of_mem_take (ok.perm.mem_iff.1 h1))
   · have:gl (sprK f ss gaps k) j=[]:=by unfold gl;rw [List.getD_eq_getElem?_getD,List.getElem?_eq_none (by omega)];rfl
     rw [this] at hx;cases hx
  split
  · omega
  · rename_i hne
    rcases Nat.eq_zero_or_pos (empN (sprK f ss gaps k)) with h0 | h0
    · omega
    · exfalso
      obtain ⟨j,hj,he⟩:=empN_pos h0
      have h1:=(bst_least f (sprK f ss gaps k) gaps j (by rw [←ok.len];exact hj) (by rw [he];simp)).2
      have h2:=(widL_pos (hin (bst f (sprK f ss gaps k) gaps).toNat)).2 hne
      rw [he] at h1
      have:widL f []=0:=rfl
      omega
end Go.Proofs.YtbnganlfelgogaaGreat
namespace Go.Proofs.YtbnganlfelgogaaGreat
open Go.RowKit
structure GSt (W:World) (g cap B:Nat) (pss:List (List Int)) (hd:List Value):Prop where
 row:W.ownsRow g 34 1 (.slice (some ⟨g,0,none⟩) pss.length cap) pss.length hd
 len:hd.length=pss.length
 pc:∀ i,i < pss.length→IO W B (gl pss i) (hd.getD i undef)
 sep:∀ i j t,i≠j→i < pss.length→j < pss.length→(hd.getD i undef).ownBlock=some t→(hd.getD j undef).ownBlock≠some t
 lt:g < B
theorem GSt.below {W W':World} {g cap B:Nat} {pss:List (List Int)} {hd:List Value} (h:GSt W g cap B pss hd) (hb:Below W.heap.size W W'):GSt W' g cap B pss hd:=
 ⟨h.row.kept (grown_of_below hb none) (Classical.em _),h.len,fun i hi=>(h.pc i hi).below hb,h.sep,h.lt⟩
theorem GSt.lv {W:World} {g cap B:Nat} {pss:List (List Int)} {hd:List Value} (h:GSt W g cap B pss hd):LV W pss (.slice (some ⟨g,0,none⟩) pss.length cap):=
 ⟨fun j=>hd.getD j undef,rv_of_own h.row (by rw [h.len];omega),fun i hi=>(h.pc i hi).iv⟩
theorem GSt.at {W:World} {g cap B i:Nat} {pss:List (List Int)} {hd:List Value} (h:GSt W g cap B pss hd) (hi:i < pss.length) :
 ∃ A c,hd.getD i undef=.slice A (gl pss i).length c∧W.cell? ⟨g,i,none⟩=some (.slice A (gl pss i).length c)∧W.frozen? ⟨g,i,none⟩=false∧IO W B (gl pss i) (.slice A (gl pss i).length c):=by
 have h1:=h.pc i hi
 obtain ⟨A,c,e⟩:=h1.shape
 refine ⟨A,c,e,?_,h.row.frozenAt _,by rw [←e];exact h1⟩
 rw [h.row.cellAt _ (by omega),←e,List.getD_eq_getElem?_getD,List.getElem?_eq_getElem (by rw [h.len];exact hi)]
 rfl
theorem GSt.app {W W3:World} {g cap B i:Nat} {pss:List (List Int)} {hd:List Value} {v v':Value} {x:Int} (h:GSt W g cap B pss hd) (hi:i < pss.length) (hB:B≤W.heap.size) (hv:v=hd.getD i undef)
 (hown:W3.ownsRow B 3 1 v' ((gl pss i).length+1) (zv (gl pss i)++[.int .i64 x])) (hg:W.grownBy W3 v.ownBlock) (hat:v'.ownBlock=v.ownBlock∨v'.ownBlock=some W.heap.size) :
 GSt (W3.setCell ⟨g,i,none⟩ v') g cap B (pss.set i (gl pss i++[x])) (hd.set i v'):=by
 have hvb:∀ t,v.ownBlock=some t→B≤t∧t < W.heap.size:=fun t ht=>by
  have:=h.pc i hi
  rw [←hv] at this
  exact this.lt t ht
 have hlt:=h.lt
 have hrow:W3.ownsRow g 34 1 (.slice (some ⟨g,0,none⟩) pss.length cap) pss.length hd:=h.row.kept hg (by
  have:=own_ne h.row (h.pc i hi) (by decide)
  rwa [←hv] at this)
 have hpc:∀ j,j≠i→j < pss.length→IO W3 B (gl pss j) (hd.getD j undef):=fun j hj hjl=>(h.pc j hjl).kept hg (by
  rcases hq:(hd.getD j undef).ownBlock with _ | t
  · left;rfl
  · right
    intro e
    have h3:=h.sep j i t hj hjl hi hq
    rw [←hv] at h3
    exact h3 e.symm)
 have hne3:∀ (u:Value) (l:List Int),IO W3 B l u→IO (W3.setCell ⟨g,i,none⟩ v') B l u:=fun u l hu=>ownsRow_setCell_below hu (by show g < B;omega) _
 have hnew:IO W3 B (gl pss i++[x]) v':=by
  show W3.ownsRow _ _ _ _ _ _
  rw [List.length_append,zv_app]
  exact hown
 have hone:v'.oneCell'=true:=by
  rcases hown.2 with ⟨rfl,_⟩ | ⟨_,_,_,rfl,_⟩ <;> rfl
 refine ⟨?_,by rw [List.length_set,List.length_set];exact h.len,fun j hj=>?_,fun a b t hab ha hb ht=>?_,hlt⟩
 · rw [List.length_set]
   exact (hrow.stored _ v').1
 · rw [List.length_set] at hj
   rw [gl_set hi]
   by_cases e:j=i
   · subst e
     rw [if_pos rfl,List.getD_eq_getElem?_getD,List.getElem?_set_self (by rw [h.len];omega)]
     exact hne3 _ _ hnew
   · rw [if_neg e,List.getD_eq_getElem?_getD,List.getElem?_set_ne (fun h=>e h.symm),←List.getD_eq_getElem?_getD]
     exact hne3 _ _ (hpc j e hj)
 · rw [List.length_set] at ha hb
   have hlo:∀ j,j≠i→j < pss.length→(hd.getD j undef).ownBlock=some t→v'.ownBlock≠some t:=fun j hji hjl hjt e=>by
    rcases hat with h4 | h4
    · rw [h4,hv] at e
      exact h.sep j i t hji hjl hi hjt e
    · rw [e] at h4
      injection h4 with h4
      have:=((h.pc j hjl).lt t hjt).2
      omega
   rw [List.getD_eq_getElem?_getD] at ht ⊢
   by_cases e1:a=i
   · subst e1
     rw [List.getElem?_set_self (by rw [h.len];omega)] at ht
     rw [List.getElem?_set_ne (fun h=>hab h),←List.getD_eq_getElem?_getD]
     exact fun h2=>hlo b (fun h=>hab h.symm) hb h2 ht
   · rw [List.getElem?_set_ne (fun h=>e1 h.symm),←List.getD_eq_getElem?_getD] at ht
     by_cases e2:b=i
     · subst e2
       rw [List.getElem?_set_self (by rw [h.len];omega)]
       exact hlo a e1 ha ht
     · rw [List.getElem?_set_ne (fun h=>e2 h.symm),←List.getD_eq_getElem?_getD]
       exact h.sep a b t hab ha hb ht
theorem made_one49 (n:Nat):(madeCells (Value.slice none 0 0).cells (n*1)).toList=List.replicate n (.slice none 0 0):=by
 apply List.ext_getElem
 · simp [size_madeCells]
 · intro i h1 h2
   simp [madeCells,Value.cells,Nat.mod_one]
theorem make49 (n:Nat) (hn:n≤1000) (W:World):∃ W',(Instr.makeSlice 86 (.int .i64 (n:Int)) (.int .i64 (n:Int))).run Tryz.prog W=.ok (.slice (some ⟨W.heap.size,0,none⟩) n n) W'∧
 (∀ W2:World,Below W'.heap.size W' W2→GSt W2 W.heap.size n W2.heap.size (List.replicate n []) (List.replicate n (.slice none 0 0)))∧Below W.heap.size W W'∧W.heap.size < W'.heap.size:=by
 obtain ⟨i3,hi3,hz3,hy3,hx3⟩:=info_parts info30
 obtain ⟨W',h1,h2,h3⟩:=run_makeSlice_full (P:=Tryz.prog) (w:=W) W.heap.size 86 34 i3 _ 1 Tryz.underlying86 hi3 hz3 hy3 .i64 .i64 n (by omega) (by rw [hx3];omega) (by simp only [maxLen];omega) (Nat.le_refl _)
 have hlt:=(World.ownsRow.lt h2 W.heap.size (ownBlock_some ..)).2
 refine ⟨W',h1,fun W2 hb=>?_,⟨h3.os,h3.tape,h3.output,h3.size,fun k hk=>h3.block k hk (by simp)⟩,hlt⟩
 rw [made_one49] at h2
 have h5:=hb.size
 refine ⟨?_,by simp,fun i hi=>?_,fun i j t hij hi hj ht=>?_,by omega⟩
 · rw [List.length_replicate]
   exact World.ownsRow.kept (row:=none) h2 (grown_of_below hb none) (Classical.em _)
 · rw [gl_rep,List.getD_eq_getElem?_getD,List.getElem?_replicate,if_pos (by simpa using hi)]
   exact World.ownsRow_nil _ _ _ _
 · rw [List.getD_eq_getElem?_getD,List.getElem?_replicate,if_pos (by simpa using hi)] at ht
   cases ht
end Go.Proofs.YtbnganlfelgogaaGreat
namespace Go.Proofs.YtbnganlfelgogaaGreat
open Go.RowKit Go.Lib
theorem repK_mem (os cs:List Int):∀ k,k≤os.length→∀ x,x ∈ repK os cs k→x ∈ os
 | 0,_,x,h=>by cases h
 | k+1,hk,x,h=>by
  unfold repK at h
  rcases List.mem_append.1 h with h | h
  · exact repK_mem os cs k (by omega) x h
  · have:=(List.mem_replicate.1 h).2
    subst this
    unfold gz
    rw [List.getD_eq_getElem?_getD,List.getElem?_eq_getElem (by omega)]
    exact List.getElem_mem _
theorem widR_in (f:Fnt) (cs:List Int):InF f (widR f cs):=by
 rw [inF_iff]
 intro x hx
 exact inF_iff.1 (ordW_in f) x (repK_mem _ _ _ (Nat.le_refl _) x hx)
theorem spr_in {f:Fnt} {ss:List Int} {gaps k:Nat} {out:List (List Int)} (h:SprOk ss gaps k out) (hi:InF f ss):∀ j,InF f (gl out j):=by
 intro j
 rw [inF_iff]
 intro x hx
 by_cases hj:j < out.length
 · have h1:x ∈ out.flatten:=by
    rw [List.mem_flatten]
    refine ⟨out[j],List.getElem_mem hj,?_⟩
    have:gl out j=out[j]:=by unfold gl;rw [List.getD_eq_getElem?_getD,List.getElem?_eq_getElem hj];rfl
    rw [←this];exact hx
   exact inF_iff.1 hi x (List.mem_of_mem_take (h.perm.mem_iff.1 h1))
 · have:gl out j=[]:=by unfold gl;rw [List.getD_eq_getElem?_getD,List.getElem?_eq_none (by omega)];rfl
   rw [this] at hx;cases hx
theorem io_but2 {W W':World} {B m:Nat} {zs:List Int} {v:Value} (h:IO W B zs v) (hb:But2 m m W W') (hn:∀ t,v.ownBlock=some t→t≠m):IO W' B zs v:=by
 refine ⟨h.1,?_⟩
 rcases h.2 with h2 | ⟨g,cap,cur,rfl,a1,a2,rest⟩
 · exact .inl h2
 · have:=hn g (ownBlock_some ..)
   exact .inr ⟨g,cap,cur,rfl,a1,(hb.block g (Array.getElem?_eq_some_iff.1 a2).1 this this).trans a2,rest⟩
def LvPost (w:World) (ls:List (List Int)) (e:Ending) (w':World):Prop:=∃ v,e=.returned v∧LV w' ls v∧Below w.heap.size w w'
theorem spread_any (f:Fnt) (v vs:Value) (cs:List Int) (vc:Value) (gaps:Nat) (w:World) (hv:SoV w f.sorts v) (hs:IV w (spl f.sorts f.sorts.length) vs) (hc:IV w cs vc) (hok:(fnErr f).2=0) (hk:(spl f.sorts f.sorts.length).length < 20)
 (hcs:CsOk f.sorts.length cs) (htot:(widR f cs).length≤3*gaps) (hg:gaps≤100) :
 Calls Tryz.prog 197 #[.agg (xfs f v vs),vc,.int .i64 (gaps:Int)] w (LvPost w (sprR f cs gaps)):=by
 have hfew:=fnErr_few hok
 obtain ⟨W0,hW0⟩:∃ x,x=w.alloc (.cells (xfs f v vs) 189):=⟨_,rfl⟩
 have hb0:Below w.heap.size w W0:=by rw [hW0];exact below_new w _
 have hX0:Blk W0 w.heap.size 189 (xfs f v vs):=by rw [hW0];exact Blk.new w 189 _
 have hsz0:W0.heap.size=w.heap.size+1:=by rw [hW0];simp
 obtain ⟨W1,hmk,hgs,hb1,hlt1⟩:=make49 gaps (by omega) W0
 have HGS:=Lib.hid hgs
 have HB1:=Lib.hid (hb0.trans (hb1.mono hb0.size))
 have HX1:=Lib.hid (hX0.below hb1 hX0.lt)
 have HV:=Lib.hid hv
 have hWID:=widest_any f v vs cs vc W1 (hv.below HB1.out) (hs.below HB1.out) (hc.below HB1.out) hfew.1 (by omega) hk hcs (by omega)
 have HWID:=Lib.hid hWID
 have HOK:=Lib.hid hok
 have HSB:=Lib.hid (spr_best f (widR f cs) gaps htot)
 have HSO:=Lib.hid (spr_ok f (widR f cs) gaps htot)
 have HWI:=Lib.hid (widR_in f cs)
 obtain ⟨Av,cv,rfl⟩:=hv.shape
 obtain ⟨As,_,_,cz,rfl,-⟩:=hs.open
 obtain ⟨Ac,_,_,cc,rfl,-⟩:=hc.open
 have hx1:=HX1.out
 have x0:=hx1.cell 0
 have x1:=hx1.cell 1
 have x2:=hx1.cell 2
 have x3:=hx1.cell 3
 have xl:=hx1.lt
 have HP:Hid (∀ W,Below w.heap.size w W→∀ u,LV W (sprR f cs gaps) u→LvPost w (sprR f cs gaps) (.returned u) W):=(show ∀ W,_ from fun W h1 u h2=>⟨u,rfl,h2,h1⟩)
 have HSE:Hid (sprR f cs gaps=sprK f (widR f cs) gaps (widR f cs).length):=rfl
 have HSZ0:=Lib.hid hsz0
 clear hv hs hc hb0 hX0 hsz0 hgs hb1 hWID hok hx1
 go_enter Tryz.func197,Tryz.ntmps197
 go_upto_region 1 with fail
 change Code.wp _ _ _ _ (w.alloc (.cells (xfs f (.slice Av f.sorts.length cv) (.slice As (spl f.sorts f.sorts.length).length cz)) 189))
 rw [←hW0]
 clear hW0
 go_wp2_with fail
 refine HWID.out.mono ?_
 rintro e W2 ⟨u,rfl,hio,hb2⟩
 have HG2:=Lib.hid (HGS.out W2 hb2)
 have HB2:=Lib.hid (HB1.out.trans (hb2.mono HB1.out.size))
 have HX2:=Lib.hid (HX1.out.below hb2 HX1.out.lt)
 have HU2:=Lib.hid hio
 have HGLT:Hid (W0.heap.size < W1.heap.size):=hlt1
 obtain ⟨Au,cu,rfl⟩:=hio.shape
 generalize hss:widR f cs=ss at *
 have HSS:=Lib.hid hss
 have HMN:Hid (W1.heap.size≤W2.heap.size):=hb2.size
 clear hio hb2 hss x0 x1 x2 x3 xl HWID HGS HB1 HX1
 have hssl:ss.length≤300:=by omega
 generalize hN:ss.length=N at *
 have HN:=Lib.hid hN
 clear hN
 go_wp2_with fail
 go_loopg [9,10,11,12,19] N (fun gg _ _ _ _ s19 wr=>∃ (k:Nat) (hd:List Value),k≤N∧N-k≤gg∧s19=.int .i64 (k:Int)∧Hid (GSt wr W0.heap.size gaps W2.heap.size (sprK f ss gaps k) hd)∧Hid (But2 W0.heap.size W0.heap.size W2 wr))
 case atStart=>exact ⟨0,_,by omega,by omega,rfl,HG2.out,But2.refl _ _ _⟩
 case round=>
  obtain ⟨k,hd,hk,hg,rfl,HG,HB⟩:=hrel
  have HBw:=Lib.hid (HB2.out.trans (HB.out.below (by have:=HSZ0.out;omega) (by have:=HSZ0.out;omega) HB2.out.size))
  have HXr:Hid (Blk wr w.heap.size 189 (xfs f (.slice Av f.sorts.length cv) (.slice As (spl f.sorts f.sorts.length).length cz))):=(show Blk _ _ _ _ from by
   have hne:w.heap.size≠W0.heap.size:=by have:=HSZ0.out;omega
   exact (HB.out.block _ HX2.out.lt hne hne).trans HX2.out)
  have HUr:Hid (IO wr W1.heap.size ss (.slice Au N cu)):=(show IO _ _ _ _ from io_but2 HU2.out HB.out (fun t ht e=>by have:=(World.ownsRow.lt HU2.out t ht).1;have:=HGLT.out;omega))
  have HVr:=Lib.hid (HV.out.below HBw.out)
  by_cases hlt:k < N
  · have hltz:(k:Int) < (N:Int):=by omega
    obtain ⟨gu,he,hgu1,hgu2,z1,-,-⟩:=HUr.out.at (i:=k) (by rw [HN.out];exact hlt)
    subst he
    have HSK:=Lib.hid (HSO.out k hk)
    have HBE:=Lib.hid (HSB.out k hlt)
    have HIF:=Lib.hid (spr_in HSK.out HWI.out)
    have HOS:Hid (sprK f ss gaps (k+1)=(sprK f ss gaps k).set (bst f (sprK f ss gaps k) gaps).toNat (gl (sprK f ss gaps k) (bst f (sprK f ss gaps k) gaps).toNat++[gz ss k])):=rfl
    generalize gz ss k=x at *
    generalize sprK f ss gaps k=out at *
    have hol:out.length=gaps:=HSK.out.len
    go_wp2_with fail
    have HB0:Hid (bst f out 0=-1):=rfl
    have HBST:Hid (∀ j,bst f out (j+1)=if (gl out j).length < 3∧(bst f out j < 0∨widL f (gl out j) < widL f (gl out (bst f out j).toNat)) then (j:Int) else bst f out j):=(show ∀ j,_ from fun j=>rfl)
    have HBR:=Lib.hid (bst_range f out)
    clear hol
    go_loopg [10,11,12,25] gaps (fun gg2 s10 _ _ s25 wr2=>∃ j:Nat,j≤gaps∧gaps-j≤gg2∧s25=.int .i64 (j:Int)∧s10=.int .i64 (bst f out j)∧Hid (Below wr.heap.size wr wr2))
    case atStart=>exact ⟨0,by omega,by omega,rfl,by rw [HB0.out],Below.refl _ _⟩
    case round=>
     obtain ⟨j,hj,hg2,rfl,rfl,HBJ⟩:=hrel
     have HGJ:=Lib.hid (HG.out.below HBJ.out)
     have HXJ:=Lib.hid (HXr.out.below HBJ.out HXr.out.lt)
     have HVJ:=Lib.hid (HVr.out.below HBJ.out)
     by_cases hjl:j < gaps
     · have hjz:(j:Int) < (gaps:Int):=by omega
       obtain ⟨Aj,cj,hje,z2,-,hioj⟩:=HGJ.out.at (i:=j) (by rw [HSK.out.len];exact hjl)
       have HIJ:=Lib.hid hioj
       have hmost:=HSK.out.most j hjl
       have HBS:=Lib.hid (HBST.out j)
       have hbr:=HBR.out j
       have x0:=HXJ.out.cell 0
       have x1:=HXJ.out.cell 1
       have x2:=HXJ.out.cell 2
       have x3:=HXJ.out.cell 3
       have HWJ:Hid (∀ W,Below wr.heap.size wr W→Calls Tryz.prog 128 #[.agg (xfs f (.slice Av f.sorts.length cv) (.slice As (spl f.sorts f.sorts.length).length cz)),.slice Aj (gl out j).length cj] W (IntPost (widL f (gl out j)) W)):=(show ∀ W,_ from fun W hW=>widthF_any f _ _ (gl out j) _ W (HVJ.out.below hW) HOK.out (HIJ.out.iv.below hW) (HIF.out j) (by omega))
       clear hje hioj
       go_upto_region 9 with fail
       by_cases h3:(gl out j).length < 3
       · have h3z:((gl out j).length:Int) < 3:=by omega
         by_cases hb0:bst f out j < 0
         · have HE:Hid (bst f out (j+1)=(j:Int)):=(show _=_ from HBS.out.trans (if_pos ⟨h3,.inl hb0⟩))
           generalize bst f out j=bj at *
           generalize (gl out j).length=lj at *
           have h3d:decide ((lj:Int) < 3)=true:=decide_eq_true h3z
           have hb0d:decide (bj < 0)=true:=decide_eq_true hb0
           have HB3:=Lib.hid (HBJ.out.trans ((Below.refl wr.heap.size wr).drew.mono HBJ.out.size))
           go_wp2_with fail
           go_big_region
           go_wp2_with fail
           go_roundg (gaps-(j+1))
           case measure=>omega
           case rel=>exact ⟨j+1,by omega,by omega,by go_num,by rw [HE.out],HB3.out⟩
         · have hbp:=hbr
           have hb1:0≤bst f out j∧bst f out j < (j:Int):=by
            rcases hbr with h | h
            · omega
            · exact ⟨h.1,h.2.1⟩
           obtain ⟨q,hq⟩:=Int.eq_ofNat_of_zero_le hb1.1
           have hqj:q < gaps:=by omega
           obtain ⟨Aq,cq,hqe,z3,-,hioq⟩:=HGJ.out.at (i:=q) (by rw [HSK.out.len];exact hqj)
           have HIQ:=Lib.hid hioq
           have hmq:=HSK.out.most q hqj
           have HWQ:Hid (∀ W,Below wr.heap.size wr W→Calls Tryz.prog 128 #[.agg (xfs f (.slice Av f.sorts.length cv) (.slice As (spl f.sorts f.sorts.length).length cz)),.slice Aq (gl out q).length cq] W (IntPost (widL f (gl out q)) W)):=(show ∀ W,_ from fun W hW=>widthF_any f _ _ (gl out q) _ W (HVJ.out.below hW) HOK.out (HIQ.out.iv.below hW) (HIF.out q) (by omega))
           have HBS2:Hid (bst f out (j+1)=if widL f (gl out j) < widL f (gl out q) then (j:Int) else bst f out j):=(show _=_ from by
            rw [HBS.out,hq]
            have e:((q:Nat):Int).toNat=q:=rfl
            rw [e]
            by_cases hc:widL f (gl out j) < widL f (gl out q)
            · rw [if_pos ⟨h3,.inr hc⟩,if_pos hc]
            · rw [if_neg (fun h=>by rcases h.2 with h | h <;> omega),if_neg hc])
           have hqz:(q:Int) < (gaps:Int):=by omega
           have hq0:(0:Int)≤(q:Int):=by omega
           have hb0z:¬(q:Int) < 0:=by omega
           have hb0d:decide ((q:Int) < 0)=false:=decide_eq_false hb0z
           have h3d:decide (((gl out j).length:Int) < 3)=true:=decide_eq_true h3z
           have HBQ:Hid (bst f out j=(q:Int)):=hq
           rw [hq]
           clear hqe hioq hb1 hq hbr hbp hb0
           have xx0:=cell_regrown x0
           have xx1:=cell_regrown x1
           have xx2:=cell_regrown x2
           have xx3:=cell_regrown x3
           have xz3:=cell_regrown z3
           have c1:∀ d os,Calls Tryz.prog 128 #[.agg #[.string f.name,.int .i64 f.body,.slice Av f.sorts.length cv,.slice As (spl f.sorts f.sorts.length).length cz],.slice Aj (gl out j).length cj] (Go.Sort.grow (redrawn wr d) os) fun e w''=>e=.returned (.int .i64 (widL f (gl out j)))∧∃ p:Regrown,w''=Go.Sort.grow (redrawn wr p.d) p.os:=fun d os=>Calls.regrown_of (HWJ.out (Go.Sort.grow (redrawn wr d) os) (below_regrown wr d os))
           have c2:∀ d os,Calls Tryz.prog 128 #[.agg #[.string f.name,.int .i64 f.body,.slice Av f.sorts.length cv,.slice As (spl f.sorts f.sorts.length).length cz],.slice Aq (gl out q).length cq] (Go.Sort.grow (redrawn wr d) os) fun e w''=>e=.returned (.int .i64 (widL f (gl out q)))∧∃ p:Regrown,w''=Go.Sort.grow (redrawn wr p.d) p.os:=fun d os=>Calls.regrown_of (HWQ.out (Go.Sort.grow (redrawn wr d) os) (below_regrown wr d os))
           generalize widL f (gl out j)=wj at *
           generalize widL f (gl out q)=wq at *
           generalize (gl out j).length=lj at *
           generalize (gl out q).length=lq at *
           refine wp_region_quiet_below (by kernel_rfl) (by kernel_rfl) ?_
           repeat (first | go_big_quiet_step (first | with_reducible exact c1 _ _ | with_reducible exact c2 _ _) | quiet_step (first | with_reducible exact c1 _ _ | with_reducible exact c2 _ _))
           refine wpQuiet_nil ?_
           intro _ hw'
           obtain ⟨⟨dq,osq⟩,hw''⟩:=hw'
           subst hw''
           have HB3:=Lib.hid (HBJ.out.trans ((below_regrown wr dq osq).mono HBJ.out.size))
           clear xx0 xx1 xx2 xx3 xz3 c1 c2 x0 x1 x2 x3 z2 z3
           generalize Go.Sort.grow (redrawn wr dq) osq=W3 at *
           by_cases hc:wj < wq
           · have HE:=Lib.hid (HBS2.out.trans (if_pos hc))
             go_wp2_with fail
             go_roundg (gaps-(j+1))
             case measure=>omega
             case rel=>exact ⟨j+1,by omega,by omega,by go_num,by rw [HE.out],HB3.out⟩
           · have HE:=Lib.hid ((HBS2.out.trans (if_neg hc)).trans HBQ.out)
             go_wp2_with fail
             go_roundg (gaps-(j+1))
             case measure=>omega
             case rel=>exact ⟨j+1,by omega,by omega,by go_num,by rw [HE.out],HB3.out⟩
       · have h3z:¬((gl out j).length:Int) < 3:=by omega
         have HE:Hid (bst f out (j+1)=bst f out j):=(show _=_ from HBS.out.trans (if_neg (fun h=>h3 h.1)))
         generalize bst f out j=bj at *
         generalize (gl out j).length=lj at *
         have h3d:decide ((lj:Int) < 3)=false:=decide_eq_false h3z
         have HB3:=Lib.hid (HBJ.out.trans ((Below.refl wr.heap.size wr).drew.mono HBJ.out.size))
         go_wp2_with fail
         go_big_region
         go_wp2_with fail
         go_roundg (gaps-(j+1))
         case measure=>omega
         case rel=>exact ⟨j+1,by omega,by omega,by go_num,by rw [HE.out],HB3.out⟩
     · have hjz:¬(j:Int) < (gaps:Int):=by omega
       have hje:j=gaps:=by omega
       subst hje
       have hbe:=HBE.out
       obtain ⟨q,hq⟩:=Int.eq_ofNat_of_zero_le hbe.1
       have hqj:q < j:=by omega
       have HBQ:Hid (bst f out j=(q:Int)):=hq
       obtain ⟨Aq,cq,hqe,z3,zf3,hioq⟩:=HGJ.out.at (i:=q) (by rw [HSK.out.len];exact hqj)
       have HQE:=Lib.hid hqe
       have hmq:=HSK.out.most q hqj
       have hqz:(q:Int) < (j:Int):=by omega
       have hq0:(0:Int)≤(q:Int):=by omega
       have hbn:=below_new wr (.cells #[.int .i64 x] 3)
       have hcl0:(wr.alloc (.cells #[.int .i64 x] 3)).cell? ⟨wr.heap.size,0,none⟩=some (.int .i64 x):=(Blk.new wr 3 #[.int .i64 x]).cell 0
       have hioa:=hioq.below hbn
       have z3a:(wr.alloc (.cells #[.int .i64 x] 3)).cell? ⟨W0.heap.size,q,none⟩=some (.slice Aq (gl out q).length cq):=(hbn.cell (p:=⟨W0.heap.size,q,none⟩) (block_lt_of_cell z3)).trans z3
       have hBr:W2.heap.size≤wr.heap.size:=Nat.le_trans HB.out.size HBJ.out.size
       have hbs:W2.heap.size≤(wr.alloc (.cells #[.int .i64 x] 3)).heap.size:=by simp;omega
       have HGA:=Lib.hid (HGJ.out.below hbn)
       have HBA:=Lib.hid (HB.out.trans ((But2.of_below HBJ.out).trans (But2.of_below hbn)))
       have HNEXT:Hid (sprK f ss j (k+1)=out.set q (gl out q++[x])):=(show _=_ from by rw [HOS.out,hq];rfl)
       rw [hq]
       clear hqe hioq hbe hq hbn
       obtain ⟨i3,hi3,hz3,hy3,hx3⟩:=info_parts info3
       have zfa:(wr.alloc (.cells #[.int .i64 x] 3)).frozen? ⟨W0.heap.size,q,none⟩=false:=(HGA.out.at (i:=q) (by rw [HSK.out.len];exact hqj)).elim fun _ h=>h.elim fun _ h=>h.2.2.1
       have HG0:Hid (W0.heap.size < wr.heap.size):=(show _ < _ from by have:=HGLT.out;have:=HMN.out;omega)
       go_wp2_with (at_builtin
                    refine wpList_app rfl _ _ 34 rfl W2.heap.size 3 i3 _ 1 8 Tryz.underlying34 hi3 hz3 hy3 hx3 rfl (by omega) _ (gl out q).length _ (by rfl) hioa (some ⟨wr.heap.size,0,none⟩) wr.heap.size 0 1 1 [.int .i64 x] (by rfl) rfl (fun _=>⟨rfl,by simp⟩) (fun jj hjj=>by (have:jj=0:=by omega);subst this;exact hcl0) (fun u hu=>by (have:u=.int .i64 x:=by simpa using hu);subst this;rfl) (by simp only [maxLen];omega) (by omega) hbs ?_
                    intro v7 w7 hown7 hg7 hat7
                    have HGN:=Lib.hid (HGA.out.app (x:=x) (by rw [HSK.out.len];exact hqj) hbs HQE.out.symm hown7 hg7 hat7)
                    have hne7:∀ kk,kk < W2.heap.size→w7.heap[kk]?=(wr.alloc (.cells #[.int .i64 x] 3)).heap[kk]?:=fun kk hkk=>hg7.block kk (by omega) (fun e=>by have:=(World.ownsRow.lt hioa kk (by first | exact e | exact e.symm)).1;omega)
                    have HWN:Hid (But2 W0.heap.size W0.heap.size W2 (w7.setCell ⟨W0.heap.size,q,none⟩ v7)):=(show But2 _ _ _ _ from
                     ⟨hg7.os.trans HBA.out.os,hg7.tape.trans HBA.out.tape,hg7.output.trans HBA.out.output,by have:=hg7.size;have:=HBA.out.size;simp only [World.size_setCell] at *;omega,fun kk hkk h1 h2=>(Below.heap_setCell _ _ _ _ h1).trans ((hne7 kk hkk).trans (HBA.out.block kk hkk h1 h2))⟩)
                    have hrow7:=HGA.out.row.kept hg7 (by have:=own_ne HGA.out.row (HGA.out.pc q (by rw [HSK.out.len];exact hqj)) (by decide);rwa [HQE.out] at this)
                    have hz7:w7.cell? ⟨W0.heap.size,q,none⟩=some (.slice Aq (gl out q).length cq):=(World.cell?_of_block (a:=⟨W0.heap.size,q,none⟩) (hne7 _ (by have:=HGLT.out;have:=HMN.out;show W0.heap.size < _;omega))).trans z3a
                    have hf7:w7.frozen? ⟨W0.heap.size,q,none⟩=false:=hrow7.frozenAt q
                    have hl7:W0.heap.size < w7.heap.size:=by have:=hg7.size;have:=HGLT.out;have:=HMN.out;omega
                    obtain ⟨A7,c7,rfl⟩:∃ A7 c7,v7=.slice A7 ((gl out q).length+1) c7:=by
                     rcases hown7.2 with ⟨_,h0⟩ | ⟨g',cap',cur',e,_⟩
                     · omega
                     · exact ⟨_,_,e⟩
                    clear hne7 hrow7
                    clear hown7 hg7 hat7)
       go_roundg (N-(k+1))
       case measure=>omega
       case rel=>exact ⟨k+1,_,by omega,by omega,by go_num,by rw [HNEXT.out];exact HGN.out,HWN.out⟩
  · have hltz:¬(k:Int) < (N:Int):=by omega
    have hke:k=N:=by omega
    subst hke
    have hlv:=HG.out.lv
    rw [(HSO.out k hk).len] at hlv
    have HL:=Lib.hid (HP.out wr HBw.out (.slice (some ⟨W0.heap.size,0,none⟩) gaps gaps) (by rw [HSE.out];exact hlv))
    clear hlv
    go_wp2_with fail
    go_ret
    exact HL.out
end Go.Proofs.YtbnganlfelgogaaGreat
