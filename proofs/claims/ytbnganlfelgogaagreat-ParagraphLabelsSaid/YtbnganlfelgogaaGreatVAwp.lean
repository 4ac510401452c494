/- Plain: the words of lines, joined; the sort at an end of a line. -/
import Derived.Test.YtbnganlfelgogaaGreatVJna
import Derived.Test.YtbnganlfelgogaaGreatVLsb
import Derived.Test.YtbnganlfelgogaaGreatVBrl
import Derived.Test.YtbnganlfelgogaaGreatVFwp
import Derived.Test.YtbnganlfelgogaaGreatVFws
set_option linter.unusedSimpArgs false
set_option linter.unusedVariables false
set_option maxRecDepth 100000
set_option maxHeartbeats 40000000
namespace Go.Proofs.YtbnganlfelgogaaGreat
open Go.RowKit Go.Shelf Go.Sort
def jnO (bs:List Bool) (k:Nat):Bool:=if k=0 then false else bs.getD (k-1) false
def jnWd (f:Fnt) (ls:List (Int × List Int)) (k:Nat):List (List Int):=wdsOf (spB f) (g2 ls k).2 (runsL (spB f) (g2 ls k).2)
def jnK (f:Fnt) (ls:List (Int × List Int)) (bs:List Bool):Nat→List (List Int)
 | 0=>[]
 | k+1=>addW (jnK f ls bs k) (jnO bs k) (jnWd f ls k) (bs.getD k false) (jnWd f ls k).length
def badE (f:Fnt) (ls:List (Int × List Int)) (k:Nat) (e:Int):Bool:=if (jnWd f ls k).length=0 then true else spB f (gz (g2 ls k).2 e.toNat)
def jnB (f:Fnt) (ls:List (Int × List Int)) (bs:List Bool) (k:Nat):Bool:=(bs.getD k false && badE f ls k (((g2 ls k).2.length:Int)-1)) || (jnO bs k && badE f ls k 0)
def jnE (f:Fnt) (ls:List (Int × List Int)) (bs:List Bool) (k:Nat):Int:=if rdE f (g2 ls k).1 (g2 ls k).2≠0 then rdE f (g2 ls k).1 (g2 ls k).2 else if jnB f ls bs k=true then 14 else 0
def jnF (f:Fnt) (ls:List (Int × List Int)) (bs:List Bool):Int:=if (fnErr f).2≠0 then (fnErr f).2 else if ls.length≠bs.length∨(0 < ls.length∧bs.getD (ls.length-1) false=true) then 10 else (fstE (jnE f ls bs) ls.length).2
theorem wds_len {p:Int→Bool} {zs:List Int} {k:Nat} (h:k < (wdsOf p zs (runsL p zs)).length):1≤(gl (wdsOf p zs (runsL p zs)) k).length∧(gl (wdsOf p zs (runsL p zs)) k).length≤zs.length:=by
 have e:gl (wdsOf p zs (runsL p zs)) k=(wdsOf p zs (runsL p zs))[k]:=by
  unfold gl
  rw [List.getD_eq_getElem?_getD,List.getElem?_eq_getElem h]
  rfl
 have hm:(wdsOf p zs (runsL p zs))[k] ∈ wdsOf p zs (runsL p zs):=List.getElem_mem h
 rw [←e] at hm
 generalize gl (wdsOf p zs (runsL p zs)) k=z at *
 unfold wdsOf at hm
 obtain ⟨x,hx,rfl⟩:=List.mem_map.1 hm
 obtain ⟨h1,h2⟩:=rns_mem p zs _ _ x ((List.mem_filter.1 hx).1)
 have h3:=rnN_bound p zs h1
 unfold rnW
 rw [List.length_take,List.length_drop]
 omega
theorem wds_num {p:Int→Bool} {zs:List Int}:(wdsOf p zs (runsL p zs)).length≤zs.length:=by
 unfold wdsOf
 rw [List.length_map]
 refine Nat.le_trans (List.length_filter_le _ _) ?_
 have:=rns_len p zs zs.length 0
 exact this
theorem gl_out {l:List (List Int)} {i:Nat} (h:l.length≤i):gl l i=[]:=by
 unfold gl
 rw [List.getD_eq_getElem?_getD,List.getElem?_eq_none h]
 rfl
theorem jnC_len (ws:List (List Int)) (br:Bool) (k:Nat):(jnC ws br k).length≤(gl ws k).length:=by
 unfold jnC
 split
 · rw [List.length_take];omega
 · exact Nat.le_refl _
theorem addW_sz {pss ws:List (List Int)} {op br:Bool} {M:Nat} (h1:∀ j,(gl pss j).length≤M) (h2:∀ j,(gl ws j).length≤300):∀ k j,(gl (addW pss op ws br k) j).length≤M+300
 | 0,j=>by have:=h1 j;show (gl pss j).length≤_;omega
 | k+1,j=>by
  have ih:=addW_sz (op:=op) (br:=br) h1 h2 k
  have hc:=Nat.le_trans (jnC_len ws br k) (h2 k)
  unfold addW
  split
  · rename_i hk
    obtain ⟨rfl,-⟩:=hk
    have e:addW pss op ws br 0=pss:=rfl
    rw [e]
    by_cases hp:0 < pss.length
    · obtain ⟨g1,g2,g3⟩:=lapp_gl (zs:=jnC ws br 0) hp
      by_cases hj:j < pss.length-1
      · rw [g2 j hj];have:=h1 j;omega
      · by_cases hj2:j=pss.length-1
        · rw [hj2,g3,List.length_append];have:=h1 (pss.length-1);omega
        · rw [gl_out (by rw [g1];omega)];simp
    · have:pss=[]:=List.eq_nil_of_length_eq_zero (by omega)
      subst this
      show (gl (lapp _ []) j).length≤_
      unfold lapp
      simp [gl]
  · by_cases hj:j < (addW pss op ws br k).length
    · rw [gl_app_lt hj];exact ih j
    · by_cases hj2:j=(addW pss op ws br k).length
      · rw [hj2,gl_app_eq];omega
      · rw [gl_out (by rw [List.length_append,List.length_singleton];omega)];simp
theorem addW_pos {pss ws:List (List Int)} {op br:Bool} (h:op=true→0 < pss.length) (hw:0 < ws.length):0 < (addW pss op ws br ws.length).length:=by
 obtain ⟨n,hn⟩:∃ n,ws.length=n+1:=⟨ws.length-1,by omega⟩
 rw [hn]
 unfold addW
 split
 · rename_i hk
   unfold lapp
   rw [List.length_set]
   have:=h hk.2
   have:=(addW_len pss op ws br n).2
   omega
 · rw [List.length_append,List.length_singleton];omega
structure JnOk (f:Fnt) (ls:List (Int × List Int)) (bs:List Bool) (k:Nat):Prop where
 n:(jnK f ls bs k).length≤300*k
 s:∀ j,(gl (jnK f ls bs k) j).length≤300*k
 p:jnO bs k=true→0 < (jnK f ls bs k).length
theorem jnE_ok {f:Fnt} {ls:List (Int × List Int)} {bs:List Bool} {k:Nat} (h:jnE f ls bs k=0):rdE f (g2 ls k).1 (g2 ls k).2=0∧jnB f ls bs k=false∧(g2 ls k).2.length≤300∧InF f (g2 ls k).2:=by
 unfold jnE at h
 by_cases h1:rdE f (g2 ls k).1 (g2 ls k).2=0
 · rw [if_neg (fun h=>h h1)] at h
   cases h2:jnB f ls bs k with
   | true=>rw [h2,if_pos rfl] at h;omega
   | false=>
    have h3:=h1
    unfold rdE at h3
    split at h3
    · rename_i h4;exact absurd h3 h4
    · have:=lns_in h3
      exact ⟨h1,rfl,this.2.1,this.2.2⟩
 · rw [if_pos h1] at h
   exact absurd h h1
theorem jn_ok {f:Fnt} {ls:List (Int × List Int)} {bs:List Bool}:∀ k,(∀ j,j < k→jnE f ls bs j=0)→JnOk f ls bs k
 | 0,_=>⟨Nat.le_refl _,fun j=>by simp [jnK,gl],fun h=>by simp [jnO] at h⟩
 | k+1,h=>by
  have ih:=jn_ok k (fun j hj=>h j (by omega))
  obtain ⟨h1,h2,h3,h4⟩:=jnE_ok (h k (by omega))
  have hn:(jnWd f ls k).length≤300:=Nat.le_trans wds_num h3
  have hs:∀ j,(gl (jnWd f ls k) j).length≤300:=fun j=>by
   by_cases hj:j < (jnWd f ls k).length
   · have h5:(gl (jnWd f ls k) j).length≤(g2 ls k).2.length:=(wds_len hj).2
     omega
   · rw [gl_out (by omega)];simp
  refine ⟨?_,fun j=>?_,fun ho=>?_⟩
  · have h5:=(addW_len (jnK f ls bs k) (jnO bs k) (jnWd f ls k) (bs.getD k false) (jnWd f ls k).length).1
    have h6:=ih.n
    show (addW _ _ _ _ _).length≤_
    omega
  · have h5:=addW_sz (op:=jnO bs k) (br:=bs.getD k false) ih.s hs (jnWd f ls k).length j
    show (gl (addW _ _ _ _ _) j).length≤_
    omega
  · have ho:bs.getD k false=true:=by simpa [jnO] using ho
    refine addW_pos ih.p ?_
    unfold jnB at h2
    rw [ho] at h2
    rcases Nat.eq_zero_or_pos (jnWd f ls k).length with h5 | h5
    · have:badE f ls k (((g2 ls k).2.length:Int)-1)=true:=by unfold badE;rw [if_pos h5]
      rw [this] at h2
      simp at h2
    · exact h5
theorem bad_any (f:Fnt) (v vw:Value) (A:Option Addr) (n c:Nat) (me:Int) (zs:List Int) (vz:Value) (e:Int) (wb fb lb:Nat) (w:World) (hW:Blk w wb 86 #[.slice A n c]) (hF:Blk w fb 24 (fcs f v)) (hL:Blk w lb 83 #[.int .i64 me,vz]) (hv:SoV w f.sorts v) (hz:IV w zs vz) (hin:InF f zs) (hf:f.sorts.length≤1000)
 (he:0 < n→0≤e∧e < zs.length) :
 Calls Tryz.prog 107 #[.int .i64 e,.pointer (some ⟨wb,0,none⟩),.pointer (some ⟨fb,0,none⟩),.pointer (some ⟨lb,0,none⟩)] w fun e' w'=>e'=.returned (.bool (if n=0 then true else spB f (gz zs e.toNat)))∧Below w.heap.size w w':=by
 have w0:=cell_regrown (hW.cell 0)
 have f0:=cell_regrown (hF.cell 0)
 have f1:=cell_regrown (hF.cell 1)
 have f2:=cell_regrown (hF.cell 2)
 have l1:=cell_regrown (hL.cell 1)
 have hbd:=below_regrown w
 by_cases hn:n=0
 · subst hn
   rw [if_pos rfl]
   obtain ⟨Av,cv,rfl⟩:=hv.shape
   clear hW hF hL hv hz hin he
   go_enter Tryz.func107,Tryz.ntmps107
   go_upto_region 1 with fail
   refine wp_region_quiet_below (by kernel_rfl) (by kernel_rfl) ?_
   repeat (first | go_big_quiet_step (fail) | quiet_step (fail))
   refine wpQuiet_nil ?_
   intro _ hw'
   obtain ⟨⟨dq,osq⟩,hw''⟩:=hw'
   subst hw''
   have b5:=hbd dq osq
   generalize grow (redrawn w dq) osq=w5 at *
   go_wp2_with fail
   go_ret
   exact ⟨rfl,b5⟩
 · rw [if_neg hn]
   obtain ⟨he0,he1⟩:=he (by omega)
   obtain ⟨k,rfl⟩:=Int.eq_ofNat_of_zero_le he0
   rw [show ((k:Int)).toNat=k from rfl]
   have hk:k < zs.length:=by omega
   have hgk:=hin k hk
   have HC:Hid (∀ d os,Calls Tryz.prog 96 #[.agg #[.string f.name,.int .i64 f.body,v],.int .i64 (gz zs k)] (grow (redrawn w d) os) fun e w''=>e=.returned (.bool (spB f (gz zs k)))∧∃ p:Regrown,w''=grow (redrawn w p.d) p.os):=(show ∀ d os,_ from fun d os=>Calls.regrown_of (isSpaceP_any f v (gz zs k) _ (hv.below (below_regrown w d os)) hgk hf))
   obtain ⟨Az,b,o,cz,rfl,hA,hZ,-,-⟩:=hz.open
   obtain ⟨rfl,hb⟩:=hA (by omega)
   have z1:=cell_regrown (hZ k hk)
   obtain ⟨Av,cv,rfl⟩:=hv.shape
   have hnz:¬(n:Int)=0:=by omega
   have hkz:(k:Int) < (zs.length:Int):=by omega
   have hbl:=beq_false_of_ne hnz
   clear hW hF hL hv hin he hA hZ hgk he0 he1 hz
   generalize spB f (gz zs k)=sp at *
   generalize gz zs k=s at *
   go_enter Tryz.func107,Tryz.ntmps107
   go_upto_region 1 with fail
   refine wp_region_quiet_below (by kernel_rfl) (by kernel_rfl) ?_
   repeat (first | go_big_quiet_step (exact HC.out _ _) | quiet_step (exact HC.out _ _))
   refine wpQuiet_nil ?_
   intro _ hw'
   obtain ⟨⟨dq,osq⟩,hw''⟩:=hw'
   subst hw''
   have b5:=hbd dq osq
   generalize grow (redrawn w dq) osq=w5 at *
   go_wp2_with fail
   go_ret
   exact ⟨rfl,b5⟩
end Go.Proofs.YtbnganlfelgogaaGreat
namespace Go.Proofs.YtbnganlfelgogaaGreat
open Go.RowKit
def BoV (W:World) (bs:List Bool) (v:Value):Prop:=RV W v bs.length 1 (fun j=>.bool (bs.getD j false))
def JdPost (f:Fnt) (ls:List (Int × List Int)) (bs:List Bool) (w:World) (e:Ending) (w':World):Prop:=Below w.heap.size w w'∧
 ((jnF f ls bs≠0∧e=.returned (.tuple #[.slice none 0 0,.int .i64 (jnF f ls bs)]))∨(jnF f ls bs=0∧∃ v,e=.returned (.tuple #[v,.int .i64 0])∧LV w' (jnK f ls bs ls.length) v))
structure JD (w W:World) (f:Fnt) (v:Value) (jb:Nat) (pk:List (List Int)) (op:Bool) (vo:Value) (hd:List Value):Prop where
 B:Below w.heap.size w W
 F:Blk W w.heap.size 24 (fcs f v)
 J:Blk W jb 161 #[vo,.bool op]
 P:PSt W (jb+1) pk vo hd
theorem JD.step {w W W':World} {f:Fnt} {v:Value} {jb:Nat} {pk:List (List Int)} {op:Bool} {vo:Value} {hd:List Value} (h:JD w W f v jb pk op vo hd) (hb:Below W.heap.size W W'):JD w W' f v jb pk op vo hd:=
 ⟨h.B.trans (hb.mono h.B.size),h.F.below hb h.F.lt,h.J.below hb h.J.lt,h.P.below hb⟩
theorem BoV.at {W:World} {bs:List Bool} {A:Option Addr} {n c k:Nat} (h:BoV W bs (.slice A n c)) (hk:k < bs.length):∃ b off,A=some ⟨b,off,none⟩∧b < W.heap.size∧W.cell? ⟨b,off+k,none⟩=some (.bool (bs.getD k false)):=by
 obtain ⟨A',b,off,c',e,hA,hc,-⟩:=h
 injection e with e1 e2 e3
 subst e1
 obtain ⟨h1,h2⟩:=hA (by omega)
 exact ⟨b,off,h1,h2,hc k (by omega)⟩
theorem joined_any (f:Fnt) (v:Value) (ls:List (Int × List Int)) (bs:List Bool) (vl vb:Value) (w:World) (hv:SoV w f.sorts v) (hn:f.name.size≤9223372036854775807) (hl:LnV w ls vl) (hb:BoV w bs vb) (hln:ls.length≤300) (hbn:bs.length≤1000000) (hsz:∀ k,(g2 ls k).2.length≤1000000) (hf:f.sorts.length≤100000) :
 Calls Tryz.prog 47 #[.agg (fcs f v),vl,vb] w (JdPost f ls bs w):=by
 have hb0:=below_new w (.cells (fcs f v) 24)
 have HF:=Lib.hid (Blk.new w 24 (fcs f v))
 have HB0:=Lib.hid hb0
 have HV:=Lib.hid (hv.below hb0)
 have HL:=Lib.hid (hl.below hb0)
 have HBO:Hid (BoV (w.alloc (.cells (fcs f v) 24)) bs vb):=RV.below hb hb0
 have HC0:=Lib.hid (founted_any f v _ HV.out hn)
 have HSZ:=Lib.hid hsz
 have HV0:=Lib.hid hv
 have HL0:=Lib.hid hl
 have HBV0:=Lib.hid hb
 have HE0:Hid (∀ W x,x=jnF f ls bs→jnF f ls bs≠0→Below w.heap.size w W→JdPost f ls bs w (.returned (.tuple #[.slice none 0 0,.int .i64 x])) W):=(show ∀ W x,_ from fun W x e h0 h=>by subst e;exact ⟨h,.inl ⟨h0,rfl⟩⟩)
 have HE1:Hid (∀ W v,jnF f ls bs=0→LV W (jnK f ls bs ls.length) v→Below w.heap.size w W→JdPost f ls bs w (.returned (.tuple #[v,.int .i64 0])) W):=(show ∀ W v,_ from fun W v h0 h1 h=>⟨h,.inr ⟨h0,v,rfl,h1⟩⟩)
 obtain ⟨Av,cv,rfl⟩:=hv.shape
 obtain ⟨Al,cl,rfl⟩:=hl.shape
 obtain ⟨Ab,_,_,cb,rfl,-⟩:=hb
 have f0:=HF.out.cell 0
 have f1:=HF.out.cell 1
 have f2:=HF.out.cell 2
 clear hb0 hv hl hsz
 go_enter Tryz.func47,Tryz.ntmps47
 go_upto_region 1 with fail
 generalize w.alloc (.cells (fcs f (.slice Av f.sorts.length cv)) 24)=W0 at *
 go_wp2_with fail
 refine HC0.out.mono ?_
 rintro e W1 ⟨rfl,hb1⟩
 have HB1:=Lib.hid (HB0.out.trans (hb1.mono HB0.out.size))
 have HF1:=Lib.hid (HF.out.below hb1 HF.out.lt)
 have HV1:=Lib.hid (HV.out.below hb1)
 have HL1:=Lib.hid (HL.out.below hb1)
 have HBO1:Hid (BoV W1 bs (.slice Ab bs.length cb)):=RV.below HBO.out hb1
 clear hb1 f0 f1 f2 HC0 HF HV HL HBO HB0
 by_cases h0:(fnErr f).2=0
 · have hfe:=bne_f h0
   have HFE:=Lib.hid h0
   have HFEW:=Lib.hid (fnErr_few h0)
   rw [h0] at hfe ⊢
   clear h0
   by_cases hlen:ls.length=bs.length
   · by_cases hlast:0 < ls.length∧bs.getD (ls.length-1) false=true
     · have HX:Hid (10=jnF f ls bs∧jnF f ls bs≠0):=(show _∧_ from by
        have e:jnF f ls bs=10:=by unfold jnF;rw [if_neg (fun h=>h HFE.out),if_pos (.inr hlast)]
        rw [e];exact ⟨rfl,by decide⟩)
       obtain ⟨hl0,hl1⟩:=hlast
       obtain ⟨bb,ob,hAb,hbbl,hbc⟩:=BoV.at HBO1.out (k:=ls.length-1) (by omega)
       subst hAb
       rw [hl1] at hbc
       rw [←hlen]
       obtain ⟨q,hq⟩:∃ q,ls.length=q+1:=⟨ls.length-1,by omega⟩
       rw [hq] at hbc ⊢
       rw [show q+1-1=q from rfl] at hbc
       have hsub:((q+1:Nat):Int)-1=(q:Int):=by omega
       have hpos:(0:Int) < ((q+1:Nat):Int):=by omega
       have hq1:(q:Int) < ((q+1:Nat):Int):=by omega
       have hbe:=bne_f (rfl:((q+1:Nat):Int)=((q+1:Nat):Int))
       have hqw:wrap64 (q:Int)=(q:Int):=IntWalk.wrap64_in _ (by omega)
       clear hlen hq hl0 hl1
       go_wp2_with fail
       refine bodyPost_ret (results_tmp2 rfl _ _ _) rfl ?_
       exact HE0.out _ _ HX.out.1 HX.out.2 HB1.out
     · have HJF:Hid (jnF f ls bs=(fstE (jnE f ls bs) ls.length).2):=(show _=_ from by unfold jnF;rw [if_neg (fun h=>h HFE.out),if_neg (fun h=>h.elim (fun h=>h hlen) (fun h=>hlast h))])
       have HLEN:=Lib.hid hlen
       rw [←hlen]
       have HN0:Hid (ls.length=0∨(0 < ls.length∧bs.getD (ls.length-1) false=false)):=(show _∨_ from by
        rcases Nat.eq_zero_or_pos ls.length with h | h
        · exact .inl h
        · right;refine ⟨h,?_⟩
          cases hq:bs.getD (ls.length-1) false with
          | false=>rfl
          | true=>exact absurd ⟨h,hq⟩ hlast)
       have HW1B:Hid (w.heap.size≤W1.heap.size):=HB1.out.size
       have HJE:Hid (∀ k,(∀ j,j < k→jnE f ls bs j=0)→JnOk f ls bs k):=(show ∀ k,_ from jn_ok)
       have HFH:Hid (∀ k,k < ls.length→(∀ j,j < k→jnE f ls bs j=0)→jnE f ls bs k≠0→jnE f ls bs k=jnF f ls bs∧jnF f ls bs≠0):=(show ∀ k,_ from fun k h1 h2 h3=>by
        have e:=fstE_hit h3 h2 h1
        rw [HJF.out,e]
        exact ⟨rfl,h3⟩)
       have HFZ:Hid ((∀ j,j < ls.length→jnE f ls bs j=0)→jnF f ls bs=0):=(show _→_ from fun h=>by rw [HJF.out,fstE_none h])
       have HJD0:Hid (JD w (W1.alloc (.cells #[.slice none 0 0,.bool false] 161)) f (.slice Av f.sorts.length cv) W1.heap.size (jnK f ls bs 0) (jnO bs 0) (.slice none 0 0) []):=(show JD _ _ _ _ _ _ _ _ _ from by
        have hbj:=below_new W1 (.cells #[.slice none 0 0,.bool false] 161)
        exact ⟨HB1.out.trans (hbj.mono HB1.out.size),HF1.out.below hbj HF1.out.lt,Blk.new W1 161 _,PSt.nil _ _⟩)
       have HST:Hid (∀ k,jnK f ls bs (k+1)=addW (jnK f ls bs k) (jnO bs k) (jnWd f ls k) (bs.getD k false) (jnWd f ls k).length∧jnO bs (k+1)=bs.getD k false):=(show ∀ k,_ from fun k=>⟨rfl,by simp [jnO]⟩)
       have HBO2:=Lib.hid HBO1.out
       clear hlen hlast
       rcases HN0.out with hz0 | ⟨hz0,hzl⟩
       · have HZ0:=Lib.hid hz0
         rw [hz0]
         have hbe:=bne_f (rfl:((0:Nat):Int)=((0:Nat):Int))
         have HFIN:Hid (jnF f ls bs=0∧jnK f ls bs ls.length=[]):=(show _∧_ from ⟨HFZ.out (fun j hj=>by rw [HZ0.out] at hj;omega),by rw [HZ0.out];rfl⟩)
         clear hz0
         go_wp2_with fail
         go_loopg [40] 0 (fun gg s40 wr=>s40=.int .i64 0∧Hid (wr=W1.alloc (.cells #[.slice none 0 0,.bool false] 161)))
         case atStart=>exact ⟨rfl,rfl⟩
         case round=>
          obtain ⟨rfl,HE⟩:=hrel
          have he:=HE.out
          subst he
          have j0:=HJD0.out.J.cell 0
          have jl:=HJD0.out.J.lt
          go_wp2_with fail
          refine bodyPost_ret (results_tmp2 rfl _ _ _) rfl ?_
          exact HE1.out _ _ HFIN.out.1 (by rw [HFIN.out.2];exact PSt.lv (PSt.nil _ 0)) HJD0.out.B
       · obtain ⟨bb,ob,hAb,hbbl,hbc⟩:=BoV.at HBO1.out (k:=ls.length-1) (by have:=HLEN.out;omega)
         subst hAb
         rw [hzl] at hbc
         obtain ⟨q,hq⟩:∃ q,ls.length=q+1:=⟨ls.length-1,by omega⟩
         have HQ:=Lib.hid hq
         have hln3:q+1≤300:=by omega
         rw [hq] at hbc ⊢
         rw [show q+1-1=q from rfl] at hbc
         have hsub:((q+1:Nat):Int)-1=(q:Int):=by omega
         have hpos:(0:Int) < ((q+1:Nat):Int):=by omega
         have hq1:(q:Int) < ((q+1:Nat):Int):=by omega
         have hbe:=bne_f (rfl:((q+1:Nat):Int)=((q+1:Nat):Int))
         have hqw:wrap64 (q:Int)=(q:Int):=IntWalk.wrap64_in _ (by omega)
         clear hq hz0 hzl
         go_wp2_with fail
         clear hqw hsub hpos hq1 hbe hbc hbbl
         obtain ⟨N,hN⟩:∃ N,q+1=N:=⟨_,rfl⟩
         rw [hN] at HQ hln3 ⊢
         have HQN:=Lib.hid hN
         clear hN
         have HJZ:Hid (w.heap.size < W1.heap.size):=HF1.out.lt
         generalize W1.alloc (.cells #[.slice none 0 0,.bool false] 161)=W2 at *
         generalize W1.heap.size=jb at *
         go_loopg [40] N (fun gg s40 wr=>∃ (k:Nat) (vo:Value) (hd:List Value),k≤N∧N-k≤gg∧s40=.int .i64 (k:Int)∧Hid (∀ j,j < k→jnE f ls bs j=0)∧Hid (JD w wr f (.slice Av f.sorts.length cv) jb (jnK f ls bs k) (jnO bs k) vo hd))
         case atStart=>exact ⟨0,_,_,by omega,by omega,rfl,fun j hj=>absurd hj (Nat.not_lt_zero _),HJD0.out⟩
         case round=>
          obtain ⟨k,vo,hd,hk,hg,rfl,HE,HJ⟩:=hrel
          by_cases hlt:k < N
          · have hltz:(k:Int) < (q:Int)+1:=by have:=HQN.out;omega
            obtain ⟨b1,o1,x1,hAl,hbl1,z1,y1,hx1⟩:=LnV.elt (HL0.out.below HJ.out.B) (k:=k) (by rw [HQ.out];exact hlt)
            subst hAl
            obtain ⟨b2,o2,hAb,hbl2,z2⟩:=BoV.at (show BoV wr bs _ from RV.below HBV0.out HJ.out.B) (k:=k) (by rw [←HLEN.out,HQ.out];exact hlt)
            injection hAb with hAb
            injection hAb with e1 e2
            subst e1 e2
            have hsz:=HSZ.out k
            have HJK:=HJE.out k HE.out
            have HJKK:=Lib.hid HJK
            have hst:=HST.out k
            have HEK:Hid (jnE f ls bs k=if rdE f (g2 ls k).1 (g2 ls k).2≠0 then rdE f (g2 ls k).1 (g2 ls k).2 else if jnB f ls bs k=true then 14 else 0):=rfl
            have HBK:Hid (jnB f ls bs k=((bs.getD k false && badE f ls k (((g2 ls k).2.length:Int)-1)) || (jnO bs k && badE f ls k 0))):=rfl
            have HBE:Hid (∀ e,badE f ls k e=if (jnWd f ls k).length=0 then true else spB f (gz (g2 ls k).2 e.toNat)):=(show ∀ e,_ from fun e=>rfl)
            have HWD0:Hid (jnWd f ls k=wdsOf (spB f) (g2 ls k).2 (runsL (spB f) (g2 ls k).2)):=rfl
            have HLKF:=Lib.hid (fun h=>HFH.out k (by rw [HQ.out];exact hlt) HE.out h)
            obtain ⟨Az,_,_,cz,rfl,-⟩:=hx1.open
            have HSK:Hid ((g2 ls k).2.length≤1000000):=HSZ.out k
            generalize hp2:g2 ls k=p2 at *
            clear hp2
            obtain ⟨me,zs⟩:=p2
            dsimp only at *
            have hbl:=below_new wr (.cells #[.int .i64 me,.slice Az zs.length cz] 83)
            have HJL:=Lib.hid (HJ.out.step hbl)
            have HLB:=Lib.hid (Blk.new wr 83 #[.int .i64 me,.slice Az zs.length cz])
            have HZL:=Lib.hid (hx1.below hbl)
            have HVL:=Lib.hid (HV0.out.below HJL.out.B)
            have HZ2:Hid ((wr.alloc (.cells #[.int .i64 me,.slice Az zs.length cz] 83)).cell? ⟨bb,ob+k,none⟩=some (.bool (bs.getD k false))):=(hbl.cell (p:=⟨bb,ob+k,none⟩) hbl2).trans z2
            have HZ2L:Hid (bb < (wr.alloc (.cells #[.int .i64 me,.slice Az zs.length cz] 83)).heap.size):=(show _ < _ from Nat.lt_of_lt_of_le hbl2 hbl.size)
            have HXO:Hid (∀ t,vo.ownBlock=some t→t < wr.heap.size):=(show ∀ t,_ from fun t ht=>(HJ.out.P.lt t ht).2)
            have HXH:Hid (∀ i,i < (jnK f ls bs k).length→∀ t,(hd.getD i undef).ownBlock=some t→t < wr.heap.size):=(show ∀ i,_ from fun i hi t ht=>(World.ownsRow.lt (HJ.out.P.pc i hi) t ht).2)
            have HJLB:Hid (jb < wr.heap.size):=HJ.out.J.lt
            have HWRS:Hid ((wr.alloc (.cells #[.int .i64 me,.slice Az zs.length cz] 83)).heap.size=wr.heap.size+1):=(show _=_ by simp)
            clear hbl hx1 HJK hbl2 z2 hsz
            go_upto_region 11 with fail
            clear z1 y1 hbl1
            generalize wr.alloc (.cells #[.int .i64 me,.slice Az zs.length cz] 83)=W5 at *
            generalize wr.heap.size=lb at *
            have f0:=HJL.out.F.cell 0
            have f1:=HJL.out.F.cell 1
            have f2:=HJL.out.F.cell 2
            have fl:=HJL.out.F.lt
            have l0:=HLB.out.cell 0
            have l1:=HLB.out.cell 1
            have ll:=HLB.out.lt
            go_wp2_with fail
            refine (wordsOf_any f _ me zs _ W5 HVL.out HZL.out hn HSK.out hf).mono ?_
            rintro e W6 ⟨hb6,hans⟩
            have HJ6:=Lib.hid (HJL.out.step hb6)
            have HLB6:=Lib.hid (HLB.out.below hb6 HLB.out.lt)
            have HZ6:=Lib.hid (HZL.out.below hb6)
            have HV6:=Lib.hid (HVL.out.below hb6)
            have HC6:Hid (W6.cell? ⟨bb,ob+k,none⟩=some (.bool (bs.getD k false))):=(hb6.cell (p:=⟨bb,ob+k,none⟩) HZ2L.out).trans HZ2.out
            have HC6L:Hid (bb < W6.heap.size):=(show _ < _ from Nat.lt_of_lt_of_le HZ2L.out hb6.size)
            have HW56:Hid (W5.heap.size≤W6.heap.size):=hb6.size
            clear f0 f1 f2 fl l0 l1 ll hb6 HJL HLB HZL HVL HZ2 HZ2L HJ
            rcases hans with ⟨hre,rfl⟩ | ⟨hre,vw,hdw,rfl,hpw⟩
            · have hbr:=bne_t hre
              have HX:=HLKF.out (by rw [HEK.out,if_pos hre];exact hre)
              rw [HEK.out,if_pos hre] at HX
              have HXX:=Lib.hid HX
              have HB7:=Lib.hid (HJ6.out.B.alloc HJ6.out.B.size (.cells #[.slice none 0 0] 86))
              generalize rdE f me zs=re at *
              clear hre HX
              go_wp2_with fail
              refine bodyPost_ret (results_tmp2 rfl _ _ _) rfl ?_
              exact HE0.out _ _ HXX.out.1 HXX.out.2 HB7.out
            · rw [←HWD0.out] at hpw
              obtain ⟨hz3,hin⟩:zs.length≤300∧InF f zs:=by
               have h3:=hre
               unfold rdE at h3
               split at h3
               · rename_i h4;exact absurd h3 h4
               · exact (lns_in h3).2
              have HIN:=Lib.hid hin
              have HZ3:=Lib.hid hz3
              have HRE:=Lib.hid hre
              have HWLN:Hid (∀ j,j < (jnWd f ls k).length→1≤(gl (jnWd f ls k) j).length∧(gl (jnWd f ls k) j).length≤zs.length):=(show ∀ j,_ from by rw [HWD0.out];exact fun j hj=>wds_len hj)
              have HWN:Hid ((jnWd f ls k).length≤zs.length):=(show _≤_ from by rw [HWD0.out];exact wds_num)
              obtain ⟨Aw,cw,rfl⟩:=hpw.shape
              have hbw:=below_new W6 (.cells #[.slice Aw (jnWd f ls k).length cw] 86)
              have HJ7:=Lib.hid (HJ6.out.step hbw)
              have HLB7:=Lib.hid (HLB6.out.below hbw HLB6.out.lt)
              have HZ7:=Lib.hid (HZ6.out.below hbw)
              have HV7:=Lib.hid (HV6.out.below hbw)
              have HC7:Hid ((W6.alloc (.cells #[.slice Aw (jnWd f ls k).length cw] 86)).cell? ⟨bb,ob+k,none⟩=some (.bool (bs.getD k false))):=(hbw.cell (p:=⟨bb,ob+k,none⟩) HC6L.out).trans HC6.out
              have HC7L:Hid (bb < (W6.alloc (.cells #[.slice Aw (jnWd f ls k).length cw] 86)).heap.size):=(show _ < _ from Nat.lt_of_lt_of_le HC6L.out hbw.size)
              have HWB:=Lib.hid (Blk.new W6 86 #[.slice Aw (jnWd f ls k).length cw])
              have HPW:=Lib.hid (hpw.below hbw)
              have HW57:Hid (W5.heap.size≤(W6.alloc (.cells #[.slice Aw (jnWd f ls k).length cw] 86)).heap.size):=(show _≤_ from Nat.le_trans HW56.out hbw.size)
              clear hpw hbw hz3 hin hre HJ6 HLB6 HZ6 HV6 HC6 HC6L
              have hkb:(k:Int) < (bs.length:Int):=by have:=HLEN.out;have:=HQ.out;omega
              have hk0:(0:Int)≤(k:Int):=by omega
              go_upto_region 15 with fail
              generalize W6.alloc (.cells #[.slice Aw (jnWd f ls k).length cw] 86)=W7 at *
              generalize W6.heap.size=wb at *
              go_cut [74] (fun s74 wx=>s74=.bool (jnB f ls bs k)∧Hid (Below W7.heap.size W7 wx))
              case first=>
               have c7:=HC7.out
               have c7l:=HC7L.out
               have j1:=HJ7.out.J.cell 1
               have jl:=HJ7.out.J.lt
               have l1:=HLB7.out.cell 1
               have ll:=HLB7.out.lt
               have HCALL:Hid (∀ W,Below W7.heap.size W7 W→∀ (e:Int),(0 < (jnWd f ls k).length→0≤e∧e < zs.length)→Calls Tryz.prog 107 #[.int .i64 e,.pointer (some ⟨wb,0,none⟩),.pointer (some ⟨w.heap.size,0,none⟩),.pointer (some ⟨lb,0,none⟩)] W fun e' w'=>e'=.returned (.bool (badE f ls k e))∧Below W.heap.size W w'):=(show ∀ W,_ from fun W hW e he=>by
                rw [HBE.out]
                exact bad_any f _ (.bool true) Aw _ cw me zs _ e wb _ lb W (HWB.out.below hW HWB.out.lt) (HJ7.out.F.below hW HJ7.out.F.lt) (HLB7.out.below hW HLB7.out.lt) (HV7.out.below hW) (HZ7.out.below hW) HIN.out (by have:=HFEW.out;omega) he)
               have HP0:Hid (0 < (jnWd f ls k).length→(0:Int)≤0∧(0:Int) < zs.length):=(show _→_ from fun h=>by have:=HWLN.out 0 h;omega)
               have HP1:Hid (0 < (jnWd f ls k).length→(0:Int)≤(zs.length:Int)-1∧(zs.length:Int)-1 < zs.length):=(show _→_ from fun h=>by have:=HWLN.out 0 h;omega)
               have hw1:wrap64 ((zs.length:Int)-1)=(zs.length:Int)-1:=IntWalk.wrap64_in _ (by have:=HZ3.out;omega)
               cases hb:bs.getD k false with
               | false=>
                rw [hb] at c7
                have HB:=Lib.hid hb
                clear hb
                cases ho:jnO bs k with
                | false=>
                 rw [ho] at j1
                 have HO:=Lib.hid ho
                 clear ho
                 go_wp2_with fail
                 go_meet
                 exact ⟨by rw [HBK.out,HB.out,HO.out] <;> rfl,Below.refl _ _⟩
                | true=>
                 rw [ho] at j1
                 have HO:=Lib.hid ho
                 clear ho
                 go_wp2_with fail
                 refine (HCALL.out _ (Below.refl _ _) _ HP0.out).mono ?_
                 rintro e W8 ⟨rfl,hb8⟩
                 have HB8:=Lib.hid hb8
                 clear hb8 c7 j1 l1
                 have HRR:Hid (jnB f ls bs k=badE f ls k 0):=(show _=_ from by rw [HBK.out,HB.out,HO.out];simp)
                 generalize badE f ls k 0=rr at *
                 go_wp2_with fail
                 go_meet
                 exact ⟨by rw [HRR.out] <;> rfl,HB8.out⟩
               | true=>
                rw [hb] at c7
                have HB:=Lib.hid hb
                clear hb
                cases ho:jnO bs k with
                | false=>
                 rw [ho] at j1
                 have HO:=Lib.hid ho
                 clear ho
                 go_wp2_with fail
                 refine (HCALL.out _ (Below.refl _ _) _ HP1.out).mono ?_
                 rintro e W8 ⟨rfl,hb8⟩
                 have HB8:=Lib.hid hb8
                 have j1:=(HJ7.out.step hb8).J.cell 1
                 rw [HO.out] at j1
                 have jl:=(HJ7.out.step hb8).J.lt
                 clear hb8 c7 l1
                 have HRR:Hid (jnB f ls bs k=badE f ls k ((zs.length:Int)-1)):=(show _=_ from by rw [HBK.out,HB.out,HO.out];simp)
                 generalize badE f ls k ((zs.length:Int)-1)=rr at *
                 cases rr with
                 | false=>
                  go_wp2_with fail
                  go_meet
                  exact ⟨by rw [HRR.out] <;> rfl,HB8.out⟩
                 | true=>
                  go_wp2_with fail
                  go_meet
                  exact ⟨by rw [HRR.out] <;> rfl,HB8.out⟩
                | true=>
                 rw [ho] at j1
                 have HO:=Lib.hid ho
                 clear ho
                 go_wp2_with fail
                 refine (HCALL.out _ (Below.refl _ _) _ HP1.out).mono ?_
                 rintro e W8 ⟨rfl,hb8⟩
                 have HB8:=Lib.hid hb8
                 have j1:=(HJ7.out.step hb8).J.cell 1
                 rw [HO.out] at j1
                 have jl:=(HJ7.out.step hb8).J.lt
                 clear hb8 c7 l1
                 have HRR:Hid (jnB f ls bs k=(badE f ls k ((zs.length:Int)-1) || badE f ls k 0)):=(show _=_ from by rw [HBK.out,HB.out,HO.out];simp)
                 generalize badE f ls k ((zs.length:Int)-1)=rr at *
                 cases rr with
                 | true=>
                  go_wp2_with fail
                  go_meet
                  exact ⟨by rw [HRR.out] <;> rfl,HB8.out⟩
                 | false=>
                  go_wp2_with fail
                  refine (HCALL.out _ HB8.out _ HP0.out).mono ?_
                  rintro e W9 ⟨rfl,hb9⟩
                  have HB9:=Lib.hid (HB8.out.trans (hb9.mono HB8.out.size))
                  clear hb9 j1
                  generalize badE f ls k 0=rr at *
                  go_wp2_with fail
                  go_meet
                  exact ⟨by rw [HRR.out] <;> rfl,HB9.out⟩
              case rest=>
               obtain ⟨rfl,HB8⟩:=hcut
               cases hjb:jnB f ls bs k with
               | true=>
                have hx14:jnE f ls bs k=14:=by rw [HEK.out,if_neg (fun h=>h HRE.out),if_pos hjb]
                have hx:=HLKF.out (by rw [hx14];decide)
                rw [hx14] at hx
                have HX:=Lib.hid hx
                have HBF:=Lib.hid (HJ7.out.B.trans (HB8.out.mono HJ7.out.B.size))
                clear hx hx14 hjb
                go_wp2_with fail
                refine bodyPost_ret (results_tmp2 rfl _ _ _) rfl ?_
                exact HE0.out _ _ HX.out.1 HX.out.2 HBF.out
               | false=>
                have HEZ:Hid (jnE f ls bs k=0):=(show _=_ from by rw [HEK.out,if_neg (fun h=>h HRE.out),if_neg (by rw [hjb];decide)])
                clear hjb
                have c8:wc.cell? ⟨bb,ob+k,none⟩=some (.bool (bs.getD k false)):=(HB8.out.cell (p:=⟨bb,ob+k,none⟩) HC7L.out).trans HC7.out
                have c8l:bb < wc.heap.size:=Nat.lt_of_lt_of_le HC7L.out HB8.out.size
                have wb0:=(HWB.out.below HB8.out HWB.out.lt).cell 0
                have wbl:=(HWB.out.below HB8.out HWB.out.lt).lt
                have hbd:Below wc.heap.size wc wc.drew:=(Below.refl _ _).drew
                have hb9:=HB8.out.trans (hbd.mono HB8.out.size)
                have HJ9:=Lib.hid (HJ7.out.step hb9)
                have HPW9:=Lib.hid (HPW.out.below hb9)
                have HC9:Hid (wc.drew.cell? ⟨bb,ob+k,none⟩=some (.bool (bs.getD k false))):=(hb9.cell (p:=⟨bb,ob+k,none⟩) HC7L.out).trans HC7.out
                have HC9L:Hid (bb < wc.drew.heap.size):=(show _ < _ from Nat.lt_of_lt_of_le HC7L.out hb9.size)
                have HWB9:=Lib.hid (HWB.out.below hb9 HWB.out.lt)
                have HW59:Hid (W5.heap.size≤wc.drew.heap.size):=(show _≤_ from Nat.le_trans HW57.out hb9.size)
                clear hbd hb9
                go_wp2_with fail
                go_still_tail 5,(by kernel_rfl)
                change wpList _ _ _ _ _ wc.drew
                generalize wc.drew=W9 at *
                clear c8 c8l wb0 wbl
                have jl:=HJ9.out.J.lt
                have HCALL:Calls Tryz.prog 108 #[.pointer (some ⟨jb,0,none⟩),.slice Aw (jnWd f ls k).length cw,.bool (bs.getD k false)] W9 (JaPost jb (jb+1) (jnK f ls bs (k+1)) (bs.getD k false) W9):=by
                 rw [hst.1]
                 exact joinAdd_any (jnK f ls bs k) (jnO bs k) (jnWd f ls k) (bs.getD k false) jb (jb+1) W5.heap.size vo _ hd hdw W9 HJ9.out.J HJ9.out.P (by omega) (by have:=HWRS.out;have:=HJLB.out;omega) HW59.out HPW9.out
                  (fun t ht=>by have:=HXO.out t ht;have:=HWRS.out;omega) (fun i hi t ht=>by have:=HXH.out i hi t ht;have:=HWRS.out;omega)
                  (fun j hj=>by have:=HWLN.out j hj;have:=HZ3.out;omega) HJKK.out.p (by have:=HWN.out;have:=HZ3.out;omega) (by have:=HJKK.out.n;omega) (fun j=>by have:=HJKK.out.s j;omega)
                have HCC:=Lib.hid HCALL
                have HST2:=Lib.hid hst
                clear HCALL hst
                go_wp2_with fail
                refine HCC.out.mono ?_
                rintro e W10 ⟨rfl,hb10,vo',hd',hj',hp'⟩
                have HN:Hid (JD w W10 f (.slice Av f.sorts.length cv) jb (jnK f ls bs (k+1)) (jnO bs (k+1)) vo' hd'):=(show JD _ _ _ _ _ _ _ _ _ from by
                 rw [HST2.out.2]
                 exact ⟨HJ9.out.B.trans (hb10.mono HW1B.out),HJ9.out.F.below hb10 HJZ.out,hj',hp'⟩)
                have HE1':Hid (∀ j,j < k+1→jnE f ls bs j=0):=(show ∀ j,_ from fun j hj=>by
                 rcases Nat.lt_or_ge j k with h | h
                 · exact HE.out j h
                 · obtain rfl:j=k:=by omega
                   exact HEZ.out)
                clear jl hb10 hj' hp'
                go_wp2_with fail
                go_roundg (N-(k+1))
                case measure=>omega
                case rel=>exact ⟨k+1,vo',hd',by omega,by omega,by go_num,HE1',HN⟩
          · have hltz:¬(k:Int) < (q:Int)+1:=by have:=HQN.out;omega
            have hkn:k=N:=by omega
            subst hkn
            have j0:=HJ.out.J.cell 0
            have jl:=HJ.out.J.lt
            have HF:=Lib.hid (HE1.out wr vo (HFZ.out (fun j hj=>HE.out j (by rw [←HQ.out];exact hj))) (by rw [HQ.out];exact HJ.out.P.lv) HJ.out.B)
            obtain ⟨Ao,co,rfl⟩:=HJ.out.P.shape
            go_wp2_with fail
            refine bodyPost_ret (results_tmp2 rfl _ _ _) rfl ?_
            exact HF.out
   · have HX:Hid (10=jnF f ls bs∧jnF f ls bs≠0):=(show _∧_ from by
      have e:jnF f ls bs=10:=by unfold jnF;rw [if_neg (fun h=>h HFE.out),if_pos (.inl hlen)]
      rw [e];exact ⟨rfl,by decide⟩)
     have hlz:¬(ls.length:Int)=(bs.length:Int):=by omega
     have hlb:=bne_t hlz
     generalize ls.length=N at *
     generalize bs.length=M at *
     go_wp2_with fail
     refine bodyPost_ret (results_tmp2 rfl _ _ _) rfl ?_
     exact HE0.out _ _ HX.out.1 HX.out.2 HB1.out
 · have hfe:=bne_t h0
   have HX:Hid ((fnErr f).2=jnF f ls bs∧jnF f ls bs≠0):=(show _∧_ from by
    have e:jnF f ls bs=(fnErr f).2:=by unfold jnF;rw [if_pos h0]
    rw [e];exact ⟨rfl,h0⟩)
   generalize (fnErr f).2=fe at *
   clear h0
   go_wp2_with fail
   refine bodyPost_ret (results_tmp2 rfl _ _ _) rfl ?_
   exact HE0.out _ _ HX.out.1 HX.out.2 HB1.out
end Go.Proofs.YtbnganlfelgogaaGreat
namespace Go.Proofs.YtbnganlfelgogaaGreat
open Go.RowKit
def pths (t:Tb) (m j:Nat):Nat→Nat→List (List Nat × Nat)
 | 0,i=>if i=j then [([],0)] else []
 | n+1,i=>(if i=j then [([],0)] else [])++(List.range m).flatMap fun k=>match t i k with | none=>[] | some d=>(pths t m j n k).map fun p=>(k :: p.1,d+p.2)
theorem pths_mem {t:Tb} {n D:Nat} (ht:TbOk t n D) {m j:Nat} (hj:j < m):∀ (fuel:Nat) {b:List Nat} {i c:Nat},b.length≤fuel→Path t i b j c→(b,c) ∈ pths t m j fuel i
 | fuel,[],i,c,_,p=>by
  have h1:i=j:=p.2
  have h2:0=c:=by have h:some 0=some c:=p.1;injection h
  subst h1 h2
  cases fuel <;> simp [pths]
 | fuel+1,k :: b,i,c,h,p=>by
  obtain ⟨d,e,h1,h2,rfl⟩:=p.inv
  have h3:=Path.len ht h2
  have h4:=pths_mem ht hj fuel (by simp at h;omega) h2
  unfold pths
  rw [List.mem_append,List.mem_flatMap]
  right
  refine ⟨k,List.mem_range.2 (by omega),?_⟩
  rw [h1]
  exact List.mem_map.2 ⟨_,h4,rfl⟩
 | 0,k :: b,i,c,h,p=>by simp at h
def nin6:List Int:=[9,9,9,9,9,9]
theorem aw_ca:caErr rom4 nin6=0:=by decide +kernel
theorem aw_ln:lnErr rom4 rul4 div4 [3,5]=0:=by decide +kernel
theorem aw_ps:∀ p ∈ pths (tab rom4 rul4 div4) 6 5 5 0,p.2=50→p.1=[3,5]:=by decide +kernel
theorem aw_sa:(fstE (saE rom4 rul4 div4 (prs [3,5] 2) nin6) 2).2=0:=by decide +kernel
def awL:List (Int × List Int):=[(1400,[0,3,0,3,0,5]),(1400,[0,3,0,3,3,3])]
theorem aw_k:((saK rom4 rul4 div4 (prs [3,5] 2) nin6 2).2.map fun z=>(rul4.measure,z))=awL:=by decide +kernel
theorem aw_jf:jnF rom4 awL [true,false]=0:=by decide +kernel
theorem aw_jk:jnK rom4 awL [true,false] 2=[[0],[0],[0,0],[0]]:=by decide +kernel
theorem aw_fw:fwE rom4 rul4 div4=(2,0):=by decide +kernel
theorem aw_bb {bs:List Int} (h:BbOk (tab rom4 rul4 div4) 6 bs):bs=[3,5]:=by
 have hd:dist (tab rom4 rul4 div4) (6-1)=50:=ex_d
 rcases h with ⟨-,b,rfl,hp⟩ | ⟨h,-⟩
 · rw [hd] at hp
   have hok:=paErr_ok ex_pa
   have ht:=tab_ok hok.ru hok.m
   have hl:=Path.len ht hp
   have hm:=pths_mem ht (m:=6) (by omega) 5 (by omega) hp
   have:=aw_ps _ hm rfl
   obtain rfl:b=[3,5]:=this
   rfl
 · rw [hd] at h
   exact absurd h (by decide)
end Go.Proofs.YtbnganlfelgogaaGreat
