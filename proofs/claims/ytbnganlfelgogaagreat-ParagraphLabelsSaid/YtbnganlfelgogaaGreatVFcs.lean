/- Counts of a fount: checkCounts, check, CheckCase; lists of sorts: checkList, WidthOf. -/
import Derived.Test.YtbnganlfelgogaaGreatVLwd
set_option linter.unusedSimpArgs false
set_option linter.unusedVariables false
set_option maxRecDepth 100000
set_option maxHeartbeats 40000000
namespace Go.Proofs.YtbnganlfelgogaaGreat
open Go.RowKit
def PredI (g:Nat) (lb:Array Value) (zs:List Int) (n:Nat) (pr:Int→Bool) (w:World):Prop:=
 ∀ (W:World) (j:Nat),Below w.heap.size w W→j < n→Calls Tryz.prog g (#[.int .i64 (gz zs j)]++lb) W fun e w'=>e=.returned (.bool (pr (gz zs j)))∧Below w.heap.size w w'
theorem indexI_any (g:Nat) (lb:Array Value) (A:Option Addr) (b off n c:Nat) (zs:List Int) (pr:Int→Bool) (w:World) (hp:PredI g lb zs n pr w) (hn:n=zs.length) (hbig:n≤1000000) (hA:Lies A n w.heap.size b off)
 (eg:∀ args w,(callFunc g args).run Tryz.prog w=.ok (.enter g args) w) (hc:ZsAt w b off zs) :
 Calls Tryz.prog 148 #[.slice A n c,.func (.func g) #[] lb] w fun e w'=>e=.returned (.int .i64 (idx (fun j=>pr (gz zs j)) n))∧Below w.heap.size w w':=by
 have HN:=Lib.hid hn
 clear hn
 go_enter Tryz.func148,Tryz.ntmps148
 go_wp2
 go_loopg [5,8] n (fun gg _ s8 wr=>∃ kk:Nat,kk≤n∧n-kk≤gg∧s8=.int .i64 kk∧Aside (Below w.heap.size w wr)∧Aside (∀ j,j < kk→pr (gz zs j)=false))
 case atStart=>exact ⟨0,Nat.zero_le _,by omega,rfl,Below.refl _ w,fun j hj=>absurd hj (Nat.not_lt_zero _)⟩
 case round=>
  obtain ⟨kk,hkk,hg,rfl,BW,A1⟩:=hrel
  by_cases hlt:kk < n
  · have hltz:(kk:Int) < (n:Int):=by omega
    have hk0:(0:Int)≤(kk:Int):=by omega
    obtain ⟨rfl,hb⟩:=hA (by omega)
    have c0:wr.cell? ⟨b,off+kk,none⟩=some (.int .i64 (gz zs kk)):=(hc.below BW.out hb) kk (by have:=HN.out;omega)
    have hcall:=hp wr kk BW.out hlt
    clear hc hp
    generalize hy:gz zs kk=y at *
    have B:=Lib.hid hy
    clear hy
    cases hq:pr y with
    | true=>
     rw [hq] at hcall
     have HQ:=Lib.hid hq
     clear hq
     go_wp2_with ((with_reducible refine hcall.mono ?_);rintro e w' ⟨rfl,hb'⟩)
     go_ret
     refine ⟨?_,hb'⟩
     have h1:pr (gz zs kk)=true:=by rw [B.out];exact HQ.out
     rw [idx_hit (pr:=fun j=>pr (gz zs j)) h1 A1.out hlt]
     rfl
    | false=>
     rw [hq] at hcall
     have HQ:=Lib.hid hq
     clear hq
     go_wp2_with ((with_reducible refine hcall.mono ?_);rintro e w' ⟨rfl,hb'⟩)
     go_roundg (n-(kk+1))
     case measure=>omega
     case rel=>
      refine ⟨kk+1,by omega,by omega,by go_num,hb',(show Aside _ from fun j hj=>?_)⟩
      by_cases e:j=kk
      · subst e
        rw [B.out];exact HQ.out
      · exact A1.out j (by omega)
  · have hltz:¬(kk:Int) < (n:Int):=by omega
    have:kk=n:=by omega
    subst this
    go_wp2
    go_ret
    refine ⟨?_,BW.out⟩
    rw [idx_none (pr:=fun j=>pr (gz zs j)) A1.out]
    rfl
theorem containsI_any (g:Nat) (lb:Array Value) (A:Option Addr) (b off n c:Nat) (zs:List Int) (pr:Int→Bool) (w:World) (hp:PredI g lb zs n pr w) (hn:n=zs.length) (hbig:n≤1000000) (hA:Lies A n w.heap.size b off)
 (eg:∀ args w,(callFunc g args).run Tryz.prog w=.ok (.enter g args) w) (hc:ZsAt w b off zs) :
 Calls Tryz.prog 111 #[.slice A n c,.func (.func g) #[] lb] w fun e w'=>e=.returned (.bool (decide (0≤idx (fun j=>pr (gz zs j)) n)))∧Below w.heap.size w w':=by
 have hcall:=indexI_any g lb A b off n c zs pr w hp hn hbig hA eg hc
 clear hp hn hc hA hbig eg
 go_enter Tryz.func111,Tryz.ntmps111
 go_wp2_with fail
 refine hcall.mono ?_
 rintro e w' ⟨rfl,hb'⟩
 go_wp2_with fail
 go_ret
 exact ⟨rfl,hb'⟩
def cntErr (n:Nat) (cs:List Int):Int:=
 if cs.length≠n then 10 else if 0≤idx (fun j=>!win (gz cs j) 0 1000000) cs.length then 2 else 0
theorem cnt1_any (z:Int) (W:World):Calls Tryz.prog 199 #[.int .i64 z] W fun e w'=>e=.returned (.bool (!win z 0 1000000))∧Below W.heap.size W w':=by
 have HC:Hid (∀ W,Calls Tryz.prog 184 #[.int .i64 z,.int .i64 0,.int .i64 1000000] W fun e w'=>e=.returned (.bool (win z 0 1000000))∧W=w'):=(show ∀ W,_ from fun W=>within100_any _ _ _ W)
 go_enter Tryz.func199,Tryz.ntmps199
 go_wp2_with ((go_at_call 184;(with_reducible refine (HC.out _).mono ?_);rintro e w' ⟨rfl,hw'⟩;subst hw'))
 go_ret
 exact ⟨rfl,Below.refl _ _⟩
def IntPost (n:Int) (w:World) (e:Ending) (w':World):Prop:=e=.returned (.int .i64 n)∧Below w.heap.size w w'
theorem enters131:∀ (args:Array Value) (w:World),(callFunc 199 args).run Tryz.prog w=.ok (.enter 199 args) w:=enters_of' Tryz.func199 (by kernel_rfl) rfl
theorem checkCounts_any (f:Fnt) (v:Value) (cs:List Int) (vc:Value) (w:World) (hv:SoV w f.sorts v) (hc:IV w cs vc) (hm:f.sorts.length≤1000000) :
 Calls Tryz.prog 178 #[.agg (fcs f v),vc] w (IntPost (cntErr f.sorts.length cs) w):=by
 have hb0:=below_new w (.cells (fcs f v) 24)
 have hbk:=Blk.new w 24 (fcs f v)
 obtain ⟨A,c,rfl⟩:=hv.shape
 obtain ⟨A1,b1,o1,c1,rfl,hA1,hz1,-,-⟩:=(hc.below hb0).open
 have c2:=hbk.cell 2
 have HP:Hid (∀ W,Below w.heap.size w W→IntPost (cntErr f.sorts.length cs) w (.returned (.int .i64 (cntErr f.sorts.length cs))) W):=(show ∀ W,_ from fun W h=>⟨rfl,h⟩)
 by_cases hl:cs.length=f.sorts.length
 · have hcall:=containsI_any 199 #[] A1 b1 o1 cs.length c1 cs (fun z=>!win z 0 1000000) (w.alloc (.cells (fcs f (.slice A f.sorts.length c)) 24)) (fun W j hW hj=>by
    refine (cnt1_any _ W).mono ?_
    rintro e w' ⟨rfl,hb⟩
    exact ⟨rfl,hW.trans (hb.mono hW.size)⟩) rfl (by omega) hA1 enters131 hz1
   have HC:=Lib.hid hcall
   have HB0:=Lib.hid hb0
   clear hcall hb0 hA1 hz1 hv hc
   have hlz:(cs.length:Int)=(f.sorts.length:Int):=by omega
   have hbn:=bne_f hlz
   cases hq:decide (0≤idx (fun j=>!win (gz cs j) 0 1000000) cs.length) with
   | true=>
    have he:cntErr f.sorts.length cs=2:=by unfold cntErr;rw [if_neg (by omega),if_pos (of_decide_eq_true hq)]
    rw [he] at HP ⊢
    rw [hq] at HC
    clear he hq hl hlz
    go_enter Tryz.func178,Tryz.ntmps178
    go_wp2_with fail
    refine HC.out.mono ?_
    rintro e w1 ⟨rfl,hb⟩
    have HB1:=Lib.hid (HB0.out.trans (hb.mono HB0.out.size))
    clear hb
    go_wp2_with fail
    go_ret
    exact HP.out _ HB1.out
   | false=>
    have he:cntErr f.sorts.length cs=0:=by unfold cntErr;rw [if_neg (by omega),if_neg (of_decide_eq_false hq)]
    rw [he] at HP ⊢
    rw [hq] at HC
    clear he hq hl hlz
    go_enter Tryz.func178,Tryz.ntmps178
    go_wp2_with fail
    refine HC.out.mono ?_
    rintro e w1 ⟨rfl,hb⟩
    have HB1:=Lib.hid (HB0.out.trans (hb.mono HB0.out.size))
    clear hb
    go_wp2_with fail
    go_ret
    exact HP.out _ HB1.out
 · have he:cntErr f.sorts.length cs=10:=by unfold cntErr;rw [if_pos hl]
   rw [he] at HP ⊢
   have HB0:=Lib.hid hb0
   have hlz:¬(cs.length:Int)=(f.sorts.length:Int):=by omega
   have hbn:=bne_t hlz
   clear he hA1 hz1 hv hc hb0 hl hlz
   go_enter Tryz.func178,Tryz.ntmps178
   go_wp2_with fail
   go_ret
   exact HP.out _ HB0.out
def chErr (f:Fnt) (ls:List (List Int)):Int:=if (fnErr f).2≠0 then (fnErr f).2 else (fstE (fun j=>cntErr f.sorts.length (gl ls j)) ls.length).2
theorem fnErr_len {f:Fnt} (h:(fnErr f).2=0):0 < f.sorts.length∧f.sorts.length≤120:=by
 unfold fnErr at h
 split at h
 · simp at h
 split at h
 · simp at h
 split at h
 · simp at h
 split at h
 · simp at h
 omega
theorem check_any (f:Fnt) (v:Value) (ls:List (List Int)) (vl:Value) (w:World) (hv:SoV w f.sorts v) (hn:f.name.size≤9223372036854775807) (hl:LV w ls vl) (hm:ls.length≤1000) :
 Calls Tryz.prog 143 #[.agg (fcs f v),vl] w (IntPost (chErr f ls) w):=by
 have hb0:=below_new w (.cells (fcs f v) 24)
 have hbk:=Blk.new w 24 (fcs f v)
 have HC:=Lib.hid (checkFount_any f v _ (hv.below hb0) hn)
 have HV0:=Lib.hid (hv.below hb0)
 have HL0:=Lib.hid (hl.below hb0)
 obtain ⟨A,c,rfl⟩:=hv.shape
 obtain ⟨hs,⟨A1,b1,o1,c1,rfl,hA1,hz1,-,-⟩,-⟩:=hl.below hb0
 have c0:=hbk.cell 0
 have c1':=hbk.cell 1
 have c2:=hbk.cell 2
 have HP:Hid (∀ W,Below w.heap.size w W→IntPost (chErr f ls) w (.returned (.int .i64 (chErr f ls))) W):=(show ∀ W,_ from fun W h=>⟨rfl,h⟩)
 have HB0:=Lib.hid hb0
 clear hb0 hv hl hA1 hz1
 by_cases hf:(fnErr f).2=0
 · have hlen:=fnErr_len hf
   have hbf:=bne_f hf
   have he:chErr f ls=(fstE (fun j=>cntErr f.sorts.length (gl ls j)) ls.length).2:=by unfold chErr;rw [if_neg (by omega)]
   rw [he] at HP ⊢
   clear he
   obtain ⟨X,hX⟩:∃ x,x=(fstE (fun j=>cntErr f.sorts.length (gl ls j)) ls.length).2:=⟨_,rfl⟩
   rw [←hX] at HP ⊢
   have HX:=Lib.hid hX
   clear hX
   have HF:=Lib.hid hf
   go_enter Tryz.func143,Tryz.ntmps143
   go_wp2_with fail
   refine HC.out.mono ?_
   rintro e w1 ⟨rfl,hb⟩
   obtain ⟨hs1,⟨A2,b2,o2,c2',he2,hA2,hz2,-,-⟩,hI2⟩:=HL0.out.below hb
   injection he2 with e1 e2 e3
   subst e1
   clear e2 e3
   have HV1:=Lib.hid (HV0.out.below hb)
   have HB1:=Lib.hid (HB0.out.trans (hb.mono HB0.out.size))
   have d0:=(hb.cell (p:=⟨w.heap.size,0,none⟩) (by simp)).trans c0
   have d1:=(hb.cell (p:=⟨w.heap.size,1,none⟩) (by simp)).trans c1'
   have d2:=(hb.cell (p:=⟨w.heap.size,2,none⟩) (by simp)).trans c2
   have hlt1:w.heap.size < w1.heap.size:=by have:=hb.size;simp at this;omega
   rw [HF.out] at hbf ⊢
   clear hb c0 c1' c2 HC HV0 HL0 hf HB0 hbk
   generalize (fnErr f).1=a1 at *
   have HI:=Lib.hid hI2
   have HA:=Lib.hid hA2
   have HZ:=Lib.hid hz2
   clear hI2 hA2 hz2
   generalize hN:ls.length=N at *
   have HN:=Lib.hid hN
   clear hN
   go_wp2_with fail
   go_loopg [8,9,20] N (fun gg s8 s9 s20 wr=>∃ k:Nat,k≤N∧N-k≤gg∧s20=.int .i64 (k:Int)∧Hid (Below w1.heap.size w1 wr)∧Hid (∀ j,j < k→cntErr f.sorts.length (gl ls j)=0))
   case atStart=>exact ⟨0,by omega,by omega,rfl,Below.refl _ _,fun j hj=>absurd hj (Nat.not_lt_zero _)⟩
   case round=>
    obtain ⟨k,hk,hg,rfl,HR,HO⟩:=hrel
    by_cases hlt:k < N
    · have hltz:(k:Int) < (N:Int):=by omega
      obtain ⟨rfl,hbl⟩:=HA.out (by omega)
      have hz:=(HR.out.cell (p:=⟨b2,o2+k,none⟩) hbl).trans (HZ.out k (by omega))
      have hbl':b2 < wr.heap.size:=Nat.lt_of_lt_of_le hbl HR.out.size
      have g0:=(HR.out.cell (p:=⟨w.heap.size,0,none⟩) hlt1).trans d0
      have g1:=(HR.out.cell (p:=⟨w.heap.size,1,none⟩) hlt1).trans d1
      have g2:=(HR.out.cell (p:=⟨w.heap.size,2,none⟩) hlt1).trans d2
      have hlt2:w.heap.size < wr.heap.size:=Nat.lt_of_lt_of_le hlt1 HR.out.size
      have hcall:=checkCounts_any f (.slice A f.sorts.length c) (gl ls k) (hs1 k) wr (HV1.out.below HR.out) ((HI.out k (by omega)).below HR.out) (by omega)
      generalize hs1 k=v1 at *
      by_cases hq:cntErr f.sorts.length (gl ls k)=0
      · rw [hq] at hcall
        have HQ:=Lib.hid hq
        have HCC:=Lib.hid hcall
        clear hq hcall
        go_wp2_with fail
        refine HCC.out.mono ?_
        rintro e w2 ⟨rfl,hb2⟩
        have HR2:=Lib.hid (HR.out.trans (hb2.mono HR.out.size))
        clear hb2 g0 g1 g2 hz
        go_wp2_with fail
        go_roundg (N-(k+1))
        case measure=>omega
        case rel=>
         refine ⟨k+1,by omega,by omega,by go_num,HR2.out,(show Hid _ from fun j hj=>?_)⟩
         by_cases e:j=k
         · subst e;exact HQ.out
         · exact HO.out j (by omega)
      · have hqn:=bne_t hq
        have he:=fstE_hit (g:=fun j=>cntErr f.sorts.length (gl ls j)) hq HO.out hlt
        have HCC:=Lib.hid hcall
        have HX2:Hid (X=cntErr f.sorts.length (gl ls k)):=HX.out.trans (by rw [he])
        clear he hq hcall HX
        generalize cntErr f.sorts.length (gl ls k)=ce at *
        go_wp2_with fail
        refine HCC.out.mono ?_
        rintro e w2 ⟨rfl,hb2⟩
        have HR2:=Lib.hid (HB1.out.trans ((HR.out.trans (hb2.mono HR.out.size)).mono HB1.out.size))
        clear hb2 g0 g1 g2 hz
        go_wp2_with fail
        go_ret
        have:=HP.out _ HR2.out
        rw [HX2.out] at this ⊢
        exact this
    · have hltz:¬(k:Int) < (N:Int):=by omega
      have:k=N:=by omega
      subst this
      have HX2:Hid (X=0):=HX.out.trans (by rw [fstE_none HO.out])
      clear HX
      go_wp2_with fail
      go_ret
      have:=HP.out _ (HB1.out.trans (HR.out.mono HB1.out.size))
      rw [HX2.out] at this ⊢
      exact this
 · have he:chErr f ls=(fnErr f).2:=by unfold chErr;rw [if_pos hf]
   have hbf:=bne_t hf
   rw [he] at HP ⊢
   clear he hf
   go_enter Tryz.func143,Tryz.ntmps143
   go_wp2_with fail
   refine HC.out.mono ?_
   rintro e w1 ⟨rfl,hb⟩
   have HB1:=Lib.hid (HB0.out.trans (hb.mono HB0.out.size))
   clear hb
   generalize (fnErr f).1=a1 at *
   generalize (fnErr f).2=a2 at *
   go_wp2_with fail
   go_ret
   exact HP.out _ HB1.out
end Go.Proofs.YtbnganlfelgogaaGreat
namespace Go.Proofs.YtbnganlfelgogaaGreat
open Go.RowKit
def caErr (f:Fnt) (cs:List Int):Int:=if (fnErr f).2≠0 then (fnErr f).2 else cntErr f.sorts.length cs
theorem chErr_one (f:Fnt) (cs:List Int):chErr f [cs]=caErr f cs:=by
 unfold chErr caErr
 by_cases h:(fnErr f).2=0
 · rw [if_neg (by omega),if_neg (by omega)]
   by_cases hc:cntErr f.sorts.length cs=0
   · rw [hc]
     rw [fstE_none (n:=[cs].length)]
     intro j hj
     have:j=0:=by simp at hj;omega
     subst this
     exact hc
   · have:=fstE_hit (g:=fun j=>cntErr f.sorts.length (gl [cs] j)) (k:=0) hc (fun j hj=>absurd hj (Nat.not_lt_zero _)) (n:=[cs].length) (by simp)
     rw [this]
     rfl
 · rw [if_pos h,if_pos h]
theorem checkCase_any (f:Fnt) (v:Value) (cs:List Int) (vc:Value) (w:World) (hv:SoV w f.sorts v) (hn:f.name.size≤9223372036854775807) (hc:IV w cs vc) :
 Calls Tryz.prog 103 #[.agg (fcs f v),vc] w (IntPost (caErr f cs) w):=by
 have hb0:=below_new w (.cells (fcs f v) 24)
 have hbk:=Blk.new w 24 (fcs f v)
 have hb1:=below_new (w.alloc (.cells (fcs f v) 24)) (.cells #[vc] 34)
 have hrow:=Blk.new (w.alloc (.cells (fcs f v) 24)) 34 #[vc]
 have hLV:LV ((w.alloc (.cells (fcs f v) 24)).alloc (.cells #[vc] 34)) [cs] (.slice (some ⟨(w.alloc (.cells (fcs f v) 24)).heap.size,0,none⟩) 1 1):=by
  refine ⟨fun _=>vc,⟨some ⟨_,0,none⟩,_,0,1,rfl,fun _=>⟨rfl,hrow.lt⟩,fun j hj=>?_,Nat.le_refl _,by omega⟩,fun i hi=>?_⟩
  · have:j=0:=by simp at hj;omega
    subst this
    exact hrow.cell 0
  · have:i=0:=by simp at hi;omega
    subst this
    exact (hc.below hb0).below hb1
 have hC:=check_any f v [cs] _ _ ((hv.below hb0).below hb1) hn hLV (by simp)
 rw [chErr_one] at hC
 simp only [World.size_alloc] at hC
 have HB:=Lib.hid (hb0.trans (hb1.mono hb0.size))
 obtain ⟨A,b,off,c,rfl,-⟩:=hc.open
 have HC:=Lib.hid hC
 have c0:=hbk.cell 0
 have c1:=hbk.cell 1
 have c2:=hbk.cell 2
 clear hLV hv hc hb0 hb1 hbk hrow hC
 go_enter Tryz.func103,Tryz.ntmps103
 go_wp2_with fail
 refine HC.out.mono ?_
 rintro e w1 ⟨rfl,hb⟩
 have HB1:=Lib.hid (HB.out.trans (hb.mono HB.out.size))
 clear hb c0 c1 c2
 generalize caErr f cs=X at *
 go_wp2_with fail
 go_ret
 exact ⟨rfl,HB1.out⟩
def liErr (f:Fnt) (zs:List Int):Int:=
 if (fnErr f).2≠0 then (fnErr f).2 else if 10000 < zs.length then 8 else if 0≤idx (fun j=>!win (gz zs j) 0 ((f.sorts.length:Int)-1)) zs.length then 6 else 0
end Go.Proofs.YtbnganlfelgogaaGreat
namespace Go.Proofs.YtbnganlfelgogaaGreat
open Go.RowKit
theorem IO.add {W':World} {B n:Nat} {zs:List Int} {x:Int} {v':Value} (h:W'.ownsRow B 3 1 v' (n+1) (zv zs++[.int .i64 x])) (hn:zs.length=n):IO W' B (zs++[x]) v':=by
 show World.ownsRow _ _ _ _ _ _ _
 rw [List.length_append,List.length_singleton,hn,zv_app]
 exact h
theorem wpList_add1 {ops:Array Oper} {rest:List Oper} {o:Oper} {a:Act} {w:World} {Q:Exit→Act→World→Prop} (hgd:o.guard=none) (s x:Operand)
 (ho:o.op=.call { callee:=.builtin .append,args:=#[s,x],argTypes:=#[34,34] }) (base:Nat) (v:Value) (zs:List Int) (y:Int) (b c:Nat) (hs:a.eval s=v) (hx:a.eval x=.slice (some ⟨b,0,none⟩) 1 c)
 (hown:IO w base zs v) (hc:w.cell? ⟨b,0,none⟩=some (.int .i64 y)) (hn:zs.length≤1000000) (hbase:base≤w.heap.size)
 (h:∀ v' w',IO w' base (zs++[y]) v'→Below base w w'→w.grownBy w' v.ownBlock→wpList Tryz.prog ops Q rest (a.put o.dst v') w'):wpList Tryz.prog ops Q (o :: rest) a w:=by
 obtain ⟨i3,hi3,hz3,hy3,hx3⟩:=info_parts info3
 refine wpList_append_lies w hgd s x 34 ho base 3 i3 _ 1 8 Tryz.underlying34 hi3 hz3 hy3 hx3 rfl (by omega) v zs.length _ hs hown ⟨b,0,none⟩ 1 c [.int .i64 y] hx rfl ?_ (by simp [Value.oneCell']) (by omega) (by simp only [maxLen];omega) (by omega) hbase _ rfl ?_
 · intro j u hu
   cases j with
   | zero=>simp only [List.getElem?_cons_zero] at hu;rw [←hu];exact hc
   | succ j=>simp at hu
 · intro g cap w' h1 h2 h3 h4
   exact h _ _ (IO.add h1 rfl) ((Below.refl base w).grown h2 hbase (fun t ht=>(World.ownsRow.lt hown t ht).1)) h2
theorem within107_any (n lo hi:Int) (w:World):Calls Tryz.prog 159 #[.int .i64 n,.int .i64 lo,.int .i64 hi] w fun e w'=>e=.returned (.bool (win n lo hi))∧w=w':=by
 go_enter Tryz.func159,Tryz.ntmps159
 go_wp2
 all_goals go_ret
 all_goals exact ⟨ret_bool (by unfold win;first | exact decide_eq_decide.2 (by omega) | exact (decide_eq_false (by omega)).symm),rfl⟩
def spl (l:List TSort):Nat→List Int
 | 0=>[]
 | k+1=>if (gs l k).kind == 3 then spl l k++[(k:Int)] else spl l k
theorem spl_len (l:List TSort):∀ k,(spl l k).length≤k
 | 0=>Nat.le_refl _
 | k+1=>by
  unfold spl
  split
  · simp;exact spl_len l k
  · have:=spl_len l k;omega
@[reducible,go_sem] def xfs (f:Fnt) (v vs:Value):Array Value:=#[.string f.name,.int .i64 f.body,v,vs]
structure FC (w W:World) (f:Fnt) (v vs:Value) (zs:List Int):Prop where
 B:Below w.heap.size w W
 F:Blk W w.heap.size 24 (fcs f v)
 R:Blk W (w.heap.size+1) 189 #[.string ⟨#[]⟩,.int .i64 0,.slice none 0 0,.slice none 0 0]
 X:Blk W (w.heap.size+2) 189 (xfs f v vs)
 S:IO W (w.heap.size+3) zs vs
theorem FC.below {w W W':World} {f:Fnt} {v vs:Value} {zs:List Int} (h:FC w W f v vs zs) (hb:Below W.heap.size W W'):FC w W' f v vs zs:=
 ⟨h.B.trans (hb.mono h.B.size),h.F.below hb h.F.lt,h.R.below hb h.R.lt,h.X.below hb h.X.lt,h.S.below hb⟩
theorem FC.app {w W W':World} {f:Fnt} {v vs vs':Value} {zs zs':List Int} (h:FC w W f v vs zs) (hb:Below (w.heap.size+3) W W') (hS:IO W' (w.heap.size+3) zs' vs'):FC w (W'.setCell ⟨w.heap.size+2,3,none⟩ vs') f v vs' zs':=by
 refine ⟨(h.B.trans (hb.mono (by omega))).setCell (p:=⟨w.heap.size+2,3,none⟩) (by show _≤w.heap.size+2;omega) _,?_,?_,?_,?_⟩
 · exact (Below.heap_setCell _ _ _ _ (by show w.heap.size≠w.heap.size+2;omega)).trans (h.F.below hb (by omega))
 · exact (Below.heap_setCell _ _ _ _ (by show w.heap.size+1≠w.heap.size+2;omega)).trans (h.R.below hb (by omega))
 · have:=(h.X.below hb (by omega)).set_ 3 vs'
   simpa using this
 · exact ownsRow_setCell_below hS (by show w.heap.size+2 < _;omega) _
def FcPost (f:Fnt) (v:Value) (w:World) (e:Ending) (w':World):Prop:=∃ vs,e=.returned (.agg (xfs f v vs))∧IO w' w.heap.size (spl f.sorts f.sorts.length) vs∧Below w.heap.size w w'
theorem info116:(Tryz.prog.info? 189).map (·.size)=some 4:=by kernel_rfl
theorem faceOf_any (f:Fnt) (v:Value) (w:World) (hv:SoV w f.sorts v) (hm:f.sorts.length≤100000):Calls Tryz.prog 124 #[.agg (fcs f v)] w (FcPost f v w):=by
 have hb3:Below w.heap.size w (((w.alloc (.cells (fcs f v) 24)).alloc (.cells #[.string ⟨#[]⟩,.int .i64 0,.slice none 0 0,.slice none 0 0] 189)).alloc (.cells (xfs f v (.slice none 0 0)) 189)):=
  ((below_new w _).alloc (by simp) _).alloc (by simp;omega) _
 obtain ⟨A,c,rfl⟩:=hv.shape
 have hFC:FC w (((w.alloc (.cells (fcs f (.slice A f.sorts.length c)) 24)).alloc (.cells #[.string ⟨#[]⟩,.int .i64 0,.slice none 0 0,.slice none 0 0] 189)).alloc (.cells (xfs f (.slice A f.sorts.length c) (.slice none 0 0)) 189)) f (.slice A f.sorts.length c) (.slice none 0 0) []:=by
  refine ⟨hb3,?_,?_,?_,World.ownsRow_nil _ _ _ _⟩
  · exact ((Blk.new w 24 (fcs f (.slice A f.sorts.length c))).below (below_new (w.alloc (.cells (fcs f (.slice A f.sorts.length c)) 24)) _) (by simp)).below (below_new _ _) (by simp;omega)
  · have:=(Blk.new (w.alloc (.cells (fcs f (.slice A f.sorts.length c)) 24)) 189 #[.string ⟨#[]⟩,.int .i64 0,.slice none 0 0,.slice none 0 0]).below (below_new _ (.cells (xfs f (.slice A f.sorts.length c) (.slice none 0 0)) 189)) (by simp)
    simpa using this
  · have:=Blk.new ((w.alloc (.cells (fcs f (.slice A f.sorts.length c)) 24)).alloc (.cells #[.string ⟨#[]⟩,.int .i64 0,.slice none 0 0,.slice none 0 0] 189)) 189 (xfs f (.slice A f.sorts.length c) (.slice none 0 0))
    simpa using this
 have HF0:=Lib.hid hFC
 have HV:=Lib.hid hv
 have HP:Hid (∀ W vs,IO W w.heap.size (spl f.sorts f.sorts.length) vs→Below w.heap.size w W→FcPost f (.slice A f.sorts.length c) w (.returned (.agg (xfs f (.slice A f.sorts.length c) vs))) W):=(show ∀ W vs,_ from fun W vs h1 h2=>⟨vs,rfl,h1,h2⟩)
 have c2:=hFC.F.cell 2
 clear hb3 hFC hv
 generalize hN:f.sorts.length=N at *
 have HN:=Lib.hid hN
 clear hN
 go_enter Tryz.func124,Tryz.ntmps124
 go_wp2_with fail
 go_loopg [4,5,11] N (fun gg _ _ s11 wr=>∃ (k:Nat) (vs:Value),k≤N∧N-k≤gg∧s11=.int .i64 (k:Int)∧Hid (FC w wr f (.slice A N c) vs (spl f.sorts k)))
 case atStart=>exact ⟨0,_,by omega,by omega,rfl,HF0.out⟩
 case round=>
  obtain ⟨k,vs,hk,hg,rfl,HF⟩:=hrel
  obtain ⟨Av,cv,rfl⟩:=HF.out.S.shape
  have hsz:=HF.out.B.size
  by_cases hlt:k < N
  · have hltz:(k:Int) < (N:Int):=by omega
    obtain ⟨A',b,off,c',he,hA',hss,-,-,-⟩:=HV.out.below HF.out.B
    rw [HN.out] at he hA'
    injection he with e1 e2 e3
    clear e2 e3
    subst e1
    obtain ⟨rfl,hbl⟩:=hA' (by omega)
    obtain ⟨s0,s1,s2,s3⟩:=hss k (by rw [HN.out];exact hlt)
    have hx3:=HF.out.X.cell 3
    have hxl:=HF.out.X.lt
    have hxf:=Blk.frozen HF.out.X 3
    have hle:=spl_len f.sorts k
    have HS1:Hid (spl f.sorts (k+1)=if (gs f.sorts k).kind == 3 then spl f.sorts k++[(k:Int)] else spl f.sorts k):=rfl
    generalize spl f.sorts k=zs at *
    generalize (gs f.sorts k)=x at *
    clear hss hA' c2
    cases hq:(x.kind == 3) with
    | true=>
     have HS2:=Lib.hid (HS1.out.trans (if_pos hq))
     have hqz:x.kind=3:=by simpa using hq
     clear hq HS1
     have hbW:=(below_new wr (.cells #[.string x.name,.string x.text,.int .i64 3,.int .i64 x.width] 145)).trans ((below_new (wr.alloc (.cells #[.string x.name,.string x.text,.int .i64 3,.int .i64 x.width] 145)) (.cells #[.int .i64 (k:Int)] 3)).mono (by simp))
     have hcl:=(Blk.new (wr.alloc (.cells #[.string x.name,.string x.text,.int .i64 3,.int .i64 x.width] 145)) 3 #[.int .i64 (k:Int)]).cell 0
     rw [World.size_alloc] at hcl
     have hF2:=HF.out.below hbW
     have hio:=hF2.S
     have hbs:w.heap.size+3≤((wr.alloc (.cells #[.string x.name,.string x.text,.int .i64 3,.int .i64 x.width] 145)).alloc (.cells #[.int .i64 (k:Int)] 3)).heap.size:=by have:=HF.out.X.lt;simp;omega
     have HF2:=Lib.hid hF2
     clear hbW hF2
     go_wp2_with (first
      | (at_builtin
         refine wpList_add1 rfl _ _ (by rfl) (w.heap.size+3) _ zs (k:Int) _ 1 (by rfl) (by rfl) hio hcl (by omega) hbs ?_
         intro v' w' hio' hbw hgw
         have hx3':=(HF2.out.X.below hbw (by omega)).cell 3
         have hxl':=(HF2.out.X.below hbw (by omega)).lt
         have hxf':=Blk.frozen (HF2.out.X.below hbw (by omega)) 3
         obtain ⟨A2,c2',rfl⟩:=hio'.shape
         have hF3:=HF2.out.app hbw hio'
         rw [List.length_append,List.length_singleton] at hF3
         have HF3:=Lib.hid hF3
         clear hio' hbw hgw hF3))
     go_roundg (N-(k+1))
     case measure=>omega
     case rel=>exact ⟨k+1,.slice A2 (zs.length+1) c2',by omega,by omega,by go_num,(by rw [HS2.out];exact HF3.out)⟩
    | false=>
     have HS2:=Lib.hid (HS1.out.trans (if_neg (by rw [hq];simp)))
     have hqz:¬x.kind=3:=by simpa using hq
     clear hq HS1
     have HF2:=Lib.hid (HF.out.below (below_new wr (.cells #[.string x.name,.string x.text,.int .i64 x.kind,.int .i64 x.width] 145)))
     go_wp2_with fail
     go_roundg (N-(k+1))
     case measure=>omega
     case rel=>exact ⟨k+1,_,by omega,by omega,by go_num,(by rw [HS2.out];exact HF2.out)⟩
  · have hltz:¬(k:Int) < (N:Int):=by omega
    have:k=N:=by omega
    subst this
    have hx0:=HF.out.X.cell 0
    have hx1:=HF.out.X.cell 1
    have hx2:=HF.out.X.cell 2
    have hx3:=HF.out.X.cell 3
    have hxl:=HF.out.X.lt
    have r0:=HF.out.R.cell 0
    have r1:=HF.out.R.cell 1
    have r2:=HF.out.R.cell 2
    have r3:=HF.out.R.cell 3
    have rl:=HF.out.R.lt
    have rf0:=Blk.frozen HF.out.R 0
    have rf1:=Blk.frozen HF.out.R 1
    have rf2:=Blk.frozen HF.out.R 2
    have rf3:=Blk.frozen HF.out.R 3
    clear c2
    have hR:Blk ((((wr.setCell ⟨w.heap.size+1,0,none⟩ (.string f.name)).setCell ⟨w.heap.size+1,1,none⟩ (.int .i64 f.body)).setCell ⟨w.heap.size+1,2,none⟩ (.slice A k c)).setCell ⟨w.heap.size+1,3,none⟩ (.slice Av (spl f.sorts k).length cv)) (w.heap.size+1) 189 (xfs f (.slice A k c) (.slice Av (spl f.sorts k).length cv)):=by
     have:=(((HF.out.R.set_ 0 (.string f.name)).set_ 1 (.int .i64 f.body)).set_ 2 (.slice A k c)).set_ 3 (.slice Av (spl f.sorts k).length cv)
     simpa using this
    go_wp2_with fail
    refine bodyPost_ret (results_cell_row rfl _ _ (w.heap.size+1) 189 (xfs f (.slice A k c) (.slice Av (spl f.sorts k).length cv)) (0,0) _ rfl hR Tryz.underlying189 rfl info116) rfl (HP.out _ _ ?_ ?_)
    · refine World.ownsRow.mono (base:=w.heap.size+3) ?_ (by omega)
      exact ownsRow_setCell_below (ownsRow_setCell_below (ownsRow_setCell_below (ownsRow_setCell_below HF.out.S (by show w.heap.size+1 < _;omega) _) (by show w.heap.size+1 < _;omega) _) (by show w.heap.size+1 < _;omega) _) (by show w.heap.size+1 < _;omega) _
    · exact (((HF.out.B.setCell (p:=⟨w.heap.size+1,0,none⟩) (by show _≤w.heap.size+1;omega) _).setCell (p:=⟨w.heap.size+1,1,none⟩) (by show _≤w.heap.size+1;omega) _).setCell (p:=⟨w.heap.size+1,2,none⟩) (by show _≤w.heap.size+1;omega) _).setCell (p:=⟨w.heap.size+1,3,none⟩) (by show _≤w.heap.size+1;omega) _
end Go.Proofs.YtbnganlfelgogaaGreat
