/- checkPlaces: the error of the places of breaks. -/
import Derived.Test.YtbnganlfelgogaaGreatVLne
import Derived.Test.YtbnganlfelgogaaGreatVQrd
set_option linter.unusedSimpArgs false
set_option linter.unusedVariables false
set_option maxRecDepth 100000
set_option maxHeartbeats 40000000
namespace Go.Proofs.YtbnganlfelgogaaGreat
open Go.RowKit
def befB (bs:List Int):Nat→Int
 | 0=>0
 | j+1=>gz bs j
def ckE (last:Int) (bs:List Int) (j:Nat):Int:=if win (gz bs j) 0 last=false then 6 else if gz bs j≤befB bs j then 9 else 0
def cpErr (last:Int) (bs:List Int):Int:=if (fstE (ckE last bs) bs.length).2≠0 then (fstE (ckE last bs) bs.length).2 else if befB bs bs.length≠last then 10 else 0
theorem cpErr_hit {last:Int} {bs:List Int} {j:Nat} (hj:j < bs.length) (h0:∀ i,i < j→ckE last bs i=0) {x:Int} (hx:ckE last bs j=x) (hn:x≠0):cpErr last bs=x:=by
 subst hx
 unfold cpErr
 rw [fstE_hit hn h0 hj]
 exact if_pos hn
theorem cpErr_end {last:Int} {bs:List Int} (h0:∀ i,i < bs.length→ckE last bs i=0):cpErr last bs=if befB bs bs.length≠last then 10 else 0:=by
 unfold cpErr
 rw [fstE_none h0]
 exact if_neg (fun h=>h rfl)
theorem checkPlaces_any (last:Nat) (bs:List Int) (v:Value) (w:World) (hv:IV w bs v) (hl:last≤1000000) :
 Calls Tryz.prog 106 #[.int .i64 last,v] w fun e w'=>e=.returned (.int .i64 (cpErr last bs))∧w'=w:=by
 obtain ⟨A,b0,o0,c,rfl,hA,hz,hc1,hc2⟩:=hv.open
 have HV:=Lib.hid hv
 have HW:=Lib.hid (fun n W=>within44_any n 0 (last:Int) W)
 have HHIT:Hid (∀ j x,j < bs.length→(∀ i,i < j→ckE last bs i=0)→ckE last bs j=x→x≠0→x=cpErr last bs):=(show ∀ j x,_ from fun j x h1 h2 h3 h4=>(cpErr_hit h1 h2 h3 h4).symm)
 have HEND:Hid ((∀ i,i < bs.length→ckE last bs i=0)→cpErr last bs=if befB bs bs.length≠last then 10 else 0):=cpErr_end
 have HE:Hid (∀ j,ckE last bs j=if win (gz bs j) 0 last=false then 6 else if gz bs j≤befB bs j then 9 else 0):=(show ∀ j,_ from fun j=>rfl)
 have HBS:Hid (∀ j,befB bs (j+1)=gz bs j):=(show ∀ j,_ from fun j=>rfl)
 have HB0:Hid (befB bs 0=0):=rfl
 clear hv hz hA
 generalize hn:bs.length=n at *
 have HN:=Lib.hid hn
 clear hn
 go_enter Tryz.func106,Tryz.ntmps106
 go_wp2_with fail
 go_loopg [10,5,7] n (fun gg s10 s5 _ wr=>∃ k:Nat,k≤n∧n-k≤gg∧s10=.int .i64 k∧s5=.int .i64 (befB bs k)∧Hid (∀ i,i < k→ckE last bs i=0)∧w=wr)
 case atStart=>exact ⟨0,by omega,by omega,rfl,by rw [HB0.out],(show ∀ i,_ from fun i hi=>absurd hi (Nat.not_lt_zero _)),rfl⟩
 case round=>
  obtain ⟨k,hk,hg,rfl,rfl,H0,rfl⟩:=hrel
  by_cases hlt:k < n
  · have hltz:(k:Int) < (n:Int):=by omega
    have hV:=HV.out
    rw [←HN.out] at hV
    obtain ⟨b,off,rfl,hb,zz⟩:=hV.at (k:=k) (by rw [HN.out];exact hlt)
    have HEK:=Lib.hid (HE.out k)
    have HH:=Lib.hid (fun x=>HHIT.out k x hlt H0.out)
    have HB1:=Lib.hid (HBS.out k)
    have HWK:=Lib.hid (fun W=>HW.out (gz bs k) W)
    clear hV
    generalize gz bs k=z at *
    generalize befB bs k=bf at *
    cases hw:win z 0 (last:Int) with
    | false=>
     have HF:=Lib.hid (HH.out 6 (by rw [HEK.out,if_pos hw]) (by decide))
     rw [hw] at HWK
     clear hw
     go_wp2_with ((go_at_call 94;(with_reducible refine (HWK.out _).mono ?_);rintro e w' ⟨rfl,rfl⟩))
     go_ret
     exact ⟨ret_int HF.out,rfl⟩
    | true=>
     have HEK2:Hid (ckE last bs k=if z≤bf then 9 else 0):=by show _=_;rw [HEK.out,if_neg (by rw [hw];decide)]
     rw [hw] at HWK
     clear hw HEK
     by_cases hle:z≤bf
     · have HF:=Lib.hid (HH.out 9 (by rw [HEK2.out,if_pos hle]) (by decide))
       go_wp2_with ((go_at_call 94;(with_reducible refine (HWK.out _).mono ?_);rintro e w' ⟨rfl,rfl⟩))
       go_ret
       exact ⟨ret_int HF.out,rfl⟩
     · have H1:Hid (∀ i,i < k+1→ckE last bs i=0):=(show ∀ i,_ from fun i hi=>by
        by_cases e:i=k
        · subst e;rw [HEK2.out,if_neg hle]
        · exact H0.out i (by omega))
       go_wp2_with ((go_at_call 94;(with_reducible refine (HWK.out _).mono ?_);rintro e w' ⟨rfl,rfl⟩))
       go_roundg (n-(k+1))
       case measure=>omega
       case rel=>exact ⟨k+1,by omega,by omega,by go_num,by rw [HB1.out],H1.out,rfl⟩
  · have hltz:¬(k:Int) < (n:Int):=by omega
    have hke:k=n:=by omega
    subst hke
    have HF:=Lib.hid (HEND.out H0.out)
    clear hltz hlt
    generalize befB bs k=bf at *
    by_cases he:bf=(last:Int)
    · have HF2:Hid (0=cpErr last bs):=by show _=_;rw [HF.out,if_neg (fun h=>h he)]
      clear HF
      subst he
      go_wp2_with fail
      go_ret
      exact ⟨ret_int HF2.out,rfl⟩
    · have heb:=bne_t he
      have HF2:Hid (10=cpErr last bs):=by show _=_;rw [HF.out,if_pos he]
      clear HF
      go_wp2_with fail
      go_ret
      exact ⟨ret_int HF2.out,rfl⟩
end Go.Proofs.YtbnganlfelgogaaGreat
namespace Go.Proofs.YtbnganlfelgogaaGreat
open Go.RowKit
theorem befB_zero (bs:List Int):befB bs 0=0:=rfl
theorem ckE_ok {last:Int} {bs:List Int} {j:Nat} (h:ckE last bs j=0):0≤gz bs j∧gz bs j≤last∧befB bs j < gz bs j:=by
 unfold ckE at h
 by_cases h1:win (gz bs j) 0 last=false
 · rw [if_pos h1] at h;omega
 rw [if_neg h1] at h
 by_cases h2:gz bs j≤befB bs j
 · rw [if_pos h2] at h;omega
 have h3:win (gz bs j) 0 last=true:=by simpa using h1
 have:=win_t.1 h3
 exact ⟨this.1,this.2,by omega⟩
theorem cpErr_ok {last:Int} {bs:List Int} (h:cpErr last bs=0):(∀ j,j < bs.length→ckE last bs j=0)∧befB bs bs.length=last:=by
 unfold cpErr at h
 by_cases h1:(fstE (ckE last bs) bs.length).2≠0
 · rw [if_pos h1] at h;exact absurd h h1
 rw [if_neg h1] at h
 refine ⟨fstE_zero (Decidable.not_not.1 h1),?_⟩
 by_cases h2:befB bs bs.length≠last
 · rw [if_pos h2] at h;omega
 · exact Decidable.not_not.1 h2
theorem bef_up {last:Int} {bs:List Int} (h:∀ j,j < bs.length→ckE last bs j=0) (h0:0≤last):∀ k,k≤bs.length→(k:Int)≤befB bs k∧befB bs k≤last
 | 0,_=>⟨Int.le_refl _,h0⟩
 | k+1,hk=>by
  have h1:=ckE_ok (h k (by omega))
  have h2:=bef_up h h0 k (by omega)
  show ((k+1:Nat):Int)≤gz bs k∧gz bs k≤last
  omega
def prs (bs:List Int):Nat→List (Nat × Nat)
 | 0=>[]
 | k+1=>prs bs k++[((befB bs k).toNat,(gz bs k).toNat)]
def alE (f:Fnt) (r:Rls) (ws:List PWord) (bs:List Int) (j:Nat):Int:=if allowB r (lineF f r ws (befB bs j).toNat (gz bs j).toNat)=true then 0 else 26
def lnErr (f:Fnt) (r:Rls) (ws:List PWord) (bs:List Int):Int:=if cpErr (((places ws).length-1:Nat):Int) bs≠0 then cpErr (((places ws).length-1:Nat):Int) bs else (fstE (alE f r ws bs) bs.length).2
def scl (f:Fnt) (r:Rls) (ws:List PWord) (qs:List ((Nat × Nat) × Value)):List Value:=
 qs.flatMap fun q=>[.int .i64 (q.1.1:Int),.int .i64 (q.1.2:Int),q.2,.int .i64 (lineF f r ws q.1.1 q.1.2).room,.bool (lineF f r ws q.1.1 q.1.2).ends]
theorem scl_snoc (f:Fnt) (r:Rls) (ws:List PWord) (qs:List ((Nat × Nat) × Value)) (q:(Nat × Nat) × Value):scl f r ws (qs++[q])=scl f r ws qs++[.int .i64 (q.1.1:Int),.int .i64 (q.1.2:Int),q.2,.int .i64 (lineF f r ws q.1.1 q.1.2).room,.bool (lineF f r ws q.1.1 q.1.2).ends]:=by simp [scl]
structure SSt (W:World) (B:Nat) (f:Fnt) (r:Rls) (ws:List PWord) (qs:List ((Nat × Nat) × Value)) (vo:Value):Prop where
 row:W.ownsRow B 155 5 vo qs.length (scl f r ws qs)
 pc:∀ q,q ∈ qs→∃ hd,PSt W B (lineF f r ws q.1.1 q.1.2).ps q.2 hd
theorem SSt.nil (W:World) (B:Nat) (f:Fnt) (r:Rls) (ws:List PWord):SSt W B f r ws [] (.slice none 0 0):=⟨World.ownsRow_nil _ _ _ _,fun q hq=>by cases hq⟩
theorem SSt.below {W W':World} {B:Nat} {f:Fnt} {r:Rls} {ws:List PWord} {qs:List ((Nat × Nat) × Value)} {vo:Value} (h:SSt W B f r ws qs vo) (hb:Below W.heap.size W W'):SSt W' B f r ws qs vo:=
 ⟨h.row.kept (grown_of_below hb none) (Classical.em _),fun q hq=>by obtain ⟨hd,hp⟩:=h.pc q hq;exact ⟨hd,hp.below hb⟩⟩
theorem SSt.push {W W3 W5 W6:World} {B:Nat} {f:Fnt} {r:Rls} {ws:List PWord} {qs:List ((Nat × Nat) × Value)} {vo vps v':Value} {i j:Nat} {hd:List Value} (h:SSt W B f r ws qs vo) (hB:B≤W.heap.size)
 (h3:Below W.heap.size W W3) (hp:PSt W3 W.heap.size (lineF f r ws i j).ps vps hd) (h5:Below W3.heap.size W3 W5)
 (hown:W6.ownsRow B 155 5 v' (qs.length+1) (scl f r ws qs++[.int .i64 (i:Int),.int .i64 (j:Int),vps,.int .i64 (lineF f r ws i j).room,.bool (lineF f r ws i j).ends])) (hg:W5.grownBy W6 vo.ownBlock) :
 SSt W6 B f r ws (qs++[((i,j),vps)]) v':=by
 have h6:=(h.below h3).below h5
 refine ⟨by rw [List.length_append,scl_snoc];exact hown,fun q hq=>?_⟩
 rcases List.mem_append.1 hq with hq | hq
 · obtain ⟨hd',hp'⟩:=h6.pc q hq
   exact ⟨hd',hp'.kept h6.row (by decide) (by decide) hg⟩
 · have e:q=((i,j),vps):=by simpa using hq
   subst e
   exact ⟨hd,((hp.mono hB).below h5).kept h6.row (by decide) (by decide) hg⟩
theorem info92:(Tryz.prog.info? 155).map (fun i=>(i.zero,i.size,i.bytes))=some (some (.agg #[.int .i64 0,.int .i64 0,.slice none 0 0,.int .i64 0,.bool false]),5,56):=by kernel_rfl
def LnsPost (w:World) (f:Fnt) (r:Rls) (ws:List PWord) (bs:List Int) (e:Ending) (w':World):Prop:=
 Below w.heap.size w w'∧((lnErr f r ws bs≠0∧e=.returned (.tuple #[.slice none 0 0,.int .i64 (lnErr f r ws bs)]))∨
  (lnErr f r ws bs=0∧∃ vo qs,e=.returned (.tuple #[vo,.int .i64 0])∧SSt w' w.heap.size f r ws qs vo∧qs.map Prod.fst=prs bs bs.length))
theorem lines_any (f:Fnt) (v:Value) (r:Rls) (ws:List PWord) (vw vp:Value) (pb:Nat) (bs:List Int) (vb:Value) (w:World) (h:PA w pb f v r ws vw vp) (hok:POk f r ws) (hb:IV w bs vb) :
 Calls Tryz.prog 99 #[.pointer (some ⟨pb,0,none⟩),vb] w (LnsPost w f r ws bs):=by
 have hm:=hok.m
 have hpos:=places_pos ws
 obtain ⟨Ab,b0,o0,cb,rfl,-,-,hc1,hc2⟩:=hb.open
 have HA:=Lib.hid h
 have HOK:=Lib.hid hok
 have HBV:=Lib.hid hb
 have HLA:=Lib.hid (last_any f v r ws vw vp pb w h hm)
 have HCK:=Lib.hid (checkPlaces_any ((places ws).length-1) bs _ w hb (by omega))
 have HD:Hid (lnErr f r ws bs=if cpErr (((places ws).length-1:Nat):Int) bs≠0 then cpErr (((places ws).length-1:Nat):Int) bs else (fstE (alE f r ws bs) bs.length).2):=rfl
 have HPB:Hid (∀ (W:World) (x:Int),lnErr f r ws bs=x→x≠0→Below w.heap.size w W→LnsPost w f r ws bs (.returned (.tuple #[.slice none 0 0,.int .i64 x])) W):=(show ∀ W x,_ from fun W x h h0 hb=>⟨hb,.inl ⟨by rw [h];exact h0,by rw [h]⟩⟩)
 have HPG:Hid (∀ (W:World) (vo:Value) (qs:List ((Nat × Nat) × Value)),lnErr f r ws bs=0→SSt W w.heap.size f r ws qs vo→qs.map Prod.fst=prs bs bs.length→Below w.heap.size w W→LnsPost w f r ws bs (.returned (.tuple #[vo,.int .i64 0])) W):=(show ∀ W vo qs,_ from fun W vo qs h h1 h2 hb=>⟨hb,.inr ⟨h,vo,qs,rfl,h1,h2⟩⟩)
 have HPR:Hid (∀ k,prs bs (k+1)=prs bs k++[((befB bs k).toNat,(gz bs k).toNat)]):=(show ∀ k,_ from fun k=>rfl)
 have HAE:Hid (∀ k,alE f r ws bs k=if allowB r (lineF f r ws (befB bs k).toNat (gz bs k).toNat)=true then 0 else 26):=(show ∀ k,_ from fun k=>rfl)
 have HBS:Hid (∀ k,befB bs (k+1)=gz bs k):=(show ∀ k,_ from fun k=>rfl)
 clear h hok hb
 generalize hn:bs.length=n at *
 have HN:=Lib.hid hn
 clear hn
 obtain ⟨ce,hce⟩:∃ x,cpErr (((places ws).length-1:Nat):Int) bs=x:=⟨_,rfl⟩
 have HCE:=Lib.hid hce
 rw [hce] at HD HCK
 clear hce
 obtain ⟨i92,hi92,hz92,hy92,hx92⟩:=info_parts info92
 go_enter Tryz.func99,Tryz.ntmps99
 by_cases he:ce=0
 rotate_left
 · have heb:=bne_t he
   have HF:Hid (lnErr f r ws bs=ce):=by show _=_;rw [HD.out,if_pos he]
   have HNE:=Lib.hid he
   clear he
   go_wp2_with (first
    | (go_at_call 87;(with_reducible refine HLA.out.mono ?_);rintro e w' ⟨rfl,hw'⟩;have hw'':=hw'.symm;subst hw'')
    | (go_at_call 106;(with_reducible refine HCK.out.mono ?_);rintro e w' ⟨rfl,hw'⟩;have hw'':=hw'.symm;subst hw''))
   go_ret2
   exact HPB.out _ _ HF.out HNE.out (Below.refl _ _)
 have heb:=bne_f he
 have HD2:Hid (lnErr f r ws bs=(fstE (alE f r ws bs) n).2):=by show _=_;rw [HD.out,if_neg (fun h=>h he)]
 have hcp:=cpErr_ok (HCE.out.trans he)
 have HUP:Hid (∀ k,k≤n→(k:Int)≤befB bs k∧befB bs k≤((places ws).length-1:Nat)):=(show ∀ k,_ from fun k hk=>bef_up hcp.1 (by omega) k (by rw [HN.out];exact hk))
 have HCO:Hid (∀ k,k < n→0≤gz bs k∧gz bs k≤((places ws).length-1:Nat)∧befB bs k < gz bs k):=(show ∀ k,_ from fun k hk=>ckE_ok (hcp.1 k (by rw [HN.out];exact hk)))
 have hn3:n≤300:=by have:=HUP.out n (Nat.le_refl _);omega
 clear he HD hcp HCE
 go_wp2_with (first
  | (go_at_call 87;(with_reducible refine HLA.out.mono ?_);rintro e w' ⟨rfl,hw'⟩;have hw'':=hw'.symm;subst hw'')
  | (go_at_call 106;(with_reducible refine HCK.out.mono ?_);rintro e w' ⟨rfl,hw'⟩;have hw'':=hw'.symm;subst hw''))
 clear HLA HCK
 go_loopg [21,7,8,10,11] n (fun gg s21 s7 s8 _ _ wr=>∃ (k:Nat) (vo:Value) (qs:List ((Nat × Nat) × Value)),k≤n∧n-k≤gg∧s21=.int .i64 k∧vo=s7∧s8=.int .i64 (befB bs k)∧qs.length=k∧Hid (qs.map Prod.fst=prs bs k)∧Hid (SSt wr w.heap.size f r ws qs vo)∧Hid (Below w.heap.size w wr)∧Hid (∀ i,i < k→alE f r ws bs i=0))
 case atStart=>exact ⟨0,.slice none 0 0,[],by omega,by omega,rfl,rfl,by rw [befB_zero],rfl,rfl,SSt.nil _ _ _ _ _,Below.refl _ _,(show ∀ i,_ from fun i hi=>absurd hi (Nat.not_lt_zero _))⟩
 case round=>
  obtain ⟨k,vo,qs,hk,hg,rfl,rfl,rfl,hql,HQ,HS,HB,H0⟩:=hrel
  by_cases hlt:k < n
  · have hltz:(k:Int) < (n:Int):=by omega
    have hV:=HBV.out.below HB.out
    rw [←HN.out] at hV
    obtain ⟨b,off,rfl,hbb,zz⟩:=hV.at (k:=k) (by rw [HN.out];exact hlt)
    have hup:=HUP.out k hk
    have hco:=HCO.out k hlt
    have HPK:=Lib.hid (HPR.out k)
    have HAK:=Lib.hid (HAE.out k)
    have HBK:=Lib.hid (HBS.out k)
    clear hV
    generalize gz bs k=z at *
    generalize befB bs k=y at *
    obtain ⟨i,rfl⟩:∃ i:Nat,y=(i:Int):=⟨y.toNat,by omega⟩
    obtain ⟨j,rfl⟩:∃ j:Nat,z=(j:Int):=⟨z.toNat,by omega⟩
    rw [Int.toNat_natCast,Int.toNat_natCast] at HPK HAK
    have HLN:=Lib.hid (line_any f v r ws vw vp pb i j wr (HA.out.step HB.out) HOK.out (by omega) (by omega))
    have HSZ:=Lib.hid (line_size HOK.out (i:=i) (j:=j) (by omega) (by omega))
    have HAL:Hid (∀ Av cv W,Below w.heap.size w W→LV W (lineF f r ws i j).ps (.slice Av (lineF f r ws i j).ps.length cv)→Calls Tryz.prog 115 #[.pointer (some ⟨pb,0,none⟩),.agg (lcs i j (.slice Av (lineF f r ws i j).ps.length cv) (lineF f r ws i j).room (lineF f r ws i j).ends)] W fun e w'=>e=.returned (.bool (allowB r (lineF f r ws i j)))∧Below W.heap.size W w'):=(show ∀ Av cv W,_ from fun Av cv W h1 h2=>
     allowed_any f v r ws vw vp pb i j (lineF f r ws i j) _ W (HA.out.step h1) HOK.out.ru h2 (by have:=HSZ.out;omega) (by have:=HSZ.out;omega) (by have:=HSZ.out;omega))
    cases hab:allowB r (lineF f r ws i j) with
    | false=>
     have HF:Hid (lnErr f r ws bs=26):=by show _=_;rw [HD2.out,fstE_hit (by rw [HAK.out,if_neg (by rw [hab];decide)];decide) H0.out hlt,HAK.out,if_neg (by rw [hab];decide)]
     rw [hab] at HAL
     clear hab
     go_wp2_with (first
      | (go_at_call 132;(with_reducible refine HLN.out.mono ?_);rintro e w3 ⟨vps,rfl,⟨hd,hps⟩,hb3⟩;have hlv:=hps.lv;obtain ⟨Av,cv,rfl,-,-⟩:=hlv.shape;have HLV:=Lib.hid hlv;have HB3:=Lib.hid (HB.out.trans (hb3.mono HB.out.size));clear hlv hps hb3)
      | (go_at_call 115;(with_reducible refine (HAL.out _ _ _ (HB3.out.trans ((below_new _ _).mono HB3.out.size)) (HLV.out.below (below_new _ _))).mono ?_);rintro e w4 ⟨rfl,hb4⟩))
     have HB4:=(HB3.out.trans ((below_new _ _).mono HB3.out.size)).trans (hb4.mono (by have:=HB3.out.size;simp;omega))
     go_ret2
     exact HPB.out _ _ HF.out (by decide) HB4
    | true=>
     have H1:Hid (∀ q,q < k+1→alE f r ws bs q=0):=(show ∀ q,_ from fun q hq=>by
      by_cases e:q=k
      · subst e;rw [HAK.out,if_pos hab]
      · exact H0.out q (by omega))
     rw [hab] at HAL
     clear hab
     have HSL:=Lib.hid HS.out.row.lt
     go_wp2_with (first
      | (go_at_call 132;(with_reducible refine HLN.out.mono ?_);rintro e w3 ⟨vps,rfl,⟨hd,hps⟩,hb3⟩;have hlv:=hps.lv;obtain ⟨Av,cv,rfl,-,-⟩:=hlv.shape;have HLV:=Lib.hid hlv;have HPS:=Lib.hid hps;have HB3r:=Lib.hid hb3;have HB3:=Lib.hid (HB.out.trans (hb3.mono HB.out.size));clear hlv hps hb3)
      | (go_at_call 115;(with_reducible refine (HAL.out _ _ _ (HB3.out.trans ((below_new _ _).mono HB3.out.size)) (HLV.out.below (below_new _ _))).mono ?_);rintro e w4 ⟨rfl,hb4⟩
         have HW34:Hid (Below w3.heap.size w3 w4):=((below_new w3 _).trans (hb4.mono (by simp)))
         have HW35:Hid (Below w3.heap.size w3 (w4.alloc (.cells #[.int .i64 (i:Int),.int .i64 (j:Int),.slice Av (lineF f r ws i j).ps.length cv,.int .i64 (lineF f r ws i j).room,.bool (lineF f r ws i j).ends] 155))):=HW34.out.trans ((below_new w4 _).mono HW34.out.size)
         have HB5:Hid (Below w.heap.size w (w4.alloc (.cells #[.int .i64 (i:Int),.int .i64 (j:Int),.slice Av (lineF f r ws i j).ps.length cv,.int .i64 (lineF f r ws i j).room,.bool (lineF f r ws i j).ends] 155))):=HB3.out.trans (HW35.out.mono HB3.out.size)
         have HS5:=Lib.hid ((HS.out.below HB3r.out).below HW35.out)
         have hnews:∀ (q:Nat) (u:Value),([.int .i64 (i:Int),.int .i64 (j:Int),.slice Av (lineF f r ws i j).ps.length cv,.int .i64 (lineF f r ws i j).room,.bool (lineF f r ws i j).ends]:List Value)[q]?=some u→(w4.alloc (.cells #[.int .i64 (i:Int),.int .i64 (j:Int),.slice Av (lineF f r ws i j).ps.length cv,.int .i64 (lineF f r ws i j).room,.bool (lineF f r ws i j).ends] 155)).cell? ((⟨w4.heap.size,0,none⟩:Addr).add q)=some u:=World.news_of_block (w:=w4.alloc (.cells #[.int .i64 (i:Int),.int .i64 (j:Int),.slice Av (lineF f r ws i j).ps.length cv,.int .i64 (lineF f r ws i j).room,.bool (lineF f r ws i j).ends] 155)) (heap_alloc_new w4 _)
         have hbase:w.heap.size≤(w4.alloc (.cells #[.int .i64 (i:Int),.int .i64 (j:Int),.slice Av (lineF f r ws i j).ps.length cv,.int .i64 (lineF f r ws i j).room,.bool (lineF f r ws i j).ends] 155)).heap.size:=HB5.out.size
         have g0:=(Blk.new w3 155 (lcs i j (.slice Av (lineF f r ws i j).ps.length cv) (lineF f r ws i j).room (lineF f r ws i j).ends)).below hb4 (Blk.new w3 155 (lcs i j (.slice Av (lineF f r ws i j).ps.length cv) (lineF f r ws i j).room (lineF f r ws i j).ends)).lt
         have g1:=g0.cell 0
         have g2:=g0.cell 1
         have g3:=g0.cell 2
         have g4:=g0.cell 3
         have g5:=g0.cell 4
         have g6:=g0.lt
         clear hb4 g0)
      | (at_builtin
         refine wpList_append_lies _ rfl _ _ 148 (by rfl) w.heap.size 155 i92 _ 5 56 Tryz.underlying148 hi92 hz92 hy92 hx92 rfl (by omega) vo qs.length _ (by rfl) HS5.out.row ⟨w4.heap.size,0,none⟩ 1 1 [.int .i64 (i:Int),.int .i64 (j:Int),.slice Av (lineF f r ws i j).ps.length cv,.int .i64 (lineF f r ws i j).room,.bool (lineF f r ws i j).ends] (by rfl) (by rfl) hnews (by simp [Value.oneCell']) (by omega) (by simp only [maxLen];omega) (by omega) hbase _ rfl ?_
         intro g6' cap6 w6 hown hgrow hat hlt6
         have HS6:=Lib.hid (HS.out.push HB.out.size HB3r.out HPS.out HW35.out hown hgrow)
         rw [hql] at HS6
         have HB6:=Lib.hid (HB5.out.grown hgrow hbase (fun t ht=>(HSL.out t ht).1))
         clear hnews hown hgrow hat))
     go_roundg (n-(k+1))
     case measure=>omega
     case rel=>exact ⟨k+1,_,qs++[((i,j),Value.slice Av (lineF f r ws i j).ps.length cv)],by omega,by omega,by go_num,rfl,by rw [HBK.out],by rw [List.length_append,hql];rfl,by show _=_;rw [List.map_append,HQ.out,HPK.out];rfl,HS6.out,HB6.out,H1.out⟩
  · have hltz:¬(k:Int) < (n:Int):=by omega
    have hke:k=n:=by omega
    have HF:Hid (lnErr f r ws bs=0):=by show _=_;rw [HD2.out,fstE_none (fun q hq=>H0.out q (by omega))]
    have HQ2:Hid (qs.map Prod.fst=prs bs n):=by show _=_;rw [HQ.out,hke]
    have HSH:=Lib.hid HS.out
    clear hke
    go_wp2_with fail
    go_ret2
    exact HPG.out _ _ _ HF.out HS.out HQ2.out HB.out
end Go.Proofs.YtbnganlfelgogaaGreat
