/- Plain: ways are right breaks, as the reference reckons; the fewest lines. -/
import Derived.Test.YtbnganlfelgogaaGreatVRcb
import Derived.Test.YtbnganlfelgogaaGreatVBin
set_option linter.unusedSimpArgs false
set_option linter.unusedVariables false
set_option maxRecDepth 100000
set_option maxHeartbeats 40000000
namespace Go.Proofs.YtbnganlfelgogaaGreat
theorem Path.unsnoc {t:Tb} {j c:Nat}:∀ {b:List Nat} {i:Nat} {k:Nat},Path t i (b++[j]) k c→k=j∧∃ m e d,Path t i b m e∧t m j=some d∧c=e+d:=by
 intro b
 induction b generalizing c with
 | nil=>
  intro i k p
  obtain ⟨d,e,h1,h2,rfl⟩:=p.inv
  obtain ⟨h3,h4⟩:=h2
  cases h3
  exact ⟨h4.symm,i,0,d,Path.nil t i,h1,by omega⟩
 | cons x b ih=>
  intro i k p
  obtain ⟨d,e,h1,h2,rfl⟩:=p.inv
  obtain ⟨rfl,m,e',d',h3,h4,rfl⟩:=ih h2
  exact ⟨rfl,m,d+e',d',Path.cons h1 h3,h4,by omega⟩
theorem hop_mono (t:Tb) (j:Nat) {y:Nat}:∀ {k k':Nat},k≤k'→leO (hop t k j) y→leO (hop t k' j) y:=by
 intro k k' h
 induction h with
 | refl=>exact id
 | step h ih=>
  rename_i m
  intro h0
  have h1:=ih h0
  show leO (match t m j with | none=>hop t m j | some _=>_) y
  split
  · exact h1
  · split
    · exact h1
    · rename_i q hq
      split
      · rename_i e
        rw [e] at h1
        exact h1.elim
      · rename_i x hx
        rw [hx] at h1
        have h1:x≤y:=h1
        split
        · show q+1≤y
          omega
        · exact h1
theorem hop_step {t:Tb} {k j d m:Nat} (h:t k j=some d) (hk:hop t k k=some m):leO (hop t (k+1) j) (m+1):=by
 show leO (match t k j with | none=>hop t k j | some _=>_) _
 rw [h,hk]
 show leO (match hop t k j with | none=>some (m+1) | some x=>if m+1 < x then some (m+1) else some x) _
 split
 · exact Nat.le_refl _
 · split
   · exact Nat.le_refl _
   · rename_i x hx h2
     show x≤m+1
     omega
theorem hop_le {t:Tb} {n D:Nat} (ht:TbOk t n D):∀ (l:Nat) {b:List Nat} {j c:Nat},b.length=l→Path t 0 b j c→leO (hop t j j) b.length:=by
 intro l
 induction l with
 | zero=>
  intro b j c hl p
  obtain rfl:=List.eq_nil_of_length_eq_zero hl
  obtain ⟨h1,h2⟩:=p
  obtain rfl:0=j:=h2
  exact Nat.le_refl _
 | succ l ih=>
  intro b j c hl p
  rcases List.eq_nil_or_concat b with rfl | ⟨b',x,rfl⟩
  · simp at hl
  · rw [List.concat_eq_append] at p hl ⊢
    obtain ⟨rfl,m,e,d,h3,h4,rfl⟩:=p.unsnoc
    have h5:=ih (by simpa using hl) h3
    have h6:=(ht.up h4).1
    have hs:=hop_stay ht m (Nat.le_refl m)
    cases hm:hop t m m with
    | none=>rw [hm] at h5;exact h5.elim
    | some q=>
     rw [hm] at h5
     have h5:q≤b'.length:=h5
     have h7:=hop_mono t j (show m+1≤j by omega) (hop_step h4 hm)
     cases hj:hop t j j with
     | none=>rw [hj] at h7;exact h7.elim
     | some y=>
      rw [hj] at h7
      have h7:y≤q+1:=h7
      show y≤_
      rw [List.length_append,List.length_singleton]
      omega
theorem inS_mono (t:Tb) (p:Nat→Nat) (j:Nat):∀ {k k':Nat},k≤k'→(inS t p k' j).1≤(inS t p k j).1:=by
 intro k k' h
 induction h with
 | refl=>exact Nat.le_refl _
 | step h ih=>
  rename_i q
  refine Nat.le_trans ?_ ih
  show (match t q j with | none=>inS t p q j | some d=>_).1≤_
  split
  · exact Nat.le_refl _
  · split
    · rename_i d hd h2
      show p q+d≤_
      omega
    · exact Nat.le_refl _
theorem inS_step {t:Tb} {p:Nat→Nat} {k j d:Nat} (h:t k j=some d) (hk:p k < ML):(inS t p (k+1) j).1≤p k+d:=by
 show (match t k j with | none=>inS t p k j | some d=>_).1≤_
 rw [h]
 show (if p k < ML∧p k+d < (inS t p k j).1 then (p k+d,(k:Int)) else inS t p k j).1≤_
 split
 · exact Nat.le_refl _
 · omega
theorem inD_le {t:Tb} {n D:Nat} (ht:TbOk t n D):∀ (m:Nat) {b:List Nat} {j c:Nat},b.length=m→Path t 0 b j c→j < n→(inD t n m j).1≤c:=by
 intro m
 induction m with
 | zero=>
  intro b j c hl p hj
  obtain rfl:=List.eq_nil_of_length_eq_zero hl
  obtain ⟨h1,h2⟩:=p
  obtain rfl:0=j:=h2
  simp [inD]
 | succ m ih=>
  intro b j c hl p hj
  rcases List.eq_nil_or_concat b with rfl | ⟨b',x,rfl⟩
  · simp at hl
  · rw [List.concat_eq_append] at p hl
    obtain ⟨rfl,i,e,d,h3,h4,rfl⟩:=p.unsnoc
    have h6:=ht.up h4
    have h5:=ih (by simpa using hl) h3 (by omega)
    have h8:=(h3.lt ht (by omega)).1
    have h7:=inS_step (p:=fun i=>(inD t n m i).1) h4 (show (inD t n m i).1 < ML by omega)
    have:=inS_mono t (fun i=>(inD t n m i).1) j (show i+1≤n by omega)
    show (inS t (fun i=>(inD t n m i).1) n j).1≤_
    have h9:(fun i=>(inD t n m i).1) i=(inD t n m i).1:=rfl
    omega
theorem inD_path {t:Tb} {n D:Nat} (ht:TbOk t n D):∀ (m j:Nat),(inD t n m j).1 < ML→∃ b,Path t 0 b j (inD t n m j).1∧b.length=m:=by
 intro m
 induction m with
 | zero=>
  intro j h
  unfold inD at h ⊢
  split at h
  · rename_i h0
    subst h0
    exact ⟨[],Path.nil t 0,rfl⟩
  · exact absurd h (Nat.lt_irrefl _)
 | succ m ih=>
  intro j h
  obtain ⟨i,d,-,h2,h3,h4,h5⟩:=inD_by ht h
  obtain ⟨b,hb,hl⟩:=ih i h4
  exact ⟨b++[j],by rw [h5];exact Path.snoc h3 hb,by simp [hl]⟩
theorem Path.split {t:Tb} {j:Nat} {b2:List Nat}:∀ {b1:List Nat} {i c:Nat},Path t i (b1++b2) j c→∃ m c1 c2,Path t i b1 m c1∧Path t m b2 j c2∧c=c1+c2
 | [],i,c,p=>⟨i,0,c,Path.nil t i,p,by omega⟩
 | k :: b1,i,c,p=>by
  obtain ⟨d,e,h1,h2,rfl⟩:=Path.inv (show Path t i (k :: (b1++b2)) j c from p)
  obtain ⟨m,c1,c2,h3,h4,rfl⟩:=Path.split h2
  exact ⟨m,d+c1,c2,Path.cons h1 h3,h4,by omega⟩
theorem Path.same {t:Tb} {i j j' c c':Nat} {b:List Nat} (h:Path t i b j c) (h':Path t i b j' c'):j=j'∧c=c':=by
 obtain ⟨h1,h2⟩:=h
 obtain ⟨h3,h4⟩:=h'
 rw [h1] at h3
 injection h3 with h3
 exact ⟨h2.symm.trans h4,h3⟩
theorem Path.at {t:Tb} {j c:Nat} {b:List Nat} (h:Path t 0 b j c) {k fr s:Nat} (hk:k < b.length) (hp:Path t 0 (b.take k) fr s):∃ d,t fr b[k]=some d∧Path t 0 (b.take (k+1)) b[k] (s+d):=by
 have e:b=b.take k++(b[k] :: b.drop (k+1)):=by
  rw [←List.drop_eq_getElem_cons hk,List.take_append_drop]
 rw [e] at h
 obtain ⟨m,c1,c2,h1,h2,-⟩:=h.split
 obtain ⟨rfl,rfl⟩:=hp.same h1
 obtain ⟨d,e2,h3,-,-⟩:=h2.inv
 refine ⟨d,h3,?_⟩
 rw [List.take_add_one,List.getElem?_eq_getElem hk]
 exact Path.snoc h3 hp
theorem ints_get {b:List Nat} {k:Nat} (h:k < b.length):gz (ints b) k=(b[k]:Int):=by
 unfold gz ints
 simp [List.getD_eq_getElem?_getD,h]
theorem tab_inv {f:Fnt} {r:Rls} {ws:List PWord} {i j d:Nat} (hr:RuOk f r) (h:tab f r ws i j=some d):i < j∧j < (places ws).length∧allowB r (lineF f r ws i j)=true∧demF f r (lineF f r ws i j) (divB ws i) (divB ws j)=(d:Int):=by
 unfold tab at h
 by_cases hc:i < j∧j < (places ws).length∧allowB r (lineF f r ws i j)=true
 · rw [if_pos hc] at h
   injection h with h
   have hb:=dem_bound (da:=divB ws i) (db:=divB ws j) hr hc.2.2
   exact ⟨hc.1,hc.2.1,hc.2.2,by rw [←h];exact (Int.toNat_of_nonneg hb.1).symm⟩
 · rw [if_neg hc] at h;cases h
theorem path_key {f:Fnt} {r:Rls} {ws:List PWord} (hok:POk f r ws) {b:List Nat} {c:Nat} (p:Path (tab f r ws) 0 b ((places ws).length-1) c):∀ k,k≤b.length→0≤befB (ints b) k∧∃ s:Nat,Path (tab f r ws) 0 (b.take k) (befB (ints b) k).toNat s∧dmA f r ws (ints b) k=(s:Int)∧∀ j,j < k→ckE (((places ws).length-1:Nat):Int) (ints b) j=0∧alE f r ws (ints b) j=0
 | 0,_=>⟨Int.le_refl _,0,Path.nil _ 0,by simp [dmA,sumD],fun j hj=>by omega⟩
 | k+1,hk=>by
  obtain ⟨h0,s,h1,h2,h3⟩:=path_key hok p k (by omega)
  obtain ⟨d,hd,hp⟩:=Path.at p (show k < b.length by omega) h1
  obtain ⟨q1,q2,q3,q4⟩:=tab_inv hok.ru hd
  have hg:=ints_get (b:=b) (k:=k) (by omega)
  have hgn:(gz (ints b) k).toNat=b[k]:=by rw [hg];exact Int.toNat_natCast _
  have hbf:befB (ints b) (k+1)=(b[k]:Int):=hg
  have hlen:(ints b).length=b.length:=by simp [ints]
  refine ⟨by rw [hbf];omega,s+d,by rw [hbf,Int.toNat_natCast];exact hp,?_,fun j hj=>?_⟩
  · rw [dmA_step (by rw [hlen];omega),h2,hgn,q4]
    push_cast
    rfl
  · by_cases e:j=k
    · subst e
      refine ⟨?_,?_⟩
      · unfold ckE
        rw [if_neg (by
         have:win (gz (ints b) j) 0 (((places ws).length-1:Nat):Int)=true:=win_t.2 (by rw [hg];omega)
         rw [this];decide),if_neg (by rw [hg];omega)]
      · unfold alE
        rw [hgn,if_pos q3]
    · exact h3 j (by omega)
theorem path_cb {f:Fnt} {r:Rls} {ws:List PWord} (hok:POk f r ws) {b:List Nat} {c:Nat} (p:Path (tab f r ws) 0 b ((places ws).length-1) c):cbR f r ws (ints b)=((c:Int),0):=by
 obtain ⟨h0,s,h1,h2,h3⟩:=path_key hok p b.length (Nat.le_refl _)
 have hlen:(ints b).length=b.length:=by simp [ints]
 rw [List.take_length] at h1
 obtain ⟨e1,e2⟩:=h1.same p
 have hcp:cpErr (((places ws).length-1:Nat):Int) (ints b)=0:=by
  rw [cpErr_end (fun j hj=>(h3 j (by omega)).1),if_neg (by rw [hlen];omega)]
 have hln:lnErr f r ws (ints b)=0:=ln_end hcp (fun j hj=>(h3 j (by omega)).2)
 unfold cbR
 rw [if_neg (fun h=>h hln),hlen,h2,e2]
theorem fewR_no {t:Tb} {N:Nat}:∀ {K:Nat},(∀ k,k < K→¬(inD t N k (N-1)).1 < ML)→fewR t N K=-1
 | 0,_=>rfl
 | K+1,h=>by
  have ih:=fewR_no (K:=K) (fun k hk=>h k (by omega))
  unfold fewR
  rw [ih,if_neg (by decide),if_neg (h K (by omega))]
theorem fewR_hit {t:Tb} {N k:Nat} (h1:(inD t N k (N-1)).1 < ML) (h0:∀ j,j < k→¬(inD t N j (N-1)).1 < ML):∀ {K:Nat},k < K→fewR t N K=(k:Int)
 | 0,h=>by omega
 | K+1,h=>by
  unfold fewR
  by_cases e:k=K
  · subst e
    rw [fewR_no h0,if_neg (by decide),if_pos h1]
  · rw [fewR_hit h1 h0 (by omega),if_pos (by omega)]
theorem inD_big {t:Tb} {N D:Nat} (ht:TbOk t N D) {m:Nat} (h:¬m < N):(inD t N m (N-1)).1=ML:=by
 have h1:=inD_le_ML t N m (N-1)
 by_cases h2:(inD t N m (N-1)).1 < ML
 · exfalso
   obtain ⟨b,hb,hl⟩:=inD_path ht m (N-1) h2
   have:=(hb.lt ht (by have:=ht.pos;omega)).2
   omega
 · omega
theorem few_hop {t:Tb} {N D:Nat} (ht:TbOk t N D):fewR t N N=match hop t (N-1) (N-1) with | none=>-1 | some m=>(m:Int):=by
 have hpos:=ht.pos
 have hno:∀ k y,hop t (N-1) (N-1)=y→(inD t N k (N-1)).1 < ML→leO y k:=fun k y hy hk=>by
  obtain ⟨b,hb,hl⟩:=inD_path ht k (N-1) hk
  have:=hop_le ht b.length rfl hb
  rw [hy,hl] at this
  exact this
 cases hh:hop t (N-1) (N-1) with
 | none=>exact fewR_no (fun k _ hk=>(hno k none hh hk).elim)
 | some m=>
  obtain ⟨b,c,hp,hl⟩:=hop_path ht _ _ _ hh
  have hb:=hp.lt ht (by omega)
  have h1:(inD t N m (N-1)).1 < ML:=by
   have:=inD_le ht m hl hp (by omega)
   omega
  exact fewR_hit h1 (fun j hj hk=>by have h2:m≤j:=hno j _ hh hk;omega) (by omega)
end Go.Proofs.YtbnganlfelgogaaGreat
