/- Plain: what the reference of chapter 4 answers: a line, its table, least demerits, labels, the greedy breaks. -/
import Derived.Test.YtbnganlfelgogaaGreatVBas
import Derived.Test.YtbnganlfelgogaaGreatVFcf
import Derived.Test.YtbnganlfelgogaaGreatVDem
set_option linter.unusedSimpArgs false
set_option linter.unusedVariables false
set_option maxRecDepth 100000
set_option maxHeartbeats 40000000
namespace Go.Proofs.YtbnganlfelgogaaGreat
def fitsB (l:Ln):Bool:=decide (l.ps.length≤30∧longB l.ps=false∧lenS l.ps≤188∧l.room≤20000)
theorem allow_fits {r:Rls} {l:Ln} (hg:0≤l.g):allowB r l=if fitsB l=false then false else if l.ends=true then decide (l.g*r.least≤l.room) else if l.g=0 then decide (l.room=0) else win l.room (l.g*r.least) (l.g*r.most):=by
 unfold allowB
 by_cases h1:longB l.ps=true
 · have e:fitsB l=false:=decide_eq_false (fun h=>by rw [h1] at h;exact absurd h.2.1 (by decide))
   rw [if_pos h1,if_pos e]
 rw [if_neg h1]
 by_cases h2:30 < l.ps.length∨188 < lenS l.ps∨20000 < l.room
 · have e:fitsB l=false:=decide_eq_false (fun h=>by omega)
   rw [if_pos h2,if_pos e]
 have e:fitsB l=true:=decide_eq_true ⟨by omega,by simpa using h1,by omega,by omega⟩
 rw [if_neg h2,if_neg (show ¬fitsB l=false by rw [e];decide)]
 by_cases h3:l.ends=true
 · rw [if_pos h3,if_pos h3]
 rw [if_neg h3,if_neg h3]
 by_cases h4:l.g=0
 · rw [if_pos h4,if_neg (by omega)]
 · rw [if_neg h4,if_pos (by omega)]
theorem line_g {f:Fnt} {r:Rls} {ws:List PWord} {ns:Nat} (h:WsOk ns ws) {i j:Nat} (hij:i < j) (hj:j < (places ws).length):0 < (lineF f r ws i j).ps.length:=by
 have hpos:=raw_pos (places_up h hij hj) (places_in h (j:=i) (by omega))
 have:=(pieces_len (ws:=ws) (h:=r.hyphen) hpos).1
 show 0 < (piecesF ws r.hyphen _ _).length
 omega
def tbc:Option Nat→Int
 | none=>-1
 | some d=>(d:Int)
def tbR (t:Tb) (n i:Nat):List Int:=(List.range n).map fun j=>tbc (t i j)
def tbL (t:Tb) (n k:Nat):List (List Int):=(List.range k).map fun i=>tbR t n i
theorem tbR_len (t:Tb) (n i:Nat):(tbR t n i).length=n:=by simp [tbR]
theorem tbL_len (t:Tb) (n k:Nat):(tbL t n k).length=k:=by simp [tbL]
theorem tbR_get {t:Tb} {n i j:Nat} (h:j < n):gz (tbR t n i) j=tbc (t i j):=by
 unfold gz tbR
 simp [List.getD_eq_getElem?_getD,h]
theorem tbL_get {t:Tb} {n k i:Nat} (h:i < k):gl (tbL t n k) i=tbR t n i:=by
 unfold gl tbL
 simp [List.getD_eq_getElem?_getD,h]
theorem tbL_succ (t:Tb) (n k:Nat):tbL t n (k+1)=tbL t n k++[tbR t n k]:=by simp [tbL,List.range_succ]
theorem tbR_succ (t:Tb) (i k:Nat):tbR t (k+1) i=tbR t k i++[tbc (t i k)]:=by simp [tbR,List.range_succ]
theorem tbc_neg {o:Option Nat} (h:¬0≤tbc o):o=none:=by
 cases o with
 | none=>rfl
 | some d=>exact absurd (Int.natCast_nonneg d) h
theorem tbc_pos {o:Option Nat} (h:0≤tbc o):∃ d:Nat,o=some d∧tbc o=(d:Int):=by
 cases o with
 | none=>exact absurd h (by decide)
 | some d=>exact ⟨d,rfl,rfl⟩
theorem fw1_none {t:Tb} {k j:Nat} (h:t k j=none):fwd t (k+1) j=fwd t k j:=by
 simp only [fwd,h]
theorem fw1_some {t:Tb} {k j d:Nat} (h:t k j=some d) (hk:dist t k < ML):(fwd t (k+1) j).1=min (fwd t k j).1 (dist t k+d):=by
 simp only [fwd,h]
 by_cases h2:(fwd t k k).1 < ML∧(fwd t k k).1+d < (fwd t k j).1
 · rw [if_pos h2]
   show (fwd t k k).1+d=min _ ((fwd t k k).1+d)
   omega
 · rw [if_neg h2]
   have hk':(fwd t k k).1 < ML:=hk
   show _=min _ ((fwd t k k).1+d)
   omega
theorem fw1_far {t:Tb} {k j:Nat} (hk:¬dist t k < ML):fwd t (k+1) j=fwd t k j:=by
 simp only [fwd]
 cases t k j with
 | none=>rfl
 | some d=>exact if_neg (fun h=>hk h.1)
theorem inS_none {t:Tb} {p:Nat→Nat} {k j:Nat} (h:t k j=none):inS t p (k+1) j=inS t p k j:=by simp only [inS,h]
theorem inS_some {t:Tb} {p:Nat→Nat} {k j d:Nat} (h:t k j=some d) (hk:p k < ML):(inS t p (k+1) j).1=min (inS t p k j).1 (p k+d):=by
 simp only [inS,h]
 by_cases h2:p k < ML∧p k+d < (inS t p k j).1
 · rw [if_pos h2]
   show p k+d=min _ (p k+d)
   omega
 · rw [if_neg h2]
   omega
theorem inS_far {t:Tb} {p:Nat→Nat} {k j:Nat} (hk:¬p k < ML):inS t p (k+1) j=inS t p k j:=by
 simp only [inS]
 cases t k j with
 | none=>rfl
 | some d=>exact if_neg (fun h=>hk h.1)
theorem inS_stay {t:Tb} {n D:Nat} (ht:TbOk t n D) {p:Nat→Nat} {j:Nat}:∀ (k:Nat),j≤k→inS t p k j=inS t p j j
 | 0,h=>by obtain rfl:j=0:=by omega
           rfl
 | k+1,h=>by
  by_cases e:j=k+1
  · subst e;rfl
  · rw [inS_none,inS_stay ht k (by omega)]
    cases h2:t k j with
    | none=>rfl
    | some d=>have:=(ht.up h2).1;omega
def lbR (t:Tb) (L:List Int) (i j:Nat):Bool:=match t i j with
 | none=>false
 | some d=>decide (gz L i+(d:Int) < gz L j)
def lbRow (t:Tb) (n:Nat) (L:List Int) (i:Nat):Bool:=(List.range n).any fun j=>lbR t L i j
def lbAll (t:Tb) (n:Nat) (L:List Int):Bool:=(List.range n).any fun i=>lbRow t n L i
def lbW (L:List Int):Bool:=(List.range L.length).any fun k=>!win (gz L k) 0 1000000000000000
def labE (t:Tb) (n:Nat) (L:List Int):Int × Int:=
 if L.length≠n then (0,10) else if lbW L=true then (0,2) else if gz L 0≠0 then (0,22) else if lbAll t n L=true then (0,22) else (gz L (n-1),0)
theorem any_hit {n k:Nat} {p:Nat→Bool} (hk:k < n) (h:p k=true):(List.range n).any p=true:=List.any_eq_true.2 ⟨k,List.mem_range.2 hk,h⟩
theorem any_none {n:Nat} {p:Nat→Bool} (h:∀ k,k < n→p k=false):(List.range n).any p=false:=by
 rw [List.any_eq_false]
 intro k hk
 rw [h k (List.mem_range.1 hk)]
 decide
theorem any_no {n:Nat} {p:Nat→Bool} (h:(List.range n).any p=false):∀ k,k < n→p k=false:=fun k hk=>by
 rw [List.any_eq_false] at h
 simpa using h k (List.mem_range.2 hk)
theorem lbW_no {L:List Int} (h:lbW L=false):∀ k,k < L.length→win (gz L k) 0 1000000000000000=true:=fun k hk=>by
 have:=any_no h k hk
 simpa using this
theorem lbAll_no {t:Tb} {n:Nat} {L:List Int} (h:lbAll t n L=false):∀ i j d,i < n→j < n→t i j=some d→gz L j≤gz L i+(d:Int):=fun i j d hi hj hd=>by
 have h1:=any_no (any_no h i hi) j hj
 unfold lbR at h1
 rw [hd] at h1
 have:=of_decide_eq_false h1
 omega
theorem labE_ok {t:Tb} {n:Nat} {L:List Int} {m:Int} (h:labE t n L=(m,0)):L.length=n∧(∀ k,k < n→0≤gz L k∧gz L k≤1000000000000000)∧gz L 0=0∧(∀ i j d,i < n→j < n→t i j=some d→gz L j≤gz L i+(d:Int))∧m=gz L (n-1):=by
 unfold labE at h
 by_cases h1:L.length≠n
 · rw [if_pos h1] at h;injection h with _ h;exact absurd h (by decide)
 rw [if_neg h1] at h
 by_cases h2:lbW L=true
 · rw [if_pos h2] at h;injection h with _ h;exact absurd h (by decide)
 rw [if_neg h2] at h
 by_cases h3:gz L 0≠0
 · rw [if_pos h3] at h;injection h with _ h;exact absurd h (by decide)
 rw [if_neg h3] at h
 by_cases h4:lbAll t n L=true
 · rw [if_pos h4] at h;injection h with _ h;exact absurd h (by decide)
 rw [if_neg h4] at h
 injection h with h5
 have e1:L.length=n:=by omega
 exact ⟨e1,fun k hk=>win_t.1 (lbW_no (by simpa using h2) k (by omega)),by omega,lbAll_no (by simpa using h4),h5.symm⟩
theorem labels_prove {t:Tb} {n D:Nat} (ht:TbOk t n D) {L:List Int} {m:Int} (h:labE t n L=(m,0)) {b:List Nat} {c:Nat} (hp:Path t 0 b (n-1) c):m≤(c:Int):=by
 obtain ⟨h1,h2,h3,h4,rfl⟩:=labE_ok h
 have hl:∀ k,((gz L k).toNat:Int)=if k < n then gz L k else 0:=fun k=>by
  by_cases hk:k < n
  · rw [if_pos hk];exact Int.toNat_of_nonneg (h2 k hk).1
  · rw [if_neg hk,show gz L k=0 by unfold gz;simp [List.getD_eq_getElem?_getD,List.getElem?_eq_none (show L.length≤k by omega)]];rfl
 have hle:=label_le (L:=fun k=>(gz L k).toNat) (fun i j d hd=>by
  obtain ⟨q1,q2,-⟩:=ht.up hd
  have:=h4 i j d (by omega) q2 hd
  have e1:=hl i
  have e2:=hl j
  rw [if_pos (by omega)] at e1
  rw [if_pos q2] at e2
  omega) hp
 have hn:=ht.pos
 have e0:=hl 0
 have en:=hl (n-1)
 rw [if_pos hn] at e0
 rw [if_pos (by omega)] at en
 have hle2:(gz L (n-1)).toNat≤(gz L 0).toNat+c:=hle
 omega
def far (t:Tb) (n i:Nat):Nat→Option Nat
 | 0=>none
 | k+1=>match t i k with
  | none=>far t n i k
  | some _=>some k
theorem far_lt {t:Tb} {n i:Nat}:∀ {k j:Nat},far t n i k=some j→j < k∧(t i j).isSome=true
 | 0,j,h=>by cases h
 | k+1,j,h=>by
  simp only [far] at h
  cases hk:t i k with
  | none=>rw [hk] at h;have:=far_lt h;exact ⟨by omega,this.2⟩
  | some d=>rw [hk] at h;injection h with h;subst h;exact ⟨by omega,by rw [hk];rfl⟩
theorem far_none {t:Tb} {n i k:Nat} (h:t i k=none):far t n i (k+1)=far t n i k:=by simp only [far,h]
theorem far_some {t:Tb} {n i k d:Nat} (h:t i k=some d):far t n i (k+1)=some k:=by simp only [far,h]
theorem far_low {t:Tb} {n D i:Nat} (ht:TbOk t n D):∀ {k:Nat},k≤i+1→far t n i k=none
 | 0,_=>rfl
 | k+1,hk=>by
  rw [far_none (by
   cases h:t i k with
   | none=>rfl
   | some d=>have:=(ht.up h).1;omega)]
  exact far_low ht (by omega)
def gr (t:Tb) (n:Nat):Nat→Nat→Option (List Nat)
 | 0,_=>none
 | k+1,at_=>if n≤at_+1 then some [] else match far t n at_ n with
  | none=>none
  | some tj=>(gr t n k tj).map fun l=>tj :: l
theorem gr_end {t:Tb} {n k a:Nat} (hk:0 < k) (h:n≤a+1):gr t n k a=some []:=by
 obtain ⟨k,rfl⟩:∃ q,k=q+1:=⟨k-1,by omega⟩
 simp only [gr];rw [if_pos h]
theorem gr_none {t:Tb} {n k a:Nat} (h:¬n≤a+1) (hf:far t n a n=none):gr t n k a=none:=by
 cases k with
 | zero=>rfl
 | succ k=>simp only [gr];rw [if_neg h,hf]
theorem gr_some {t:Tb} {n k a tj:Nat} (h:¬n≤a+1) (hf:far t n a n=some tj):gr t n (k+1) a=(gr t n k tj).map fun l=>tj :: l:=by
 simp only [gr];rw [if_neg h,hf]
def GrI (t:Tb) (n:Nat) (out:List Nat) (a:Nat):Prop:=out.length≤a∧a < n∧gr t n n 0=(gr t n (n-out.length) a).map fun l=>out++l
theorem GrI.start {t:Tb} {n:Nat} (h:0 < n):GrI t n [] 0:=⟨Nat.le_refl _,h,by cases gr t n n 0 <;> rfl⟩
theorem GrI.step {t:Tb} {n D:Nat} (ht:TbOk t n D) {out:List Nat} {a tj:Nat} (h:GrI t n out a) (ha:a+1 < n) (hf:far t n a n=some tj):a < tj∧tj < n∧GrI t n (out++[tj]) tj:=by
 obtain ⟨h1,h2,h3⟩:=h
 obtain ⟨hl,hs⟩:=far_lt hf
 obtain ⟨d,hd⟩:=Option.isSome_iff_exists.1 hs
 have hu:=(ht.up hd).1
 refine ⟨hu,hl,⟨by simp;omega,hl,?_⟩⟩
 rw [h3,show n-out.length=(n-(out++[tj]).length)+1 by simp;omega,gr_some (by omega) hf]
 cases gr t n (n-(out++[tj]).length) tj with
 | none=>rfl
 | some l=>simp
theorem GrI.done {t:Tb} {n:Nat} {out:List Nat} {a:Nat} (h:GrI t n out a) (ha:n≤a+1):gr t n n 0=some out:=by
 obtain ⟨h1,h2,h3⟩:=h
 rw [h3,gr_end (by omega) ha]
 simp
theorem GrI.fail {t:Tb} {n:Nat} {out:List Nat} {a:Nat} (h:GrI t n out a) (ha:¬n≤a+1) (hf:far t n a n=none):gr t n n 0=none:=by
 obtain ⟨h1,h2,h3⟩:=h
 rw [h3,gr_none ha hf]
 rfl
theorem gr_path {t:Tb} {n D:Nat} (ht:TbOk t n D):∀ (k a:Nat) (l:List Nat),gr t n k a=some l→a < n→∃ c,Path t a l (n-1) c
 | 0,a,l,h,_=>by cases h
 | k+1,a,l,h,ha=>by
  by_cases h1:n≤a+1
  · rw [gr_end (by omega) h1] at h
    injection h with h
    subst h
    obtain rfl:a=n-1:=by omega
    exact ⟨0,Path.nil t _⟩
  · cases hf:far t n a n with
    | none=>rw [gr_none h1 hf] at h;cases h
    | some tj=>
     rw [gr_some h1 hf] at h
     cases hg:gr t n k tj with
     | none=>rw [hg] at h;cases h
     | some l2=>
      rw [hg] at h
      injection h with h
      subst h
      obtain ⟨hl,hs⟩:=far_lt hf
      obtain ⟨d,hd⟩:=Option.isSome_iff_exists.1 hs
      obtain ⟨c,hc⟩:=gr_path ht k tj l2 hg hl
      exact ⟨d+c,Path.cons hd hc⟩
def fewR (t:Tb) (n:Nat):Nat→Int
 | 0=>-1
 | k+1=>if 0≤fewR t n k then fewR t n k else if (inD t n k (n-1)).1 < ML then (k:Int) else -1
end Go.Proofs.YtbnganlfelgogaaGreat
namespace Go.Proofs.YtbnganlfelgogaaGreat
open Go.RowKit
theorem refWidth_any (f:Fnt) (v:Value) (zs:List Int) (vz:Value) (w:World) (hok:(fnErr f).2=0) (hv:SoV w f.sorts v) (hz:IV w zs vz) (hin:InF f zs) (hm:zs.length≤1000000) :
 Calls Tryz.prog 81 #[.agg (fcs f v),vz] w (IntPost (widL f zs) w):=by
 have hb0:=below_new w (.cells (fcs f v) 24)
 have HV0:=Lib.hid (hv.below hb0)
 have HZ0:=Lib.hid (hz.below hb0)
 have HB0:=Lib.hid hb0
 have HF0:=Lib.hid (Blk.new w 24 (fcs f v))
 obtain ⟨A,c,rfl⟩:=hv.shape
 obtain ⟨A1,b1,o1,c1,rfl,hA1,hz1,-,-⟩:=(hz.below hb0).open
 have hfew:=fnErr_few hok
 have HP:Hid (∀ W x,x=widL f zs→Below w.heap.size w W→IntPost (widL f zs) w (.returned (.int .i64 x)) W):=(show ∀ W x,_ from fun W x e h=>by subst e;exact ⟨rfl,h⟩)
 have HBD:=Lib.hid (widT_bound hok hin)
 have HIN:=Lib.hid hin
 have HOK:=Lib.hid hok
 have HZ1:=Lib.hid hz1
 have HA1:=Lib.hid hA1
 clear hv hz hb0 hin hok hz1 hA1
 generalize hN:zs.length=N at *
 have HN:=Lib.hid hN
 clear hN
 go_enter Tryz.func81,Tryz.ntmps81
 go_wp2_with fail
 generalize hWq:w.alloc (.cells (fcs f (.slice A f.sorts.length c)) 24)=Wq at *
 have HSZ:Hid (w.heap.size≤Wq.heap.size):=HB0.out.size
 clear hWq
 go_loopg [6,5] N (fun gg s6 s5 wr=>∃ k:Nat,k≤N∧N-k≤gg∧s6=.int .i64 (k:Int)∧s5=.int .i64 (widL f (zs.take k))∧Hid (Below Wq.heap.size Wq wr))
 case atStart=>exact ⟨0,by omega,by omega,rfl,by simp [widL],Below.refl _ _⟩
 case round=>
  obtain ⟨k,hk,hg,rfl,rfl,HB⟩:=hrel
  have HBW:=Lib.hid (HB0.out.trans (HB.out.mono HSZ.out))
  by_cases hlt:k < N
  · have hltz:(k:Int) < (N:Int):=by omega
    obtain ⟨rfl,hbl0⟩:=HA1.out (by omega)
    have hF:=HF0.out.below HB.out HF0.out.lt
    have f2:=hF.cell 2
    have hlt0:=hF.lt
    have hbl:b1 < wr.heap.size:=Nat.lt_of_lt_of_le hbl0 HB.out.size
    have z0:=(HB.out.cell (p:=⟨b1,o1+k,none⟩) hbl0).trans (HZ1.out k (by rw [HN.out];exact hlt))
    have hik:=HIN.out k (by rw [HN.out];exact hlt)
    obtain ⟨b,off,c',he,hbw,s3⟩:=(HV0.out.below HB.out).width hik
    injection he with e1 e2 e3
    clear e2 e3 hF
    subst e1
    have HT:=Lib.hid (widL_take (f:=f) (zs:=zs) (k:=k) (by rw [HN.out];exact hlt))
    have h1:=HBD.out k (by omega)
    have h2:=wd_ok HOK.out hik
    generalize gz zs k=z at *
    obtain ⟨q,rfl⟩:=Int.eq_ofNat_of_zero_le hik.1
    rw [Int.toNat_natCast] at s3
    generalize wd f (q:Int)=wq at *
    generalize widL f (zs.take k)=sm at *
    go_wp2_with fail
    go_quiet (fail)
    have HBN:Hid (Below Wq.heap.size Wq (wr.drewN nq)):=HB.out.trans ((below_drewN wr nq).mono HB.out.size)
    go_wp2_with fail
    go_roundg (N-(k+1))
    case measure=>omega
    case rel=>exact ⟨k+1,by omega,by omega,by go_num,by rw [HT.out],HBN⟩
  · have hltz:¬(k:Int) < (N:Int):=by omega
    have hkn:k=N:=by omega
    have HX:Hid (widL f (zs.take k)=widL f zs):=(by show _=_;rw [List.take_of_length_le (by rw [HN.out];omega)])
    generalize widL f (zs.take k)=sm at *
    go_wp2_with fail
    go_ret
    exact HP.out _ _ HX.out HBW.out
theorem size_any (n:Int) (w:World) (h:-9223372036854775808 < n∧n≤9223372036854775807):Calls Tryz.prog 116 #[.int .i64 n] w fun e w'=>e=.returned (.int .i64 (absI n))∧w=w':=by
 have hw:wrap64 (-n)=-n:=IntWalk.wrap64_in _ (by omega)
 have HF:Hid (max n (-n)=absI n):=by show _=_;unfold absI;split <;> omega
 go_enter Tryz.func116,Tryz.ntmps116
 go_wp2_with fail
 go_ret
 exact ⟨ret_int HF.out,rfl⟩
end Go.Proofs.YtbnganlfelgogaaGreat
namespace Go.Proofs.YtbnganlfelgogaaGreat
open Go.RowKit
@[reducible,go_sem] def ofc (g room:Int) (en da db fi:Bool):Array Value:=#[.int .i64 g,.int .i64 room,.bool en,.bool da,.bool db,.bool fi]
def alR (r:Rls) (g room:Int) (en fi:Bool):Bool:=if fi=false then false else if en=true then decide (g*r.least≤room) else if g=0 then decide (room=0) else win room (g*r.least) (g*r.most)
theorem refAllowed_any (f:Fnt) (r:Rls) (g room:Int) (en da db fi:Bool) (w:World) (hr:RuOk f r) (hg:0≤g∧g≤1000) :
 Calls Tryz.prog 62 #[.agg (rcs r),.agg (ofc g room en da db fi)] w fun e w'=>e=.returned (.bool (alR r g room en fi))∧Below w.heap.size w w':=by
 have hle:=hr.le
 have hmo:=hr.mo
 have p1:0≤g*r.least:=Int.mul_nonneg hg.1 (by omega)
 have p2:g*r.least≤1000*10000:=Int.mul_le_mul hg.2 (by omega) (by omega) (by omega)
 have p3:0≤g*r.most:=Int.mul_nonneg hg.1 (by omega)
 have p4:g*r.most≤1000*10000:=Int.mul_le_mul hg.2 (by omega) (by omega) (by omega)
 have q1:wrap64 (g*r.least)=g*r.least:=IntWalk.wrap64_in _ (by omega)
 have q2:wrap64 (g*r.most)=g*r.most:=IntWalk.wrap64_in _ (by omega)
 have hb1:=below_new w (.cells (rcs r) 26)
 have hb2:=below_new (w.alloc (.cells (rcs r) 26)) (.cells (ofc g room en da db fi) 104)
 have HB:=Lib.hid (hb1.trans (hb2.mono (by simp)))
 have hR:=(Blk.new w 26 (rcs r)).below hb2 (by simp)
 have hX:=Blk.new (w.alloc (.cells (rcs r) 26)) 104 (ofc g room en da db fi)
 rw [World.size_alloc] at hX
 have c2:=hR.cell 2
 have c3:=hR.cell 3
 have cl:=hR.lt
 have x0:=hX.cell 0
 have x1:=hX.cell 1
 have x2:=hX.cell 2
 have x5:=hX.cell 5
 have xl:=hX.lt
 have HE:Hid (alR r g room en fi=if fi=false then false else if en=true then decide (g*r.least≤room) else if g=0 then decide (room=0) else win room (g*r.least) (g*r.most)):=rfl
 clear hb1 hb2 hR hX hr
 cases fi with
 | false=>
  have HF:Hid (alR r g room en false=false):=by show _=_;rw [HE.out,if_pos rfl]
  go_enter Tryz.func62,Tryz.ntmps62
  go_wp2_with fail
  go_ret
  exact ⟨ret_bool HF.out.symm,HB.out⟩
 | true=>
 cases en with
 | true=>
  have HF:Hid (alR r g room true true=decide (g*r.least≤room)):=by show _=_;rw [HE.out,if_neg (by decide),if_pos rfl]
  go_enter Tryz.func62,Tryz.ntmps62
  go_wp2_with fail
  go_ret
  exact ⟨ret_bool HF.out.symm,HB.out⟩
 | false=>
 by_cases h0:g=0
 · have HF:Hid (alR r g room false true=decide (room=0)):=by show _=_;rw [HE.out,if_neg (by decide),if_neg (by decide),if_pos h0]
   have HB0:Hid ((room == 0)=decide (room=0)):=by show _=_;rw [Bool.eq_iff_iff];simp
   have h0':(g == 0)=true:=by simp [h0]
   clear h0
   go_enter Tryz.func62,Tryz.ntmps62
   go_wp2_with fail
   go_ret
   exact ⟨ret_bool (HF.out.trans HB0.out.symm).symm,HB.out⟩
 · have HF:Hid (alR r g room false true=win room (g*r.least) (g*r.most)):=by show _=_;rw [HE.out,if_neg (by decide),if_neg (by decide),if_neg h0]
   have h0':(g == 0)=false:=by simp [h0]
   clear h0
   go_enter Tryz.func62,Tryz.ntmps62
   go_wp2_with fail
   refine (within13_any room (g*r.least) (g*r.most) _).mono ?_
   rintro e w3 ⟨rfl,hw3⟩
   subst hw3
   go_wp2_with fail
   go_ret
   exact ⟨ret_bool HF.out.symm,HB.out⟩
def dmR (r:Rls) (wg g room:Int) (en da db:Bool):Int:=
 (if 0 < g∧¬(en=true∧g*wg≤room) then (absI (room-g*wg) / g)*(absI (room-g*wg) / g) else 0)
  + (if db=true then r.single+(if da=true then r.double else 0) else 0)
theorem refDemerits_any (f:Fnt) (v:Value) (r:Rls) (g room:Int) (en da db fi:Bool) (w:World) (hfn:(fnErr f).2=0) (hr:RuOk f r) (hv:SoV w f.sorts v) (hg:0≤g∧g≤1000) (hro:-2000000000≤room∧room≤2000000000) :
 Calls Tryz.prog 63 #[.agg (fcs f v),.agg (rcs r),.agg (ofc g room en da db fi)] w (IntPost (dmR r (wd f r.gap) g room en da db) w):=by
 have hsi:=hr.si
 have hdb:=hr.db
 have hwg:=wd_ok hfn hr.gap
 have gw1:0≤g*wd f r.gap:=Int.mul_nonneg hg.1 (by omega)
 have gw2:g*wd f r.gap≤1000*100000:=Int.mul_le_mul hg.2 hwg.2 (by omega) (by omega)
 have hb1:=below_new w (.cells (fcs f v) 24)
 have hb2:=below_new (w.alloc (.cells (fcs f v) 24)) (.cells (rcs r) 26)
 have hb3:=below_new ((w.alloc (.cells (fcs f v) 24)).alloc (.cells (rcs r) 26)) (.cells (ofc g room en da db fi) 104)
 have hb23:=hb2.trans (hb3.mono (by simp))
 have hb123:=hb1.trans (hb23.mono (by simp))
 have hF:=(Blk.new w 24 (fcs f v)).below hb23 (by simp)
 have hR:=(Blk.new (w.alloc (.cells (fcs f v) 24)) 26 (rcs r)).below hb3 (by simp)
 have hX:=Blk.new ((w.alloc (.cells (fcs f v) 24)).alloc (.cells (rcs r) 26)) 104 (ofc g room en da db fi)
 rw [World.size_alloc] at hR
 rw [World.size_alloc,World.size_alloc] at hX
 have hv0:=hv.below hb123
 have HGAP:=Lib.hid hr.gap
 have HP:Hid (∀ W x,x=dmR r (wd f r.gap) g room en da db→Below w.heap.size w W→IntPost (dmR r (wd f r.gap) g room en da db) w (.returned (.int .i64 x)) W):=(show ∀ W x,_ from fun W x e h=>by subst e;exact ⟨rfl,h⟩)
 have HD:Hid (dmR r (wd f r.gap) g room en da db=(if 0 < g∧¬(en=true∧g*wd f r.gap≤room) then (absI (room-g*wd f r.gap) / g)*(absI (room-g*wd f r.gap) / g) else 0)+(if db=true then r.single+(if da=true then r.double else 0) else 0)):=rfl
 obtain ⟨gp,hgp⟩:∃ gp:Nat,r.gap=(gp:Int):=⟨r.gap.toNat,by have:=hr.gap;omega⟩
 obtain ⟨sb,so,sc,hvs,hsb,zw⟩:=hv0.width hr.gap
 have hgn:gp < f.sorts.length:=by have:=hr.gap;omega
 have hRg:(rcs r)[4]?=some (.int .i64 (gp:Int)):=by rw [show (rcs r)[4]?=some (.int .i64 r.gap) from rfl,hgp]
 rw [hgp,Int.toNat_natCast] at zw
 have HBA:=Lib.hid hb123
 generalize hDD:dmR r (wd f r.gap) g room en da db=DD at *
 rw [hgp] at hwg HD gw1 gw2
 generalize hwx:wd f (gp:Int)=wx at *
 clear hb1 hb2 hb3 hb23 hb123 hDD hwx HGAP hv0 hv
 have hFv:(fcs f v)[2]?=some (.slice (some ⟨sb,so,none⟩) f.sorts.length sc):=by rw [←hvs];rfl
 have hsn0:=(fnErr_few hfn).2
 generalize f.sorts.length=sn at *
 have HF0:=Lib.hid hF
 have HR0:=Lib.hid hR
 have HX0:=Lib.hid hX
 have HZW:=Lib.hid zw
 have HFV:=Lib.hid hFv
 have HRG:=Lib.hid hRg
 have hns:sn≤120:=hsn0
 clear hF hR hX zw hFv hRg hsn0 hvs hgp hfn hr
 obtain ⟨gw,hgw⟩:∃ x,g*wx=x:=⟨_,rfl⟩
 rw [hgw] at gw1 gw2 HD
 have hww:wrap64 (g*wx)=gw:=by rw [hgw];exact IntWalk.wrap64_in _ (by omega)
 clear hgw
 go_enter Tryz.func63,Tryz.ntmps63
 go_upto_region 1 with fail
 generalize ((w.alloc (.cells (fcs f v) 24)).alloc (.cells (rcs r) 26)).alloc (.cells (ofc g room en da db fi) 104)=W0 at *
 have c2:=(HF0.out.cell 2).trans HFV.out
 have r4:=(HR0.out.cell 4).trans HRG.out
 have x0:=HX0.out.cell 0
 have cl:=HF0.out.lt
 have rl:=HR0.out.lt
 have xl:=HX0.out.lt
 have z0:=HZW.out
 go_wp2_with fail
 go_quiet (fail)
 have hd:=below_drewN W0 nq
 have HR1:=Lib.hid (HR0.out.below hd HR0.out.lt)
 have HX1:=Lib.hid (HX0.out.below hd HX0.out.lt)
 have HB1:=Lib.hid (HBA.out.trans (hd.mono HBA.out.size))
 clear hd c2 r4 x0 cl rl xl z0 HF0 HR0 HX0 HZW HFV HRG HBA hsb
 generalize W0.drewN nq=W1 at *
 have r6:=HR1.out.cell 6
 have r7:=HR1.out.cell 7
 have x0:=HX1.out.cell 0
 have x1:=HX1.out.cell 1
 have x2:=HX1.out.cell 2
 have x3:=HX1.out.cell 3
 have x4:=HX1.out.cell 4
 have rl:=HR1.out.lt
 have xl:=HX1.out.lt
 go_upto_region 3 with fail
 simp only [hww]
 clear hww
 go_cut [33] (fun s33 wx'=>s33=.bool (decide (0 < g∧¬(en=true∧gw≤room)))∧wx'=W1)
 case first=>
  by_cases hg0:0 < g
  · cases en with
    | true=>
     by_cases hr0:gw≤room
     · go_wp2_with fail;go_meet;exact ⟨congrArg Value.bool (by rw [Bool.eq_iff_iff];simp [hg0,hr0]),rfl⟩
     · go_wp2_with fail;go_meet;exact ⟨congrArg Value.bool (by rw [Bool.eq_iff_iff];simp [hg0,hr0]),rfl⟩
    | false=>
     go_wp2_with fail;go_meet;exact ⟨congrArg Value.bool (by rw [Bool.eq_iff_iff];simp [hg0]),rfl⟩
  · go_wp2_with fail;go_meet;exact ⟨congrArg Value.bool (by rw [Bool.eq_iff_iff];simp;omega),rfl⟩
 case rest=>
  obtain ⟨rfl,hwc⟩:=hcut
  subst hwc
  go_upto_if 33 with fail
  go_cut [7] (fun s7 wx'=>∃ x:Int,s7=.int .i64 x∧Hid (Below wc.heap.size wc wx')∧(x=if 0 < g∧¬(en=true∧gw≤room) then (absI (room-gw) / g)*(absI (room-gw) / g) else 0)∧0≤x∧x≤2200000000*2200000000)
  case first=>
   by_cases hc:0 < g∧¬(en=true∧gw≤room)
   · rw [decide_eq_true hc]
     have hg0:=hc.1
     have HC:Hid (0 < g∧¬(en=true∧gw≤room)):=hc
     clear hc
     have hab:=absI_le (x:=room-gw) (a:=2200000000) (by omega) (by omega)
     have hq0:0≤absI (room-gw) / g:=Int.ediv_nonneg hab.1 (by omega)
     have hq1:absI (room-gw) / g≤2200000000:=Int.le_trans (Int.ediv_le_self _ hab.1) hab.2
     have hsq:=sq_le hq0 hq1
     have HSZ:Hid (∀ q,Calls Tryz.prog 116 #[.int .i64 (room-gw)] (wc.drewN q) fun e w'=>e=.returned (.int .i64 (absI (room-gw)))∧w'=wc.drewN q):=(show ∀ q,_ from fun q=>(size_any (room-gw) _ (by omega)).mono fun _ _ ⟨h1,h2⟩=>⟨h1,h2.symm⟩)
     go_wp2_with fail
     go_quiet ((go_at_call 116;exact Calls.quiet_of_same (HSZ.out _)))
     have HBN:Hid (Below wc.heap.size wc (wc.drewN nq)):=below_drewN _ nq
     have hww:wrap64 (absI (room-gw) / g*(absI (room-gw) / g))=absI (room-gw) / g*(absI (room-gw) / g):=by
      generalize absI (room-gw) / g*(absI (room-gw) / g)=P at *
      exact IntWalk.wrap64_in P (by omega)
     go_wp2_with fail
     go_meet
     exact ⟨_,rfl,HBN.out,by rw [if_pos HC.out],hsq.1,hsq.2⟩
   · rw [decide_eq_false hc]
     have HC:Hid (¬(0 < g∧¬(en=true∧gw≤room))):=hc
     clear hc
     go_wp2_with fail
     go_meet
     exact ⟨_,rfl,Below.refl _ _,by rw [if_neg HC.out],by omega,by omega⟩
  case rest=>
   obtain ⟨x,rfl,HBC,hx,hx0,hx1⟩:=hcut
   have HX:=Lib.hid hx
   clear hx r6 r7 x0 x1 x2 x3 x4 rl xl
   have HB2:=Lib.hid (HB1.out.trans (HBC.out.mono HB1.out.size))
   have hR2:=HR1.out.below HBC.out HR1.out.lt
   have hX2:=HX1.out.below HBC.out HX1.out.lt
   have r6:=hR2.cell 6
   have r7:=hR2.cell 7
   have x3:=hX2.cell 3
   have x4:=hX2.cell 4
   have rl:=hR2.lt
   have xl:=hX2.lt
   clear hR2 hX2
   cases db with
   | false=>
    have HF:Hid (x=DD):=by show _=_;rw [HD.out,←HX.out,if_neg (by decide)];omega
    go_wp2_with fail
    go_ret
    exact HP.out _ _ HF.out HB2.out
   | true=>
    cases da with
    | false=>
     have HF:Hid (x+r.single=DD):=by show _=_;rw [HD.out,←HX.out,if_pos rfl,if_neg (by decide)];omega
     go_wp2_with fail
     go_ret
     exact HP.out _ _ HF.out HB2.out
    | true=>
     have HF:Hid (x+r.single+r.double=DD):=by show _=_;rw [HD.out,←HX.out,if_pos rfl,if_pos rfl];omega
     go_wp2_with fail
     go_ret
     exact HP.out _ _ HF.out HB2.out
end Go.Proofs.YtbnganlfelgogaaGreat
