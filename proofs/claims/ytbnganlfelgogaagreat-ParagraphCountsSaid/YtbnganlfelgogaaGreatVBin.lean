/- The best breaks with so many lines: plain (a round of steps), and rows of ways of the call's own. -/
import Derived.Test.YtbnganlfelgogaaGreatVAsq
import Derived.Test.YtbnganlfelgogaaGreatVRpw
import Derived.Test.YtbnganlfelgogaaGreatVBrl
set_option linter.unusedSimpArgs false
set_option linter.unusedVariables false
set_option maxRecDepth 100000
set_option maxHeartbeats 40000000
namespace Go.Proofs.YtbnganlfelgogaaGreat
open Go.RowKit
def nxf (p:Nat→Nat) (h:Nat→Nat × Int) (s:Nat × Nat × Nat):Nat→Nat × Int:=
 if p s.1 < ML∧p s.1+s.2.2 < (h s.2.1).1 then fun x=>if x=s.2.1 then (p s.1+s.2.2,(s.1:Int)) else h x else h
def allS (t:Tb) (N:Nat):Nat→List (Nat × Nat × Nat)
 | 0=>[]
 | k+1=>allS t N k++stl t k (stp t k (N-1-k))
theorem stp_nodup (t:Tb) (i:Nat):∀ m,(stp t i m).Nodup
 | 0=>List.nodup_nil
 | m+1=>by
  have ih:=stp_nodup t i m
  unfold stp
  split
  · refine List.nodup_append.2 ⟨ih,by simp,fun x hx y hy e=>?_⟩
    rw [List.mem_singleton.1 hy] at e
    rw [e] at hx
    have:=stp_mem.1 hx
    omega
  · exact ih
theorem fold_row {t:Tb} {p:Nat→Nat} {k:Nat}:∀ (js:List Nat) (h:Nat→Nat × Int),js.Nodup→∀ x,
 (List.foldl (nxf p) h (stl t k js)) x=if x ∈ js then (if p k < ML∧p k+(t k x).getD 0 < (h x).1 then (p k+(t k x).getD 0,(k:Int)) else h x) else h x
 | [],h,_,x=>by simp [stl]
 | j :: js,h,hn,x=>by
  obtain ⟨h1,h2⟩:=List.nodup_cons.1 hn
  have e:stl t k (j :: js)=(k,j,(t k j).getD 0) :: stl t k js:=rfl
  rw [e,List.foldl_cons,fold_row js _ h2 x]
  by_cases ex:x=j
  · subst ex
    rw [if_neg h1,if_pos List.mem_cons_self]
    unfold nxf
    split
    · exact if_pos rfl
    · rfl
  · have e2:(nxf p h (k,j,(t k j).getD 0)) x=h x:=by
     unfold nxf
     split
     · exact if_neg ex
     · rfl
    rw [e2]
    by_cases hm:x ∈ js
    · rw [if_pos hm,if_pos (List.mem_cons_of_mem _ hm)]
    · rw [if_neg hm,if_neg (by simp [ex,hm])]
theorem fold_inS {t:Tb} {p:Nat→Nat} {N D k:Nat} (ht:TbOk t N D) {h:Nat→Nat × Int} (he:∀ x,x < N→h x=inS t p k x) (hk:k < N):∀ x,x < N→(List.foldl (nxf p) h (stl t k (stp t k (N-1-k)))) x=inS t p (k+1) x:=fun x hx=>by
 rw [fold_row _ _ (stp_nodup t k _) x]
 show _=(match t k x with | none=>inS t p k x | some d=>if p k < ML∧p k+d < (inS t p k x).1 then (p k+d,(k:Int)) else inS t p k x)
 cases hd:t k x with
 | none=>
  rw [if_neg (fun hm=>by have:=(stp_mem.1 hm).2.2;rw [hd] at this;cases this)]
  exact he x hx
 | some d=>
  have:=ht.up hd
  rw [if_pos (stp_mem.2 ⟨this.1,by omega,by rw [hd];rfl⟩),he x hx]
  rfl
theorem fold_all {t:Tb} {p:Nat→Nat} {N D:Nat} (ht:TbOk t N D) {h:Nat→Nat × Int} (he:∀ x,x < N→h x=(ML,-1)):∀ k,k≤N→∀ x,x < N→(List.foldl (nxf p) h (allS t N k)) x=inS t p k x
 | 0,_,x,hx=>he x hx
 | k+1,hk,x,hx=>by
  show (List.foldl (nxf p) h (allS t N k++stl t k (stp t k (N-1-k)))) x=_
  rw [List.foldl_append]
  exact fold_inS ht (fun y hy=>fold_all ht he k (by omega) y hy) (by omega) x hx
theorem allS_len {t:Tb} {N:Nat} (hN:N≤300):∀ k,k≤N→(allS t N k).length≤k*300
 | 0,_=>Nat.le_refl _
 | k+1,hk=>by
  have h1:=allS_len (t:=t) hN k (by omega)
  have h2:=stp_len t k (N-1-k)
  have e:allS t N (k+1)=allS t N k++stl t k (stp t k (N-1-k)):=rfl
  rw [e,List.length_append,stl,List.length_map]
  omega
theorem allS_mem {t:Tb} {N D:Nat} (ht:TbOk t N D):∀ k,k≤N→∀ s,s ∈ allS t N k→s.1 < s.2.1∧s.2.1 < N∧s.2.2≤D
 | 0,_,s,h=>by cases h
 | k+1,hk,s,h=>by
  have e:allS t N (k+1)=allS t N k++stl t k (stp t k (N-1-k)):=rfl
  rw [e] at h
  rcases List.mem_append.1 h with h | h
  · exact allS_mem ht k (by omega) s h
  · obtain ⟨j,hj,rfl⟩:=List.mem_map.1 h
    obtain ⟨d,hd⟩:=Option.isSome_iff_exists.1 (stp_mem.1 hj).2.2
    have:=ht.up hd
    exact ⟨this.1,this.2.1,by show (t k j).getD 0≤D;rw [hd];exact this.2.2⟩
def gst (l:List (Nat × Nat × Nat)) (q:Nat):Nat × Nat × Nat:=l.getD q (0,0,0)
theorem fold_take {p:Nat→Nat} {h:Nat→Nat × Int} {l:List (Nat × Nat × Nat)} {q:Nat} (hq:q < l.length):List.foldl (nxf p) h (l.take (q+1))=nxf p (List.foldl (nxf p) h (l.take q)) (gst l q):=by
 have e:l.take (q+1)=l.take q++[gst l q]:=by
  rw [List.take_add_one,List.getElem?_eq_getElem hq,gst,List.getD_eq_getElem?_getD,List.getElem?_eq_getElem hq];rfl
 rw [e,List.foldl_append]
 rfl
theorem stc_get:∀ (l:List (Nat × Nat × Nat)) (q:Nat),q < l.length→(stc l)[q*3]?=some (.int .i64 ((gst l q).1:Int))∧(stc l)[q*3+1]?=some (.int .i64 ((gst l q).2.1:Int))∧(stc l)[q*3+2]?=some (.int .i64 ((gst l q).2.2:Int))
 | [],q,h=>by simp at h
 | p :: l,0,_=>⟨rfl,rfl,rfl⟩
 | p :: l,q+1,h=>by
  have e:stc (p :: l)=.int .i64 (p.1:Int) :: .int .i64 (p.2.1:Int) :: .int .i64 (p.2.2:Int) :: stc l:=rfl
  have ih:=stc_get l q (by simpa using h)
  rw [e,show (q+1)*3=q*3+1+1+1 by omega,show q*3+1+1+1+1=(q*3+1)+1+1+1 by omega,show q*3+1+1+1+2=(q*3+2)+1+1+1 by omega]
  simpa [gst] using ih
theorem SO.at {W:World} {B:Nat} {l:List (Nat × Nat × Nat)} {A:Option Addr} {c q:Nat} (h:SO W B l (.slice A l.length c)) (hq:q < l.length) :
 ∃ g,A=some ⟨g,0,none⟩∧g < W.heap.size∧W.cell? ⟨g,q*3,none⟩=some (.int .i64 ((gst l q).1:Int))∧W.cell? ⟨g,q*3+1,none⟩=some (.int .i64 ((gst l q).2.1:Int))∧W.cell? ⟨g,q*3+2,none⟩=some (.int .i64 ((gst l q).2.2:Int)):=by
 obtain ⟨A',b,off,c',he,h1,h2,h3⟩:=rv_of_own h (stc_len l)
 injection he with e1 e2 e3
 subst e1
 obtain ⟨rfl,hb⟩:=h1 (by omega)
 have hoff:off=0:=by
  rcases h.2 with ⟨hh,_⟩ | ⟨g,cap,cur,hh,_⟩
  · cases hh
  · injection hh with hh;injection hh with hh;injection hh
 subst hoff
 have hg:=stc_get l q hq
 refine ⟨b,rfl,hb,?_,?_,?_⟩
 · have:=h2 (q*3) (by omega)
   dsimp only at this
   rw [Nat.zero_add,List.getD_eq_getElem?_getD,hg.1] at this
   exact this
 · have:=h2 (q*3+1) (by omega)
   dsimp only at this
   rw [Nat.zero_add,List.getD_eq_getElem?_getD,hg.2.1] at this
   exact this
 · have:=h2 (q*3+2) (by omega)
   dsimp only at this
   rw [Nat.zero_add,List.getD_eq_getElem?_getD,hg.2.2] at this
   exact this
def WG (W:World) (B:Nat) (v:Value) (n:Nat) (h:Nat→Nat × Int):Prop:=∃ g c,v=.slice (some ⟨g,0,none⟩) n c∧B≤g∧(∃ cur,W.heap[g]?=some (.cells cur 182 (0,0))∧n*2≤cur.size∧∀ j,j < n*2→cur[j]?=(wcl h n)[j]?)
theorem WG.below {W W':World} {B n:Nat} {v:Value} {h:Nat→Nat × Int} (s:WG W B v n h) (hb:Below W.heap.size W W'):WG W' B v n h:=by
 obtain ⟨g,c,rfl,hB,cur,h1,h2,h3⟩:=s
 exact ⟨g,c,rfl,hB,cur,(hb.block g (Array.getElem?_eq_some_iff.1 h1).1).trans h1,h2,h3⟩
theorem WG.congr {W:World} {B n:Nat} {v:Value} {h h':Nat→Nat × Int} (s:WG W B v n h) (e:∀ j,j < n→h j=h' j):WG W B v n h':=by
 obtain ⟨g,c,rfl,hB,cur,h1,h2,h3⟩:=s
 exact ⟨g,c,rfl,hB,cur,h1,h2,by rw [←wcl_congr n e];exact h3⟩
theorem WG.base {W:World} {B B' n:Nat} {v:Value} {h:Nat→Nat × Int} (s:WG W B v n h) (hB:B'≤B):WG W B' v n h:=by
 obtain ⟨g,c,rfl,h0,h1⟩:=s
 exact ⟨g,c,rfl,Nat.le_trans hB h0,h1⟩
theorem WG.kept {W W':World} {B n:Nat} {v:Value} {h:Nat→Nat × Int} {row:Option Nat} (s:WG W B v n h) (hg:W.grownBy W' row) (hne:v.ownBlock≠row):WG W' B v n h:=by
 obtain ⟨g,c,rfl,hB,cur,h1,h2,h3⟩:=s
 exact ⟨g,c,rfl,hB,cur,(hg.block g (Array.getElem?_eq_some_iff.1 h1).1 hne).trans h1,h2,h3⟩
theorem WG.cells {W:World} {B n g c:Nat} {h:Nat→Nat × Int} (s:WG W B (.slice (some ⟨g,0,none⟩) n c) n h) {j:Nat} (hj:j < n) :
 W.cell? ⟨g,j*2,none⟩=some (.int .i64 (h j).2)∧W.cell? ⟨g,j*2+1,none⟩=some (.int .i64 ((h j).1:Int)):=by
 obtain ⟨g',c',he,hB,cur,h1,h2,h3⟩:=s
 injection he with e1 e2 e3
 injection e1 with e1
 injection e1 with e1
 subst e1
 have hg:=wcl_get h n j hj
 have hb:Blk W g 182 cur:=h1
 exact ⟨by rw [hb.cell,h3 _ (by omega)];exact hg.1,by rw [hb.cell,h3 _ (by omega)];exact hg.2⟩
theorem WG.blk {W:World} {B n g c:Nat} {h:Nat→Nat × Int} (s:WG W B (.slice (some ⟨g,0,none⟩) n c) n h):g < W.heap.size∧B≤g∧(∀ i,W.frozen? ⟨g,i,none⟩=false)∧∃ cur,W.heap[g]?=some (.cells cur 182 (0,0)):=by
 obtain ⟨g',c',he,hB,cur,h1,h2,h3⟩:=s
 injection he with e1 e2 e3
 injection e1 with e1
 injection e1 with e1
 subst e1
 have hb:Blk W g 182 cur:=h1
 exact ⟨hb.lt,hB,fun i=>hb.frozen i,cur,h1⟩
theorem WG.put {W:World} {B n g c:Nat} {h:Nat→Nat × Int} (s:WG W B (.slice (some ⟨g,0,none⟩) n c) n h) {j:Nat} (hj:j < n) (x:Nat × Int) :
 WG ((W.setCell ⟨g,j*2,none⟩ (.int .i64 x.2)).setCell ⟨g,j*2+1,none⟩ (.int .i64 (x.1:Int))) B (.slice (some ⟨g,0,none⟩) n c) n (fun i=>if i=j then x else h i):=by
 obtain ⟨g',c',he,hB,cur,h1,h2,h3⟩:=s
 injection he with e1 e2 e3
 injection e1 with e1
 injection e1 with e1
 subst e1
 have hb:Blk W g 182 cur:=h1
 have h4:=Blk.set_ (Blk.set_ hb (j*2) (.int .i64 x.2)) (j*2+1) (.int .i64 (x.1:Int))
 refine ⟨g,c,rfl,hB,_,h4,by simpa using h2,fun i hi=>?_⟩
 rw [←wcl_set h x n j hj]
 by_cases e2:i=j*2+1
 · subst e2
   rw [Array.getElem?_setIfInBounds,if_pos rfl,if_pos (by simp;omega),List.getElem?_set_self (by rw [List.length_set,wcl_len];omega)]
 · rw [Array.getElem?_setIfInBounds,if_neg (fun e=>e2 e.symm),List.getElem?_set_ne (fun e=>e2 e.symm)]
   by_cases e3:i=j*2
   · subst e3
     rw [Array.getElem?_setIfInBounds,if_pos rfl,if_pos (by omega),List.getElem?_set_self (by rw [wcl_len];omega)]
   · rw [Array.getElem?_setIfInBounds,if_neg (fun e=>e3 e.symm),List.getElem?_set_ne (fun e=>e3 e.symm)]
     exact h3 i hi
theorem WG.of_own {W:World} {B n:Nat} {v:Value} {h:Nat→Nat × Int} (hn:0 < n) (s:W.ownsRow B 182 2 v n (wcl h n)):WG W B v n h:=by
 rcases s.2 with ⟨_,h0⟩ | ⟨g,cap,cur,rfl,hB,hh,hc,_,hs,ht⟩
 · omega
 · refine ⟨g,cap,rfl,hB,cur,hh,by omega,fun j hj=>?_⟩
   rw [←ht,List.getElem?_take,if_pos hj,Array.getElem?_toList]
theorem wcl_one (h:Nat→Nat × Int):∀ n,∀ u ∈ wcl h n,u.oneCell'=true
 | 0,u,hu=>by cases hu
 | n+1,u,hu=>by
  simp only [wcl] at hu
  rcases List.mem_append.1 hu with hu | hu
  · exact wcl_one h n u hu
  · simp only [List.mem_cons,List.not_mem_nil,or_false] at hu
    rcases hu with rfl | rfl <;> rfl
def ClwPost (w:World) (n:Nat) (h:Nat→Nat × Int) (e:Ending) (w':World):Prop:=∃ v,e=.returned v∧WG w' w.heap.size v n h∧Below w.heap.size w w'
theorem cloneW_any (g n:Nat) (h:Nat→Nat × Int) (w:World) (hr:WR w g n h) (h0:0 < n) (hn:n≤1000000):Calls Tryz.prog 119 #[.slice (some ⟨g,0,none⟩) n n] w (ClwPost w n h):=by
 have HP:Hid (∀ v w',w'.ownsRow w.heap.size 182 2 v n (wcl h n)→Below w.heap.size w w'→ClwPost w n h (.returned v) w'):=(show ∀ v w',_ from fun v w' h hb=>⟨v,rfl,WG.of_own h0 h,hb⟩)
 obtain ⟨i0,hi0,hz0,hz1,hz2⟩:=info_parts info106
 have hl:Lies (some ⟨g,0,none⟩) n w.heap.size g 0:=fun _=>⟨rfl,Blk.lt hr⟩
 have HH:Hid (∀ j,j < n*2→w.cell? ⟨g,0+j,none⟩=(wcl h n)[j]?):=(show ∀ j,_ from fun j hj=>by rw [Blk.cell hr,List.getElem?_toArray,Nat.zero_add])
 have heq:∀ W,(binOp .eql 179 (.slice (some ⟨g,0,none⟩) n n) (.slice none 0 0)).run Tryz.prog W=.ok (.bool false) W:=fun W=>by
  have:=Lib.run_eql_slice_nil W 179 182 (some ⟨g,0,none⟩) n n 0 0 Tryz.underlying179
  simpa using this
 have HL:=Lib.hid (wcl_len h n)
 have HO1:=Lib.hid (wcl_one h n)
 clear hr
 go_enter Tryz.func119,Tryz.ntmps119
 go_wp2_with ((at_builtin
               refine wpList_copy rfl (.tmp 5) (.tmp 6) 179 rfl 182 i0 _ 2 16 Tryz.underlying179 hi0 hz0 hz1 hz2 rfl (by omega) rfl rfl (some ⟨g,0,none⟩) g 0 n n _ rfl HL.out hl HH.out HO1.out (by simp only [maxLen];omega) (by omega) ?_
               intro v1 w1 hown1 hg1
               have HO:=Lib.hid hown1
               have HG:=Lib.hid hg1
               clear hown1 hg1))
 go_ret
 exact HP.out _ _ HO.out HG.out
end Go.Proofs.YtbnganlfelgogaaGreat
namespace Go.Proofs.YtbnganlfelgogaaGreat
open Go.RowKit
theorem WG.put1 {W:World} {B n g c:Nat} {h:Nat→Nat × Int} (s:WG W B (.slice (some ⟨g,0,none⟩) n c) n h) {j:Nat} (hj:j < n) (d:Nat) :
 WG (W.setCell ⟨g,j*2+1,none⟩ (.int .i64 (d:Int))) B (.slice (some ⟨g,0,none⟩) n c) n (fun i=>if i=j then (d,(h j).2) else h i):=by
 obtain ⟨g',c',he,hB,cur,h1,h2,h3⟩:=s
 injection he with e1 e2 e3
 injection e1 with e1
 injection e1 with e1
 subst e1
 have hb:Blk W g 182 cur:=h1
 have h4:=Blk.set_ hb (j*2+1) (.int .i64 (d:Int))
 refine ⟨g,c,rfl,hB,_,h4,by simpa using h2,fun i hi=>?_⟩
 have hw:=wcl_set h (d,(h j).2) n j hj
 have hg0:=(wcl_get h n j hj).1
 rw [←hw]
 by_cases e2:i=j*2+1
 · subst e2
   rw [Array.getElem?_setIfInBounds,if_pos rfl,if_pos (by omega),List.getElem?_set_self (by rw [List.length_set,wcl_len];omega)]
 · rw [Array.getElem?_setIfInBounds,if_neg (fun e=>e2 e.symm),List.getElem?_set_ne (fun e=>e2 e.symm)]
   by_cases e3:i=j*2
   · subst e3
     rw [h3 _ hi,hg0,List.getElem?_set_self (by rw [wcl_len];omega)]
   · rw [List.getElem?_set_ne (fun e=>e3 e.symm)]
     exact h3 i hi
def RS (W:World) (B N:Nat) (t:Tb) (m:Nat) (v:Value):Prop:=∃ hd:List Value,W.ownsRow B 179 1 v m hd∧∀ q,q < m→WG W B (hd.getD q undef) N (inD t N q)
theorem RS.below {W W':World} {B N m:Nat} {t:Tb} {v:Value} (h:RS W B N t m v) (hb:Below W.heap.size W W'):RS W' B N t m v:=by
 obtain ⟨hd,h1,h2⟩:=h
 exact ⟨hd,World.ownsRow.kept h1 (grown_of_below hb none) (Classical.em _),fun q hq=>(h2 q hq).below hb⟩
theorem RS.at {W:World} {B N m q:Nat} {t:Tb} {v:Value} (h:RS W B N t m v) (hq:q < m) :
 ∃ gR cR g c,v=.slice (some ⟨gR,0,none⟩) m cR∧gR < W.heap.size∧W.cell? ⟨gR,q,none⟩=some (.slice (some ⟨g,0,none⟩) N c)∧WG W B (.slice (some ⟨g,0,none⟩) N c) N (inD t N q):=by
 obtain ⟨hd,h1,h2⟩:=h
 have hw:=h2 q hq
 obtain ⟨A,b,off,c',rfl,hA,hz,-⟩:=rv_of_own h1 (by rw [h1.1])
 obtain ⟨rfl,hb⟩:=hA (by omega)
 have hoff:off=0:=by
  rcases h1.2 with ⟨hh,_⟩ | ⟨g,cap,cur,hh,_⟩
  · cases hh
  · injection hh with hh;injection hh with hh;injection hh
 subst hoff
 have hw':=hw
 obtain ⟨g,c,he,-⟩:=hw'
 rw [he] at hw
 refine ⟨b,c',g,c,rfl,hb,?_,hw⟩
 have:=hz q (by omega)
 dsimp only at this
 rw [Nat.zero_add,he] at this
 exact this
theorem info103:(Tryz.prog.info? 179).map (fun i=>(i.zero,i.size,i.bytes))=some (some (.slice none 0 0),1,24):=by kernel_rfl
theorem RS.push {W W':World} {B N m:Nat} {t:Tb} {v v' vn:Value} {hd:List Value} (h1:W.ownsRow B 179 1 v m hd) (h2:∀ q,q < m→WG W B (hd.getD q undef) N (inD t N q)) (hn:WG W B vn N (inD t N m))
 (hown:W'.ownsRow B 179 1 v' (m+1) (hd++[vn])) (hg:W.grownBy W' v.ownBlock):RS W' B N t (m+1) v':=by
 have hk:∀ u h,WG W B u N h→WG W' B u N h:=fun u h hu=>by
  refine hu.kept hg (fun e=>?_)
  obtain ⟨g,c,rfl,-,cur,hb,-⟩:=hu
  rcases h1.2 with ⟨rfl,_⟩ | ⟨g2,cap,cur2,rfl,_,hh,_⟩
  · cases e
  · injection e with e
    have e2:g=g2:=e
    rw [←e2,hb] at hh
    injection hh with hh
    injection hh with _ hh
    cases hh
 have hl:hd.length=m:=by rw [h1.1];omega
 refine ⟨hd++[vn],hown,fun q hq=>?_⟩
 by_cases e:q < m
 · rw [gd_app_lt (by omega)]
   exact hk _ _ (h2 q e)
 · obtain rfl:q=m:=by omega
   rw [show q=hd.length from hl.symm,gd_app_eq,hl]
   exact hk _ _ hn
structure BkI (t:Tb) (N L n at_:Nat) (coll:List Int) (b:List Nat) (c:Nat):Prop where
 lt:at_ < N
 ml:(inD t N n at_).1 < ML
 p:Path t at_ b (N-1) c
 s:(inD t N n at_).1+c=(inD t N L (N-1)).1
 e:coll=(ints b).reverse
 l:b.length+n=L
theorem BkI.start {t:Tb} {N L:Nat} (hN:0 < N) (h:(inD t N L (N-1)).1 < ML):BkI t N L L (N-1) [] [] 0:=⟨by omega,h,Path.nil t _,rfl,rfl,by simp⟩
theorem BkI.step {t:Tb} {N L n at_ D c:Nat} {coll:List Int} {b:List Nat} (ht:TbOk t N D) (h:BkI t N L (n+1) at_ coll b c) :
 ∃ i d,(inD t N (n+1) at_).2=((i:Nat):Int)∧BkI t N L n i (coll++[(at_:Int)]) (at_ :: b) (d+c):=by
 obtain ⟨i,d,h1,h2,h3,h4,h5⟩:=inD_by ht h.ml
 refine ⟨i,d,h1,⟨by have:=h.lt;omega,h4,Path.cons h3 h.p,by have:=h.s;omega,?_,by have:=h.l;simp only [List.length_cons];omega⟩⟩
 rw [h.e]
 show _=(ints (at_ :: b)).reverse
 simp [ints]
theorem BkI.fin {t:Tb} {N L at_ c:Nat} {coll:List Int} {b:List Nat} (h:BkI t N L 0 at_ coll b c):Path t 0 b (N-1) (inD t N L (N-1)).1∧b.length=L:=by
 have h1:=h.ml
 have h2:=h.s
 have h3:(inD t N 0 at_)=if at_=0 then (0,-1) else (ML,-1):=rfl
 by_cases e:at_=0
 · subst e
   rw [h3,if_pos rfl] at h2
   have h4:=h.p
   refine ⟨by rw [←h2];simpa using h4,by have:=h.l;omega⟩
 · rw [h3,if_neg e] at h1
   exact absurd h1 (Nat.lt_irrefl _)
def BiPost (f:Fnt) (r:Rls) (ws:List PWord) (ln:Int) (w:World) (e:Ending) (w':World):Prop:=
 Below w.heap.size w w'∧((paErr f r ws≠0∧e=.returned (.tuple #[.slice none 0 0,.int .i64 0,.int .i64 (paErr f r ws)]))∨
  (paErr f r ws=0∧win ln 0 300=false∧e=.returned (.tuple #[.slice none 0 0,.int .i64 0,.int .i64 2]))∨
  (paErr f r ws=0∧win ln 0 300=true∧(inD (tab f r ws) (places ws).length ln.toNat ((places ws).length-1)).1=ML∧e=.returned (.tuple #[.slice none 0 0,.int .i64 0,.int .i64 12]))∨
  (paErr f r ws=0∧win ln 0 300=true∧(inD (tab f r ws) (places ws).length ln.toNat ((places ws).length-1)).1 < ML∧∃ b vb,e=.returned (.tuple #[vb,.int .i64 ((inD (tab f r ws) (places ws).length ln.toNat ((places ws).length-1)).1:Int),.int .i64 0])∧
   IV w' (ints b) vb∧Path (tab f r ws) 0 b ((places ws).length-1) (inD (tab f r ws) (places ws).length ln.toNat ((places ws).length-1)).1∧b.length=ln.toNat))
theorem bestIn_any (f:Fnt) (v:Value) (r:Rls) (ws:List PWord) (vw:Value) (ln:Int) (w:World) (hv:SoV w f.sorts v) (hn:f.name.size≤9223372036854775807) (hw:WoV w ws vw) :
 Calls Tryz.prog 69 #[.agg (fcs f v),.agg (rcs r),vw,.int .i64 ln] w (BiPost f r ws ln w):=by
 have HT:=Lib.hid (UB.start (r:=r) hv hw)
 have HOP:=Lib.hid (fun W (h1:SoV W f.sorts v) (h2:WoV W ws vw)=>open_any f v r ws vw W h1 hn h2)
 have HPO:Hid (paErr f r ws=0→POk f r ws):=paErr_ok
 have HLA:=Lib.hid (fun pb vp W (h1:PA W pb f v r ws vw vp) (h2:(places ws).length≤300)=>last_any f v r ws vw vp pb W h1 h2)
 have HWI:Hid (∀ n lo hi W,Calls Tryz.prog 94 #[.int .i64 n,.int .i64 lo,.int .i64 hi] W fun e w'=>e=.returned (.bool (win n lo hi))∧w'=W):=(show ∀ n lo hi W,_ from fun n lo hi W=>(within44_any _ _ _ W).mono fun _ _ ⟨h1,h2⟩=>⟨h1,h2.symm⟩)
 obtain ⟨Av,cv,rfl⟩:=hv.shape
 obtain ⟨Aw,cw,rfl,-⟩:=hw.shape
 clear hv hw hn
 have g0:=HT.out.T.F.cell 0
 have g1:=HT.out.T.F.cell 1
 have g2:=HT.out.T.F.cell 2
 have q0:=HT.out.T.R.cell 0
 have q1:=HT.out.T.R.cell 1
 have q2:=HT.out.T.R.cell 2
 have q3:=HT.out.T.R.cell 3
 have q4:=HT.out.T.R.cell 4
 have q5:=HT.out.T.R.cell 5
 have q6:=HT.out.T.R.cell 6
 have q7:=HT.out.T.R.cell 7
 go_enter Tryz.func69,Tryz.ntmps69
 go_wp2_with fail
 generalize (w.alloc (.cells (fcs f (.slice Av f.sorts.length cv)) 24)).alloc (.cells (rcs r) 26)=W0 at *
 refine (HOP.out _ HT.out.T.S HT.out.V).mono ?_
 rintro e W1 ⟨hb1,⟨hpe,rfl⟩ | ⟨hpe,pb,vp,rfl,hpb,hpa⟩⟩
 · have hpb:=bne_t hpe
   have HF:Hid (∀ W,Below w.heap.size w W→BiPost f r ws ln w (.returned (.tuple #[.slice none 0 0,.int .i64 0,.int .i64 (paErr f r ws)])) W):=(show ∀ W,_ from fun W hb=>⟨hb,.inl ⟨hpe,rfl⟩⟩)
   have HB1:=Lib.hid (HT.out.T.B.trans (hb1.mono HT.out.T.B.size))
   clear hpe hb1
   go_wp2_with fail
   go_ret3
   exact HF.out _ HB1.out
 have HB1:=Lib.hid (HT.out.T.B.trans (hb1.mono HT.out.T.B.size))
 have HOK:=Lib.hid (HPO.out hpe)
 obtain ⟨Ap,cp,rfl,-,-⟩:=hpa.L.shape
 have HA:=Lib.hid hpa
 have z12:=hpa.P.cell 12
 have zl:=hpa.P.lt
 have hm:=HOK.out.m
 have hpos:=places_pos ws
 have HTB:=Lib.hid (tab_ok HOK.out.ru hm)
 have HPE:=Lib.hid hpe
 clear hpe hb1 hpa HOP HPO g0 g1 g2 q0 q1 q2 q3 q4 q5 q6 q7
 cases hwl:win ln 0 300 with
 | false=>
  have HF:Hid (∀ W,Below w.heap.size w W→BiPost f r ws ln w (.returned (.tuple #[.slice none 0 0,.int .i64 0,.int .i64 2])) W):=(show ∀ W,_ from fun W hb=>⟨hb,.inr (.inl ⟨HPE.out,hwl,rfl⟩)⟩)
  go_wp2_with (first
   | (go_at_call 94;(with_reducible refine (HWI.out _ _ _ _).mono ?_);rintro e w' ⟨rfl,hw'⟩;have hw'':=hw'.symm;subst hw''))
  go_ret3
  exact HF.out _ HB1.out
 | true=>
  have hw3:=win_t.1 hwl
  obtain ⟨lines,rfl⟩:∃ q:Nat,ln=(q:Int):=⟨ln.toNat,by omega⟩
  have H1:Hid (∀ W,(inD (tab f r ws) (places ws).length lines ((places ws).length-1)).1=ML→Below w.heap.size w W→BiPost f r ws (lines:Int) w (.returned (.tuple #[.slice none 0 0,.int .i64 0,.int .i64 12])) W):=(show ∀ W,_ from fun W h hb=>⟨hb,.inr (.inr (.inl ⟨HPE.out,hwl,h,rfl⟩))⟩)
  have H2:Hid (∀ W b vb,(inD (tab f r ws) (places ws).length lines ((places ws).length-1)).1 < ML→IV W (ints b) vb→Path (tab f r ws) 0 b ((places ws).length-1) (inD (tab f r ws) (places ws).length lines ((places ws).length-1)).1→b.length=lines→Below w.heap.size w W→
   BiPost f r ws (lines:Int) w (.returned (.tuple #[vb,.int .i64 ((inD (tab f r ws) (places ws).length lines ((places ws).length-1)).1:Int),.int .i64 0])) W):=(show ∀ W b vb,_ from fun W b vb h h1 h2 h3 hb=>⟨hb,.inr (.inr (.inr ⟨HPE.out,hwl,h,b,vb,rfl,h1,h2,h3⟩))⟩)
  generalize hN:(places ws).length=N at *
  have HN:=Lib.hid hN
  clear hN
  go_wp2_with (first
   | (go_at_call 94;(with_reducible refine (HWI.out _ _ _ _).mono ?_);rintro e w' ⟨rfl,hw'⟩;have hw'':=hw'.symm;subst hw'';rw [hwl]))
  go_loopg [47,13] N (fun gg s47 s13 wr=>∃ k:Nat,k≤N∧N-k≤gg∧s47=.int .i64 k∧Hid (Below W1.heap.size W1 wr)∧Hid (SO wr W1.heap.size (allS (tab f r ws) N k) s13))
  case atStart=>exact ⟨0,by omega,by omega,rfl,Below.refl _ _,World.ownsRow_nil _ _ _ _⟩
  case round=>
   obtain ⟨k,hk,hgk,rfl,HB,HO⟩:=hrel
   have HA2:=Lib.hid (HA.out.step HB.out)
   by_cases hlt:k < N
   · have hltz:(k:Int) < (N:Int):=by omega
     have hsh:=HO.out.shape
     have hall:=allS_len (t:=tab f r ws) hm k (by omega)
     have hb3:Below wr.heap.size wr ((wr.alloc (.cells #[.pointer (some ⟨pb,0,none⟩)] 133)).alloc (.cells #[.int .i64 (k:Int)] 3)):=(below_new wr _).alloc (by simp) _
     have HSW:Hid (SW W1 ((wr.alloc (.cells #[.pointer (some ⟨pb,0,none⟩)] 133)).alloc (.cells #[.int .i64 (k:Int)] 3)) (wr.heap.size+1) wr.heap.size k pb):=by
      refine ⟨HB.out.trans (hb3.mono HB.out.size),?_,?_,by simp,by simp;omega⟩ <;> simp [go_sem]
     have hsl:=HO.out.lt
     have hbz:=HB.out.size
     have HAS:=Lib.hid (appendSeq_any f _ r ws _ _ pb k (wr.heap.size+1) wr.heap.size W1.heap.size W1 _ _ _ HA.out HOK.out (by rw [HN.out];exact hlt) HSW.out (Nat.le_refl _) (by have:=hb3.size;omega) (HO.out.below hb3) (by omega) (fun q hq=>by have:=hsl q hq;omega))
     have HB3:=Lib.hid (HB.out.trans (hb3.mono hbz))
     rw [HN.out] at HAS
     have HAL:Hid (allS (tab f r ws) N (k+1)=allS (tab f r ws) N k++stl (tab f r ws) k (stp (tab f r ws) k (N-1-k))):=rfl
     clear hb3 hsl hbz hsh
     go_wp2_with (first
      | (go_at_call 113;(with_reducible refine (steps_any _ _ _).mono ?_);rintro e w5 ⟨rfl,rfl⟩)
      | (go_at_call 117;(with_reducible refine HAS.out.mono ?_);rintro e w6 ⟨v6,rfl,hso6,hb6⟩))
     have HB6:=Lib.hid (HB3.out.trans hb6)
     go_roundg (N-(k+1))
     case measure=>omega
     case rel=>exact ⟨k+1,by omega,by omega,by go_num,HB6.out,by show SO _ _ _ _;rw [HAL.out];exact hso6⟩
   · have hltz:¬(k:Int) < (N:Int):=by omega
     have hke:k=N:=by omega
     have HOA:Hid (SO wr W1.heap.size (allS (tab f r ws) N N) u13):=by rw [hke] at HO;exact HO.out
     have z12:=HA2.out.P.cell 12
     have zl:=HA2.out.P.lt
     have hb1:=below_new wr (.cells #[.int .i64 (-1),.int .i64 1000000000000000] 182)
     have k1:=Blk.new wr 182 #[.int .i64 (-1),.int .i64 1000000000000000]
     have HRP:=Lib.hid (repeatW_any (-1) 1000000000000000 N wr.heap.size 0 1 _ (k1.cell 0) (k1.cell 1) (by omega))
     have HB1a:=Lib.hid hb1
     clear hlt hke HO hb1 k1
     go_wp2_with (first
      | (go_at_call 118;(with_reducible refine HRP.out.mono ?_);rintro e w2 ⟨rfl,hrow,hb2⟩
         have hML:((ML:Nat):Int)=1000000000000000:=rfl
         rw [←hML,rp_wcl (-1) ML N,World.size_alloc] at hrow
         have HW2:Hid (WR w2 (wr.heap.size+1) N (fun _=>(ML,-1))):=hrow
         have HCL:=Lib.hid (cloneW_any _ N _ w2 HW2.out hpos (by omega))
         have HB2:=Lib.hid (HB1a.out.trans (hb2.mono (by simp)))
         clear hrow hb2)
      | (go_at_call 119;(with_reducible refine HCL.out.mono ?_);rintro e w3 ⟨vf,rfl,hwg3,hb3⟩
         obtain ⟨g1,c1,rfl,-⟩:=id hwg3
         have hbl3:=hwg3.blk
         have hce3:=hwg3.cells hpos
         have y1:=hce3.2
         have y1l:=hbl3.1
         have y1f:=hbl3.2.2.1 1
         have hNz:(0:Int) < (N:Int):=by omega
         have HWG3:=Lib.hid hwg3
         have HB3:=Lib.hid hb3
         clear hwg3 hbl3 hce3 hb3))
     obtain ⟨wL,hwL⟩:∃ x,x=wr:=⟨_,rfl⟩
     subst hwL
     have HBL:=Lib.hid (HB.out.trans (HB2.out.mono HB.out.size))
     have HA3:=Lib.hid (HA.out.step HBL.out)
     have HOA3:=Lib.hid (HOA.out.below HB2.out)
     have HBw:=Lib.hid (HB1.out.trans (HBL.out.mono HB1.out.size))
     have HS5:Hid (Below w2.heap.size w2 ((w3.setCell ⟨g1,1,none⟩ (.int .i64 0)).alloc (.cells #[.slice (some ⟨g1,0,none⟩) N c1] 179))∧RS ((w3.setCell ⟨g1,1,none⟩ (.int .i64 0)).alloc (.cells #[.slice (some ⟨g1,0,none⟩) N c1] 179)) w2.heap.size N (tab f r ws) 1 (.slice (some ⟨w3.heap.size,0,none⟩) 1 1)):=by
      have hsz:(w3.setCell ⟨g1,1,none⟩ (.int .i64 0)).heap.size=w3.heap.size:=by simp [World.setCell]
      have hg1:=HWG3.out.blk.2.1
      have h1:=HB3.out.setCell (p:=⟨g1,1,none⟩) hg1 (.int .i64 0)
      have h2:=below_new (w3.setCell ⟨g1,1,none⟩ (.int .i64 0)) (.cells #[.slice (some ⟨g1,0,none⟩) N c1] 179)
      have h3:=(HWG3.out.put1 hpos 0).congr (h':=inD (tab f r ws) N 0) (fun j hj=>by
       show (if j=0 then ((0:Nat),(-1:Int)) else (ML,-1))=(if j=0 then (0,-1) else (ML,-1))
       rfl)
      have h4:=Blk.new (w3.setCell ⟨g1,1,none⟩ (.int .i64 0)) 179 #[.slice (some ⟨g1,0,none⟩) N c1]
      rw [hsz] at h4
      refine ⟨h1.trans (h2.mono h1.size),[.slice (some ⟨g1,0,none⟩) N c1],own_of_block h4 HB3.out.size (by simp) (by omega) (by decide) (by simp) (fun j hj=>by simp),fun q hq=>?_⟩
      obtain rfl:q=0:=by omega
      exact WG.below h3 h2
     clear HB HA2 HOA HRP HB1a HCL HB2 HBL z12 zl y1 y1l y1f HB3 HWG3
     generalize ((w3.setCell ⟨g1,1,none⟩ (.int .i64 0)).alloc (.cells #[.slice (some ⟨g1,0,none⟩) N c1] 179))=W5 at *
     obtain ⟨Aa,ca,rfl⟩:=HOA3.out.shape
     have hLL:=allS_len (t:=tab f r ws) hm N (Nat.le_refl _)
     obtain ⟨gn,hgn0⟩:∃ x,wL.heap.size+1=x:=⟨_,rfl⟩
     rw [hgn0] at HW2
     have HALM:Hid (∀ s,s ∈ allS (tab f r ws) N N→s.1 < s.2.1∧s.2.1 < N∧s.2.2≤DMX):=(show ∀ s,_ from fun s hs=>allS_mem HTB.out N (Nat.le_refl _) s hs)
     have HFA:Hid (∀ n,∀ x,x < N→(List.foldl (nxf fun i=>(inD (tab f r ws) N n i).1) (fun _=>(ML,-1)) (allS (tab f r ws) N N)) x=inD (tab f r ws) N (n+1) x):=(show ∀ n,_ from fun n x hx=>fold_all HTB.out (fun _ _=>rfl) N (Nat.le_refl _) x hx)
     generalize allS (tab f r ws) N N=al at *
     simp only [hgn0]
     clear hgn0
     go_loopg [72,17] lines (fun gg s72 s17 wr=>∃ n:Nat,n≤lines∧lines-n≤gg∧s72=.int .i64 n∧Hid (Below w2.heap.size w2 wr)∧Hid (RS wr w2.heap.size N (tab f r ws) (n+1) s17))
     case atStart=>exact ⟨0,by omega,by omega,rfl,HS5.out.1,HS5.out.2⟩
     case round=>
      obtain ⟨n,hn,hgn,rfl,HB,HR⟩:=hrel
      by_cases hlt:n < lines
      · have hltz:(n:Int) < (lines:Int):=by omega
        have HWn:=Lib.hid (Blk.below HW2.out HB.out (Blk.lt HW2.out))
        have HCL:=Lib.hid (cloneW_any gn N _ wr HWn.out hpos (by omega))
        have HOr:=Lib.hid (HOA3.out.below HB.out)
        obtain ⟨w6,hw6⟩:∃ x,x=wr:=⟨_,rfl⟩
        subst hw6
        obtain ⟨gR,cR,gP,cP,rfl,hgRl,hcR,hwgp⟩:=HR.out.at (q:=n) (by omega)
        have HGRL:=Lib.hid hgRl
        have HCR:=Lib.hid hcR
        have HWP:=Lib.hid hwgp
        clear hgRl hcR hwgp
        go_wp2_with (first
         | (go_at_call 119;(with_reducible refine HCL.out.mono ?_);rintro e w7 ⟨vn,rfl,hwg7,hb7⟩
            obtain ⟨gN,cN,rfl,-⟩:=id hwg7
            have HWG7:=Lib.hid hwg7
            have HB7:=Lib.hid hb7
            clear hwg7 hb7))
        clear HCL HWn
        go_loopg [79] al.length (fun gg s79 wr=>∃ q:Nat,q≤al.length∧al.length-q≤gg∧s79=.int .i64 q∧Hid (Below w6.heap.size w6 wr)∧Hid (WG wr w6.heap.size (.slice (some ⟨gN,0,none⟩) N cN) N (List.foldl (nxf fun i=>(inD (tab f r ws) N n i).1) (fun _=>(ML,-1)) (al.take q))))
        case atStart=>exact ⟨0,by omega,by omega,rfl,HB7.out,HWG7.out⟩
        case round=>
         obtain ⟨q,hq,hgq,rfl,HB8,HW8⟩:=hrel
         by_cases hqt:q < al.length
         · have hqtz:(q:Int) < (al.length:Int):=by omega
           have hmem:gst al q ∈ al:=by
            rw [gst,List.getD_eq_getElem?_getD,List.getElem?_eq_getElem hqt]
            exact List.getElem_mem hqt
           have hst:=HALM.out _ hmem
           obtain ⟨ga,rfl,hgal,ya,yb,yc⟩:=(HOr.out.below HB8.out).at hqt
           have HFT:=Lib.hid (fold_take (p:=fun i=>(inD (tab f r ws) N n i).1) (h:=fun _=>(ML,-1)) hqt)
           have hgl8:=HB8.out.size
           have hgR8:wr.cell? ⟨gR,n,none⟩=some (.slice (some ⟨gP,0,none⟩) N cP):=(HB8.out.cell (p:=⟨gR,n,none⟩) HGRL.out).trans HCR.out
           have hgRl8:gR < wr.heap.size:=Nat.lt_of_lt_of_le HGRL.out hgl8
           have HWP8:=Lib.hid (HWP.out.below HB8.out)
           have hDM:DMX=400200000:=rfl
           obtain ⟨⟨i,j,d⟩,hs⟩:∃ s,gst al q=s:=⟨_,rfl⟩
           rw [hs] at hst ya yb yc HFT
           dsimp only at hst ya yb yc
           have hi:i < N:=by omega
           have hxc:=HWP8.out.cells hi
           have hxl:=HWP8.out.blk
           have hyc:=HW8.out.cells hst.2.1
           have hyl:=HW8.out.blk
           have hxle:=inD_le_ML (tab f r ws) N n i
           have HNX:Hid (nxf (fun i=>(inD (tab f r ws) N n i).1) (List.foldl (nxf fun i=>(inD (tab f r ws) N n i).1) (fun _=>(ML,-1)) (al.take q)) (i,j,d)=if (inD (tab f r ws) N n i).1 < ML∧(inD (tab f r ws) N n i).1+d < (List.foldl (nxf fun i=>(inD (tab f r ws) N n i).1) (fun _=>(ML,-1)) (al.take q) j).1 then fun x=>if x=j then ((inD (tab f r ws) N n i).1+d,(i:Int)) else (List.foldl (nxf fun i=>(inD (tab f r ws) N n i).1) (fun _=>(ML,-1)) (al.take q)) x else List.foldl (nxf fun i=>(inD (tab f r ws) N n i).1) (fun _=>(ML,-1)) (al.take q)):=rfl
           have HPT:=Lib.hid (fun (W:World) (hW:WG W w6.heap.size (.slice (some ⟨gN,0,none⟩) N cN) N (List.foldl (nxf fun i=>(inD (tab f r ws) N n i).1) (fun _=>(ML,-1)) (al.take q)))=>hW.put hst.2.1)
           have x1:=hxc.2
           have xl:=hxl.1
           have y0:=hyc.1
           have y1:=hyc.2
           have yl:=hyl.1
           have yf0:=hyl.2.2.1 (j*2)
           have yf1:=hyl.2.2.1 (j*2+1)
           have HYL:Hid (w6.heap.size≤gN):=hyl.2.1
           clear hxc hxl hyc hyl hs hmem
           obtain ⟨xv,hxv⟩:∃ x,(inD (tab f r ws) N n i).1=x:=⟨_,rfl⟩
           obtain ⟨yv,hyv⟩:∃ x,(List.foldl (nxf fun i=>(inD (tab f r ws) N n i).1) (fun _=>(ML,-1)) (al.take q) j).1=x:=⟨_,rfl⟩
           rw [hxv] at x1 hxle HNX
           rw [hyv] at y1 HNX
           obtain ⟨yb2,hyb2⟩:∃ x,(List.foldl (nxf fun i=>(inD (tab f r ws) N n i).1) (fun _=>(ML,-1)) (al.take q) j).2=x:=⟨_,rfl⟩
           rw [hyb2] at y0
           clear hxv hyv hyb2
           have hMLz:ML=1000000000000000:=rfl
           have hjz:(j:Int) < (N:Int):=by omega
           have hiz:(i:Int) < (N:Int):=by omega
           have hnz:(n:Int) < ((n+1:Nat):Int):=by omega
           by_cases hx:xv < ML
           · have hxz:(xv:Int) < 1000000000000000:=by omega
             by_cases hy:xv+d < yv
             · have hyz:(xv:Int)+(d:Int) < (yv:Int):=by omega
               rw [if_pos ⟨hx,hy⟩] at HNX
               have HFIN:Hid (∀ q1,Below w6.heap.size w6 ((((wr.alloc (.cells #[.int .i64 (i:Int),.int .i64 (j:Int),.int .i64 (d:Int)] 172)).drewN q1).setCell ⟨gN,j*2,none⟩ (.int .i64 (i:Int))).setCell ⟨gN,j*2+1,none⟩ (.int .i64 ((xv:Int)+(d:Int))))∧
                WG ((((wr.alloc (.cells #[.int .i64 (i:Int),.int .i64 (j:Int),.int .i64 (d:Int)] 172)).drewN q1).setCell ⟨gN,j*2,none⟩ (.int .i64 (i:Int))).setCell ⟨gN,j*2+1,none⟩ (.int .i64 ((xv:Int)+(d:Int)))) w6.heap.size (.slice (some ⟨gN,0,none⟩) N cN) N (List.foldl (nxf fun i=>(inD (tab f r ws) N n i).1) (fun _=>(ML,-1)) (al.take (q+1)))):=(show ∀ q1,_ from fun q1=>by
                have hb9:=(below_new wr (.cells #[.int .i64 (i:Int),.int .i64 (j:Int),.int .i64 (d:Int)] 172)).trans ((below_drewN (wr.alloc (.cells #[.int .i64 (i:Int),.int .i64 (j:Int),.int .i64 (d:Int)] 172)) q1).mono (by simp))
                have h1:=HPT.out _ (HW8.out.below hb9) (xv+d,(i:Int))
                have hcast:(((xv+d:Nat)):Int)=(xv:Int)+(d:Int):=by omega
                dsimp only at h1
                rw [hcast] at h1
                refine ⟨((HB8.out.trans (hb9.mono hgl8)).setCell (p:=⟨gN,j*2,none⟩) HYL.out _).setCell (p:=⟨gN,j*2+1,none⟩) HYL.out _,?_⟩
                rw [HFT.out,HNX.out]
                exact h1)
               clear hx hy
               go_wp2_with fail
               go_quiet (fail)
               go_wp2_with fail
               go_quiet (fail)
               go_wp2_with fail
               go_roundg (al.length-(q+1))
               case measure=>omega
               case rel=>exact ⟨q+1,by omega,by omega,by go_num,(HFIN.out _).1,(HFIN.out _).2⟩
             · have hyz:¬(xv:Int)+(d:Int) < (yv:Int):=by omega
               have hyd:decide ((xv:Int)+(d:Int) < (yv:Int))=false:=by rw [decide_eq_false_iff_not];exact hyz
               rw [if_neg (fun h=>hy h.2)] at HNX
               have HSTY:Hid (∀ q1,Below w6.heap.size w6 ((wr.alloc (.cells #[.int .i64 (i:Int),.int .i64 (j:Int),.int .i64 (d:Int)] 172)).drewN q1)∧WG ((wr.alloc (.cells #[.int .i64 (i:Int),.int .i64 (j:Int),.int .i64 (d:Int)] 172)).drewN q1) w6.heap.size (.slice (some ⟨gN,0,none⟩) N cN) N (List.foldl (nxf fun i=>(inD (tab f r ws) N n i).1) (fun _=>(ML,-1)) (al.take (q+1)))):=(show ∀ q1,_ from fun q1=>by
                have hb9:=(below_new wr (.cells #[.int .i64 (i:Int),.int .i64 (j:Int),.int .i64 (d:Int)] 172)).trans ((below_drewN (wr.alloc (.cells #[.int .i64 (i:Int),.int .i64 (j:Int),.int .i64 (d:Int)] 172)) q1).mono (by simp))
                refine ⟨HB8.out.trans (hb9.mono hgl8),?_⟩
                rw [HFT.out,HNX.out]
                exact HW8.out.below hb9)
               clear hx hy
               go_wp2_with fail
               go_quiet (fail)
               go_wp2_with fail
               go_quiet (fail)
               go_wp2_with fail
               go_roundg (al.length-(q+1))
               case measure=>omega
               case rel=>exact ⟨q+1,by omega,by omega,by go_num,(HSTY.out _).1,(HSTY.out _).2⟩
           · have hxz:¬(xv:Int) < 1000000000000000:=by omega
             have hxd:decide ((xv:Int) < 1000000000000000)=false:=by rw [decide_eq_false_iff_not];exact hxz
             rw [if_neg (fun h=>hx h.1)] at HNX
             have HSTY:Hid (∀ q1,Below w6.heap.size w6 ((wr.alloc (.cells #[.int .i64 (i:Int),.int .i64 (j:Int),.int .i64 (d:Int)] 172)).drewN q1)∧WG ((wr.alloc (.cells #[.int .i64 (i:Int),.int .i64 (j:Int),.int .i64 (d:Int)] 172)).drewN q1) w6.heap.size (.slice (some ⟨gN,0,none⟩) N cN) N (List.foldl (nxf fun i=>(inD (tab f r ws) N n i).1) (fun _=>(ML,-1)) (al.take (q+1)))):=(show ∀ q1,_ from fun q1=>by
              have hb9:=(below_new wr (.cells #[.int .i64 (i:Int),.int .i64 (j:Int),.int .i64 (d:Int)] 172)).trans ((below_drewN (wr.alloc (.cells #[.int .i64 (i:Int),.int .i64 (j:Int),.int .i64 (d:Int)] 172)) q1).mono (by simp))
              refine ⟨HB8.out.trans (hb9.mono hgl8),?_⟩
              rw [HFT.out,HNX.out]
              exact HW8.out.below hb9)
             clear hx
             go_wp2_with fail
             go_quiet (fail)
             go_wp2_with fail
             go_quiet (fail)
             go_wp2_with fail
             go_roundg (al.length-(q+1))
             case measure=>omega
             case rel=>exact ⟨q+1,by omega,by omega,by go_num,(HSTY.out _).1,(HSTY.out _).2⟩
         · have hqtz:¬(q:Int) < (al.length:Int):=by omega
           have hqe:al.take q=al:=List.take_of_length_le (by omega)
           rw [hqe] at HW8
           have HWN:=Lib.hid ((HW8.out.congr (HFA.out n)).base HB.out.size)
           obtain ⟨hd,hown,hrows⟩:=HR.out.below HB8.out
           have hbn:=below_new wr (.cells #[.slice (some ⟨gN,0,none⟩) N cN] 179)
           have hown2:=World.ownsRow.kept (row:=none) hown (grown_of_below hbn none) (Classical.em _)
           have HOW2:=Lib.hid hown2
           have HRW2:Hid (∀ q,q < n+1→WG (wr.alloc (.cells #[.slice (some ⟨gN,0,none⟩) N cN] 179)) w2.heap.size (hd.getD q undef) N (inD (tab f r ws) N q)):=(show ∀ q,_ from fun q hq=>(hrows q hq).below hbn)
           have HWN2:=Lib.hid (HWN.out.below hbn)
           have hnews:∀ (j:Nat) (u:Value),([.slice (some ⟨gN,0,none⟩) N cN]:List Value)[j]?=some u→(wr.alloc (.cells #[.slice (some ⟨gN,0,none⟩) N cN] 179)).cell? ((⟨wr.heap.size,0,none⟩:Addr).add j)=some u:=World.news_of_block (w:=wr.alloc (.cells #[.slice (some ⟨gN,0,none⟩) N cN] 179)) (heap_alloc_new wr _)
           have HB9:=Lib.hid ((HB.out.trans (HB8.out.mono HB.out.size)).trans (hbn.mono (Nat.le_trans HB.out.size HB8.out.size)))
           have hbase:w2.heap.size≤(wr.alloc (.cells #[.slice (some ⟨gN,0,none⟩) N cN] 179)).heap.size:=HB9.out.size
           have HLT:=Lib.hid hown2.lt
           clear hqt hqe hown hrows hbn hown2 HW8 HWN
           obtain ⟨i103,hi103,hz103,hy103,hx103⟩:=info_parts info103
           go_wp2_with (first
            | (at_builtin
               refine wpList_append_lies _ rfl _ _ 184 (by rfl) w2.heap.size 179 i103 _ 1 24 Tryz.underlying184 hi103 hz103 hy103 hx103 rfl (by omega) _ (n+1) _ (by rfl) HOW2.out ⟨wr.heap.size,0,none⟩ 1 1 [.slice (some ⟨gN,0,none⟩) N cN] (by rfl) (by rfl) hnews (by simp [Value.oneCell']) (by omega) (by simp only [maxLen];omega) (by omega) hbase _ rfl ?_
               intro g10 c10 w10 hown10 hgrow10 hat10 hlt10
               have HR10:=Lib.hid (RS.push HOW2.out HRW2.out HWN2.out hown10 hgrow10)
               have HB10:=Lib.hid (HB9.out.grown hgrow10 hbase (fun t ht=>(HLT.out t ht).1))
               clear hown10 hgrow10 hat10))
           go_roundg (lines-(n+1))
           case measure=>omega
           case rel=>exact ⟨n+1,by omega,by omega,by go_num,HB10.out,HR10.out⟩
      · have hltz:¬(n:Int) < (lines:Int):=by omega
        have hne:n=lines:=by omega
        have HRS:Hid (RS wr w2.heap.size N (tab f r ws) (lines+1) u17):=by rw [hne] at HR;exact HR.out
        clear hlt hne HR
        obtain ⟨gR,cR,gP,cP,rfl,hgRl,hcR,hwgp⟩:=HRS.out.at (q:=lines) (by omega)
        have hxc:=hwgp.cells (j:=N-1) (by omega)
        have hxl:=hwgp.blk
        have x1:=hxc.2
        have xl:=hxl.1
        have HLC:Hid (∀ q,Calls Tryz.prog 87 #[.pointer (some ⟨pb,0,none⟩)] (wr.drewN q) fun e w'=>e=.returned (.int .i64 ((N-1:Nat):Int))∧w'=wr.drewN q):=(show ∀ q,_ from fun q=>HLA.out pb _ _ ((HA3.out.step HB.out).step (below_drewN wr q)) hm)
        have HLD:Hid (∀ W,Below w2.heap.size w2 W→Calls Tryz.prog 87 #[.pointer (some ⟨pb,0,none⟩)] W fun e w'=>e=.returned (.int .i64 ((N-1:Nat):Int))∧w'=W):=(show ∀ W,_ from fun W hW=>HLA.out pb _ _ (HA3.out.step hW) hm)
        have hlz:(lines:Int) < ((lines+1:Nat):Int):=by omega
        have hle:=inD_le_ML (tab f r ws) N lines (N-1)
        have hMLz:ML=1000000000000000:=rfl
        obtain ⟨q,hq⟩:∃ q,N-1=q:=⟨_,rfl⟩
        have HQ:=Lib.hid hq
        have hqz:(q:Int) < (N:Int):=by omega
        rw [hq] at x1 HLC HLD H1 H2 hle
        obtain ⟨od,hod⟩:∃ x,(inD (tab f r ws) N lines q).1=x:=⟨_,rfl⟩
        have HOD:=Lib.hid hod
        rw [hod] at x1 H1 H2 hle
        clear hod hxc hxl hwgp hq
        go_wp2_with fail
        go_quiet (first
         | (go_at_call 87;exact Calls.quiet_of_same (HLC.out _)))
        have HB11:=Lib.hid (HB.out.trans ((below_drewN wr nq).mono HB.out.size))
        have HRS11:=Lib.hid (HRS.out.below (below_drewN wr nq))
        clear HB HRS HLC x1 xl hgRl hcR
        generalize wr.drewN nq=W11 at *
        by_cases hml:od=ML
        · have HF:Hid (∀ W,Below w.heap.size w W→BiPost f r ws (lines:Int) w (.returned (.tuple #[.slice none 0 0,.int .i64 0,.int .i64 12])) W):=(show ∀ W,_ from fun W hb=>H1.out W hml hb)
          rw [hMLz] at hml
          subst hml
          clear H1 H2
          go_wp2_with fail
          go_ret3
          exact HF.out _ (HBw.out.trans (HB11.out.mono HBw.out.size))
        · have hodl:od < ML:=by omega
          have hodb:((od:Int) == 1000000000000000)=false:=beq_false_of_ne (by omega)
          have HLW:=Lib.hid (HLD.out W11 HB11.out)
          have HK0:Hid (BkI (tab f r ws) N lines lines q [] [] 0):=by show BkI _ _ _ _ _ _ _ _;rw [←HQ.out];exact BkI.start hpos (by rw [HQ.out,HOD.out];exact hodl)
          have HF:=Lib.hid (fun W b vb=>H2.out W b vb hodl)
          clear H1 H2 hml
          go_wp2_with (first
           | (go_at_call 87;(with_reducible refine HLW.out.mono ?_);rintro e w' ⟨rfl,hw'⟩;have hw'':=hw'.symm;subst hw''))
          go_loopg [25,26,24] lines (fun gg s25 s26 s24 wr=>∃ (n at_:Nat) (coll:List Int) (b:List Nat) (c:Nat),n≤gg∧n≤lines∧s25=.int .i64 (n:Int)∧s26=.int .i64 (at_:Int)∧Hid (BkI (tab f r ws) N lines n at_ coll b c)∧Hid (Below W11.heap.size W11 wr)∧Hid (IO wr W11.heap.size coll s24))
          case atStart=>exact ⟨lines,q,[],[],0,by omega,by omega,rfl,rfl,HK0.out,Below.refl _ _,World.ownsRow_nil _ _ _ _⟩
          case round=>
           obtain ⟨n,at_,coll,b,c,hng,hnl,rfl,rfl,HK,HBX,HOX⟩:=hrel
           by_cases hgt:0 < n
           · obtain ⟨n',rfl⟩:∃ n',n=n'+1:=⟨n-1,by omega⟩
             obtain ⟨i,d,hi1,hbk⟩:=BkI.step HTB.out HK.out
             obtain ⟨gR2,cR2,gP2,cP2,he,hgRl,hcR,hwgp⟩:=HRS11.out.at (q:=n'+1) (by omega)
             injection he with e1 e2 e3
             injection e1 with e1
             injection e1 with e1
             clear e2 e3
             subst e1
             have hal:=HK.out.lt
             have haz:(at_:Int) < (N:Int):=by omega
             have hxc:=(hwgp.cells hal).1
             rw [hi1] at hxc
             have hpl:=hwgp.blk.1
             have hbn:=below_new wr (.cells #[.int .i64 (at_:Int)] 3)
             have hcx:=(Blk.new wr 3 #[.int .i64 (at_:Int)]).cell 0
             have hbz:=HBX.out.size
             have HOX2:=Lib.hid (HOX.out.below hbn)
             have hbs:W11.heap.size≤(wr.alloc (.cells #[.int .i64 (at_:Int)] 3)).heap.size:=by have:=hbn.size;omega
             have HBX2:=Lib.hid (HBX.out.trans (hbn.mono hbz))
             have hcl:coll.length≤300:=by
              have h1:=congrArg List.length HK.out.e
              have h2:=HK.out.l
              rw [List.length_reverse,ints,List.length_map] at h1
              omega
             have HBK2:=Lib.hid hbk
             have hn1:(((n'+1:Nat)):Int) < ((lines+1:Nat):Int):=by omega
             have HRD:Hid (∀ W',Below W11.heap.size W11 W'→W'.cell? ⟨gR,n'+1,none⟩=some (.slice (some ⟨gP2,0,none⟩) N cP2)∧gR < W'.heap.size∧W'.cell? ⟨gP2,at_*2,none⟩=some (.int .i64 ((i:Nat):Int))∧gP2 < W'.heap.size):=(show ∀ W',_ from fun W' hW=>
              ⟨(hW.cell (p:=⟨gR,n'+1,none⟩) hgRl).trans hcR,Nat.lt_of_lt_of_le hgRl hW.size,(hW.cell (p:=⟨gP2,at_*2,none⟩) hpl).trans hxc,Nat.lt_of_lt_of_le hpl hW.size⟩)
             clear hbk hi1 hbn hwgp hcR hgRl hxc hpl
             go_wp2_with (first
              | (at_builtin
                 refine wpList_app1 rfl _ _ (by rfl) W11.heap.size _ coll (at_:Int) _ 1 (by rfl) (by rfl) HOX2.out hcx (by omega) hbs ?_
                 intro v' w' hio hbw hgw
                 have HO3:=Lib.hid hio
                 have HB3:=Lib.hid (HBX2.out.trans hbw)
                 obtain ⟨r1,r2,r3,r4⟩:=HRD.out w' HB3.out
                 clear hio hbw hgw))
             go_roundg n'
             case measure=>omega
             case rel=>exact ⟨n',i,coll++[(at_:Int)],at_ :: b,d+c,by omega,by omega,by go_num,rfl,HBK2.out,HB3.out,HO3.out⟩
           · obtain rfl:n=0:=by omega
             have HRV:=Lib.hid (rev_any coll _ _ wr HOX.out)
             have hfin:=HK.out.fin
             rw [HQ.out,HOD.out] at hfin
             have HP:=Lib.hid hfin
             clear hgt hfin
             go_wp2_with (first
              | (go_at_call 120;(with_reducible refine HRV.out.mono ?_);rintro e w5 ⟨rfl,hio5,hgr5,hsz5⟩))
             have HBX5:=HBX.out.grown hgr5 HBX.out.size (fun t ht=>(World.ownsRow.lt HOX.out t ht).1)
             have HB5:=Lib.hid ((HBw.out.trans (HB11.out.mono HBw.out.size)).trans (HBX5.mono (Nat.le_trans HBw.out.size HB11.out.size)))
             have hiv:=hio5.iv
             rw [HK.out.e,List.reverse_reverse] at hiv
             go_ret3
             exact HF.out _ b _ hiv HP.out.1 HP.out.2 HB5.out
end Go.Proofs.YtbnganlfelgogaaGreat
