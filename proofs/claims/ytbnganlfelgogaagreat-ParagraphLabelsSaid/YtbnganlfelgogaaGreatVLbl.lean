/- ref.CheckLabels: which labels are right, as the reference finds it. -/
import Derived.Test.YtbnganlfelgogaaGreatVRli
import Derived.Test.YtbnganlfelgogaaGreatVBst
import Derived.Test.YtbnganlfelgogaaGreatVFcs
import Derived.StillTailTactics
import Derived.Test.YtbnganlfelgogaaGreatVAwk
set_option linter.unusedSimpArgs false
set_option linter.unusedVariables false
set_option maxRecDepth 100000
set_option maxHeartbeats 40000000
namespace Go.Proofs.YtbnganlfelgogaaGreat
open Go.RowKit
theorem labE_len {t:Tb} {n:Nat} {L:List Int} (h:L.length≠n):labE t n L=(0,10):=by unfold labE;rw [if_pos h]
theorem labE_win {t:Tb} {n k:Nat} {L:List Int} (h:L.length=n) (hk:k < n) (hw:win (gz L k) 0 1000000000000000=false):labE t n L=(0,2):=by
 unfold labE
 have h2:lbW L=true:=any_hit (k:=k) (by omega) (by rw [hw];rfl)
 rw [if_neg (fun h2=>h2 h),if_pos h2]
theorem lbW_all {L:List Int} (h:∀ k,k < L.length→win (gz L k) 0 1000000000000000=true):lbW L=false:=any_none (fun k hk=>by rw [h k hk];rfl)
theorem labE_first {t:Tb} {n:Nat} {L:List Int} (h:L.length=n) (hw:lbW L=false) (h0:gz L 0≠0):labE t n L=(0,22):=by
 unfold labE
 rw [if_neg (fun h2=>h2 h),if_neg (by rw [hw];decide),if_pos h0]
theorem labE_bad {t:Tb} {n i j:Nat} {L:List Int} (h:L.length=n) (hw:lbW L=false) (h0:gz L 0=0) (hi:i < n) (hj:j < n) (hb:lbR t L i j=true):labE t n L=(0,22):=by
 unfold labE
 have h3:lbAll t n L=true:=any_hit hi (any_hit hj hb)
 rw [if_neg (fun h2=>h2 h),if_neg (by rw [hw];decide),if_neg (fun h2=>h2 h0),if_pos h3]
theorem labE_good {t:Tb} {n:Nat} {L:List Int} (h:L.length=n) (hw:lbW L=false) (h0:gz L 0=0) (hb:∀ i j,i < n→j < n→lbR t L i j=false):labE t n L=(gz L (n-1),0):=by
 unfold labE
 rw [if_neg (fun h2=>h2 h),if_neg (by rw [hw];decide),if_neg (fun h2=>h2 h0),if_neg (by
  have:lbAll t n L=false:=any_none (fun i hi=>any_none (fun j hj=>hb i j hi hj))
  rw [this];decide)]
theorem refLabels_any (t:Tb) (N D:Nat) (vt:Value) (L:List Int) (vl:Value) (w:World) (ht:TbOk t N D) (hN:N≤300) (hD:D≤1000000000) (hv:LV w (tbL t N N) vt) (hl:IV w L vl) (hlm:L.length≤1000000) :
 Calls Tryz.prog 55 #[vt,vl] w (TwoPost (labE t N L) w):=by
 have hpos:=ht.pos
 obtain ⟨A,c,rfl,-,-⟩:=hv.shape
 rw [tbL_len] at hv ⊢
 obtain ⟨Al,bl,ol,cl,rfl,hA,hz,-,-⟩:=hl.open
 have HT:=Lib.hid ht
 have HA:=Lib.hid hA
 have HZ:=Lib.hid hz
 have HCT:Hid (∀ W,Below w.heap.size w W→∀ i j,i < N→j < N→∃ b off b' o' c',A=some ⟨b,off,none⟩∧b < W.heap.size∧b' < W.heap.size∧W.cell? ⟨b,off+i,none⟩=some (.slice (some ⟨b',o',none⟩) N c')∧W.cell? ⟨b',o'+j,none⟩=some (.int .i64 (tbc (t i j)))):=(show ∀ W,_ from fun W hW i j hi hj=>LV.cellT (hv.below hW) hi hj)
 have HP:Hid (∀ W x y,(x,y)=labE t N L→Below w.heap.size w W→TwoPost (labE t N L) w (.returned (.tuple #[.int .i64 x,.int .i64 y])) W):=(show ∀ W x y,_ from fun W x y e h=>by rw [←e];exact ⟨rfl,h⟩)
 have HB0:=Lib.hid (Below.refl w.heap.size w)
 clear hv hl hA hz ht
 by_cases hlen:L.length=N
 · have HLEN:=Lib.hid hlen
   rw [hlen] at HA ⊢
   have HLN:Hid (∀ k,k < N→k < L.length):=(show ∀ k,_ from fun k hk=>by rw [HLEN.out];exact hk)
   have HCL:Hid (∀ W,Below w.heap.size w W→∀ k,k < N→∃ b off,Al=some ⟨b,off,none⟩∧b < W.heap.size∧W.cell? ⟨b,off+k,none⟩=some (.int .i64 (gz L k))):=(show ∀ W,_ from fun W hW k hk=>by
    obtain ⟨e,hb⟩:=HA.out (by omega)
    exact ⟨bl,ol,e,Nat.lt_of_lt_of_le hb hW.size,(hW.cell (p:=⟨bl,ol+k,none⟩) hb).trans (HZ.out k (HLN.out k hk))⟩)
   clear hlen
   go_enter Tryz.func55,Tryz.ntmps55
   go_wp2_with fail
   go_loopg [6] N (fun gg s6 wr=>∃ k:Nat,k≤N∧N-k≤gg∧s6=.int .i64 (k:Int)∧Hid (∀ q,q < k→win (gz L q) 0 1000000000000000=true)∧wr=w)
   case atStart=>exact ⟨0,by omega,by omega,rfl,fun q hq=>by omega,rfl⟩
   case round=>
    obtain ⟨k,hk,hg,rfl,HW,rfl⟩:=hrel
    by_cases hlt:k < N
    · have hltz:(k:Int) < (N:Int):=by omega
      obtain ⟨b,off,rfl,z1,z0⟩:=HCL.out _ HB0.out k hlt
      go_wp2_with fail
      refine (within13_any (gz L k) 0 1000000000000000 _).mono ?_
      rintro e w3 ⟨rfl,hw3⟩
      subst hw3
      cases hwi:win (gz L k) 0 1000000000000000 with
      | false=>
       have HF:Hid (((0:Int),(2:Int))=labE t N L):=(labE_win HLEN.out hlt hwi).symm
       go_wp2_with fail
       go_ret2
       exact HP.out _ _ _ HF.out HB0.out
      | true=>
       have HW2:Hid (∀ q,q < k+1→win (gz L q) 0 1000000000000000=true):=(show ∀ q,_ from fun q hq=>by
        by_cases e:q=k
        · rw [e];exact hwi
        · exact HW.out q (by omega))
       clear hwi
       go_wp2_with fail
       go_roundg (N-(k+1))
       case measure=>omega
       case rel=>exact ⟨k+1,by omega,by omega,by go_num,HW2.out,rfl⟩
    · have hltz:¬(k:Int) < (N:Int):=by omega
      have hkn:k=N:=by omega
      have HWA:Hid (lbW L=false):=lbW_all (fun q hq=>HW.out q (by have:=HLEN.out;omega))
      have HGB:Hid (∀ q,q < N→0≤gz L q∧gz L q≤1000000000000000):=(show ∀ q,_ from fun q hq=>win_t.1 (HW.out q (by omega)))
      clear hkn hlt hk hg HW
      obtain ⟨b,off,rfl,z1,z0⟩:=HCL.out _ HB0.out 0 hpos
      rw [Nat.add_zero] at z0
      have hNz:(0:Int) < (N:Int):=by omega
      by_cases hf:gz L 0=0
      · have HF0:=Lib.hid hf
        have hfb:(gz L 0 != 0)=false:=by rw [hf];rfl
        clear hf
        obtain ⟨w0,hw0⟩:∃ x,x=wr:=⟨_,rfl⟩
        subst hw0
        go_wp2_with fail
        clear hfb z0 z1
        go_loopg [7,8] N (fun gg s7 _ wr=>∃ i:Nat,i≤N∧N-i≤gg∧s7=.int .i64 (i:Int)∧Hid (Below w0.heap.size w0 wr)∧Hid (∀ p q,p < i→q < N→lbR t L p q=false))
        case atStart=>exact ⟨0,by omega,by omega,rfl,Below.refl _ _,fun p q hp=>by omega⟩
        case round=>
         obtain ⟨i,hi,hgi,rfl,HB,HR⟩:=hrel
         by_cases hlti:i < N
         · have hltiz:(i:Int) < (N:Int):=by omega
           obtain ⟨wo,hwo⟩:∃ x,x=wr:=⟨_,rfl⟩
           subst hwo
           go_wp2_with fail
           go_loopg [8] N (fun gg s8 wr=>∃ j:Nat,j≤N∧N-j≤gg∧s8=.int .i64 (j:Int)∧Hid (Below w0.heap.size w0 wr)∧Hid (∀ q,q < j→lbR t L i q=false))
           case atStart=>exact ⟨0,by omega,by omega,rfl,HB.out,fun q hq=>by omega⟩
           case round=>
            obtain ⟨j,hj,hgj,rfl,HBJ,HRJ⟩:=hrel
            by_cases hltj:j < N
            · have hltjz:(j:Int) < (N:Int):=by omega
              obtain ⟨b2,off2,b',o',c',rfl,t1,t2,t3,t4⟩:=HCT.out wr HBJ.out i j hlti hltj
              obtain ⟨b3,off3,he3,z1,z0⟩:=HCL.out wr HBJ.out i hlti
              injection he3 with he3
              injection he3 with e1 e2
              subst e1 e2
              obtain ⟨b4,off4,he4,-,y0⟩:=HCL.out wr HBJ.out j hltj
              injection he4 with he4
              injection he4 with e1 e2
              subst e1 e2
              have hgi0:=HGB.out i hlti
              have HLB:Hid (lbR t L i j=match t i j with | none=>false | some d=>decide (gz L i+(d:Int) < gz L j)):=rfl
              have HNX:Hid (lbR t L i j=false→∀ q,q < j+1→lbR t L i q=false):=(show _→_ from fun h q hq=>by
               by_cases e:q=j
               · rw [e];exact h
               · exact HRJ.out q (by omega))
              have HBD:Hid (lbR t L i j=true→labE t N L=(0,22)):=(show _→_ from fun h=>labE_bad HLEN.out HWA.out HF0.out hlti hltj h)
              by_cases h0:0≤tbc (t i j)
              · obtain ⟨d,hd,htc⟩:=tbc_pos h0
                have hdd:=(HT.out.up hd).2.2
                rw [htc] at t4
                have hdz:(0:Int)≤((d:Nat):Int):=by omega
                have HLD:Hid (lbR t L i j=decide (gz L i+(d:Int) < gz L j)):=by show _=_;rw [HLB.out,hd]
                clear h0 htc hd HLB
                by_cases hlt3:gz L i+(d:Int) < gz L j
                · have HF:Hid (((0:Int),(22:Int))=labE t N L):=(HBD.out (by rw [HLD.out];exact decide_eq_true hlt3)).symm
                  generalize gz L i=xi at *
                  generalize gz L j=xj at *
                  go_wp2_with fail
                  go_quiet (fail)
                  have HBN:=Lib.hid (HBJ.out.trans ((below_drewN wr nq).mono HBJ.out.size))
                  go_wp2_with fail
                  go_ret2
                  exact HP.out _ _ _ HF.out HBN.out
                · have HN2:=Lib.hid (HNX.out (by rw [HLD.out];exact decide_eq_false hlt3))
                  clear HNX HBD HLD HRJ
                  generalize gz L i=xi at *
                  generalize gz L j=xj at *
                  go_wp2_with fail
                  go_quiet (fail)
                  have HBN:=Lib.hid (HBJ.out.trans ((below_drewN wr nq).mono HBJ.out.size))
                  go_wp2_with fail
                  go_roundg (N-(j+1))
                  case measure=>omega
                  case rel=>exact ⟨j+1,by omega,by omega,by go_num,HBN.out,HN2.out⟩
              · have hd:=tbc_neg h0
                have HN2:=Lib.hid (HNX.out (by rw [HLB.out,hd]))
                rw [show tbc (t i j)=-1 by rw [hd];rfl] at t4
                clear h0 hd HLB HNX HBD HRJ
                go_wp2_with fail
                go_quiet (fail)
                have HBN:=Lib.hid (HBJ.out.trans ((below_drewN wr nq).mono HBJ.out.size))
                go_wp2_with fail
                go_roundg (N-(j+1))
                case measure=>omega
                case rel=>exact ⟨j+1,by omega,by omega,by go_num,HBN.out,HN2.out⟩
            · have hltjz:¬(j:Int) < (N:Int):=by omega
              have HN2:Hid (∀ p q,p < i+1→q < N→lbR t L p q=false):=(show ∀ p q,_ from fun p q hp hq=>by
               by_cases e:p=i
               · rw [e];exact HRJ.out q (by omega)
               · exact HR.out p q (by omega) hq)
              clear hltj hj hgj HRJ
              go_wp2_with fail
              go_roundg (N-(i+1))
              case measure=>omega
              case rel=>exact ⟨i+1,by omega,by omega,by go_num,HBJ.out,HN2.out⟩
         · have hltiz:¬(i:Int) < (N:Int):=by omega
           have HF:Hid ((gz L (N-1),(0:Int))=labE t N L):=(labE_good HLEN.out HWA.out HF0.out (fun p q hp hq=>HR.out p q (by omega) hq)).symm
           obtain ⟨b4,off4,he4,z1,y0⟩:=HCL.out wr HB.out (N-1) (by omega)
           injection he4 with he4
           injection he4 with e1 e2
           subst e1 e2
           clear hlti hi hgi HR
           obtain ⟨q,rfl⟩:∃ q,N=q+1:=⟨N-1,by omega⟩
           rw [Nat.add_sub_cancel] at HF y0
           have hqq:(q:Int) < (q:Int)+1:=by omega
           generalize gz L q=xq at *
           go_wp2_with fail
           go_ret2
           exact HP.out _ _ _ HF.out HB.out
      · have hfb:(gz L 0 != 0)=true:=bne_t hf
        have HF:Hid (((0:Int),(22:Int))=labE t N L):=(labE_first HLEN.out HWA.out hf).symm
        clear hf
        generalize gz L 0=x0 at *
        go_wp2_with fail
        go_ret2
        exact HP.out _ _ _ HF.out HB0.out
 · have HF:Hid (((0:Int),(10:Int))=labE t N L):=(labE_len hlen).symm
   have hlb:(((L.length:Nat):Int) != (N:Int))=true:=bne_t (by omega)
   clear hlen
   go_enter Tryz.func55,Tryz.ntmps55
   go_wp2_with fail
   go_ret2
   exact HP.out _ _ _ HF.out HB0.out
end Go.Proofs.YtbnganlfelgogaaGreat
namespace Go.Proofs.YtbnganlfelgogaaGreat
open Go.RowKit
attribute [local go_sem] Oper.semAt_some
theorem results_cell2 {fn:Func} {p q:Tmp} (h:fn.results=#[.cell p 3,.cell q 35]) {tmps:Array Value} {w:World} {b c:Nat} {x y:Int} (hp:tmps.getD p undef=.pointer (some ⟨b,0,none⟩)) (hq:tmps.getD q undef=.pointer (some ⟨c,0,none⟩))
 (hx:w.cell? ⟨b,0,none⟩=some (.int .i64 x)) (hy:w.cell? ⟨c,0,none⟩=some (.int .i64 y)) :
 (results fn tmps).run Tryz.prog w=.ok (.tuple #[.int .i64 x,.int .i64 y]) w:=by
 have i3:∀ w:World,(isAgg 3).run Tryz.prog w=.ok false w:=fun w=>by kernel_rfl
 have i35:∀ w:World,(isAgg 35).run Tryz.prog w=.ok false w:=fun w=>by kernel_rfl
 simp only [Array.getD_eq_getD_getElem?] at hp hq
 simp only [results,h]
 simp [go_sem,loadVar,i3,i35,hp,hq,hx,hy]
structure KB (w W:World) (vl:Value) (x y:Int):Prop where
 B:Below w.heap.size w W
 L:Blk W (w.heap.size+1+1) 34 #[vl]
 R:Blk W (w.heap.size+1+1+1) 3 #[.int .i64 x]
 E:Blk W (w.heap.size+1+1+1+1) 35 #[.int .i64 y]
theorem KB.step {w W W':World} {vl:Value} {x y:Int} (h:KB w W vl x y) (hb:Below W.heap.size W W'):KB w W' vl x y:=
 ⟨h.B.trans (hb.mono h.B.size),h.L.below hb h.L.lt,h.R.below hb h.R.lt,h.E.below hb h.E.lt⟩
theorem KB.put {w W:World} {vl:Value} {x y:Int} (h:KB w W vl x y) (x2 y2:Int):KB w ((W.setCell ⟨w.heap.size+1+1+1,0,none⟩ (.int .i64 x2)).setCell ⟨w.heap.size+1+1+1+1,0,none⟩ (.int .i64 y2)) vl x2 y2:=by
 have ho:∀ k,k≠w.heap.size+1+1+1→k≠w.heap.size+1+1+1+1→((W.setCell ⟨w.heap.size+1+1+1,0,none⟩ (.int .i64 x2)).setCell ⟨w.heap.size+1+1+1+1,0,none⟩ (.int .i64 y2)).heap[k]?=W.heap[k]?:=fun k h1 h2=>(Below.heap_setCell _ _ _ _ h2).trans (Below.heap_setCell _ _ _ _ h1)
 refine ⟨(h.B.setCell (p:=⟨w.heap.size+1+1+1,0,none⟩) (by show _≤w.heap.size+1+1+1;omega) _).setCell (p:=⟨w.heap.size+1+1+1+1,0,none⟩) (by show _≤w.heap.size+1+1+1+1;omega) _,(ho _ (by omega) (by omega)).trans h.L,?_,?_⟩
 · exact (Below.heap_setCell _ _ _ _ (show w.heap.size+1+1+1≠w.heap.size+1+1+1+1 by omega)).trans (Blk.set_ h.R 0 (.int .i64 x2))
 · exact Blk.set_ (show Blk (W.setCell ⟨w.heap.size+1+1+1,0,none⟩ (.int .i64 x2)) (w.heap.size+1+1+1+1) 35 #[.int .i64 y] from (Below.heap_setCell _ _ _ _ (show w.heap.size+1+1+1+1≠w.heap.size+1+1+1 by omega)).trans h.E) 0 (.int .i64 y2)
theorem KB.start (w:World) (o1 o2:Obj) (vl:Value):KB w (((((w.alloc o1).alloc o2).alloc (.cells #[vl] 34)).alloc (.cells #[.int .i64 0] 3)).alloc (.cells #[.int .i64 0] 35)) vl 0 0:=by
 have hb:Below w.heap.size w ((w.alloc o1).alloc o2):=(below_new w o1).alloc (by simp) o2
 have e2:((w.alloc o1).alloc o2).heap.size=w.heap.size+1+1:=by simp
 generalize (w.alloc o1).alloc o2=W2 at *
 have e3:(W2.alloc (.cells #[vl] 34)).heap.size=w.heap.size+1+1+1:=by simp [e2]
 have e4:((W2.alloc (.cells #[vl] 34)).alloc (.cells #[.int .i64 0] 3)).heap.size=w.heap.size+1+1+1+1:=by simp [e2]
 have k1:=Blk.new W2 34 #[vl]
 have k2:=Blk.new (W2.alloc (.cells #[vl] 34)) 3 #[.int .i64 0]
 have k3:=Blk.new ((W2.alloc (.cells #[vl] 34)).alloc (.cells #[.int .i64 0] 3)) 35 #[.int .i64 0]
 rw [e2] at k1
 rw [e3] at k2
 rw [e4] at k3
 exact ⟨((hb.alloc (by omega) _).alloc (by omega) _).alloc (by omega) _,(k1.below (below_new _ _) k1.lt).below (below_new _ _) (k1.below (below_new _ _) k1.lt).lt,k2.below (below_new _ _) k2.lt,k3⟩
theorem lab1_any (z:Int) (W:World):Calls Tryz.prog 112 #[.int .i64 z] W fun e w'=>e=.returned (.bool (!win z 0 1000000000000000))∧Below W.heap.size W w':=by
 have HC:Hid (∀ W,Calls Tryz.prog 94 #[.int .i64 z,.int .i64 0,.int .i64 1000000000000000] W fun e w'=>e=.returned (.bool (win z 0 1000000000000000))∧W=w'):=(show ∀ W,_ from fun W=>within44_any _ _ _ W)
 go_enter Tryz.func112,Tryz.ntmps112
 go_wp2_with fail
 refine (HC.out _).mono ?_
 rintro e w3 ⟨rfl,hw3⟩
 subst hw3
 go_wp2_with fail
 go_ret
 exact ⟨rfl,Below.refl _ _⟩
def claA (f:Fnt) (r:Rls) (ws:List PWord) (L:List Int):Int × Int:=if paErr f r ws≠0 then (0,paErr f r ws) else labE (tab f r ws) (places ws).length L
theorem labE_w {t:Tb} {n:Nat} {L:List Int} (h:L.length=n) (hw:lbW L=true):labE t n L=(0,2):=by
 unfold labE
 rw [if_neg (fun h2=>h2 h),if_pos hw]
theorem lbW_idx (L:List Int):decide (0≤idx (fun j=>!win (gz L j) 0 1000000000000000) L.length)=lbW L:=by
 rw [Bool.eq_iff_iff,decide_eq_true_iff,idx_iff]
 unfold lbW
 rw [List.any_eq_true]
 constructor
 · rintro ⟨j,hj,hp⟩
   exact ⟨j,List.mem_range.2 hj,hp⟩
 · rintro ⟨j,hj,hp⟩
   exact ⟨j,List.mem_range.1 hj,hp⟩
theorem labs_in {L:List Int} {q:Nat} (h:lbW L=false) (hq:q < L.length):0≤gz L q∧gz L q≤1000000000000000:=by
 apply win_t.1
 cases hw:win (gz L q) 0 1000000000000000 with
 | true=>rfl
 | false=>
  have h2:lbW L=true:=any_hit (k:=q) hq (by rw [hw];rfl)
  rw [h2] at h
  cases h
def GdP (t:Tb) (L:List Int) (k:Nat) (l:List Nat):Prop:=∀ j,j ∈ l→lbR t L k j=false
structure LW (wm W:World) (Ds:List Nat):Prop where
 B:Below wm.heap.size wm W
 nd:Ds.Nodup
 mks:∀ D,D ∈ Ds→wm.heap.size≤D∧W.heap[D]?=some (.deferred (some []))
theorem LW.below {wm W W':World} {Ds:List Nat} (s:LW wm W Ds) (hb:Below W.heap.size W W'):LW wm W' Ds:=
 ⟨s.B.trans (hb.mono s.B.size),s.nd,fun D hD=>⟨(s.mks D hD).1,(hb.block D (Array.getElem?_eq_some_iff.1 (s.mks D hD).2).1).trans (s.mks D hD).2⟩⟩
theorem KB.low {w W W':World} {B:Nat} {vl:Value} {x y:Int} (h:KB w W vl x y) (hb:Below B W W') (hB:w.heap.size+1+1+1+1 < B):KB w W' vl x y:=
 ⟨h.B.trans (hb.mono (by omega)),(hb.block _ (by omega)).trans h.L,(hb.block _ (by omega)).trans h.R,(hb.block _ hB).trans h.E⟩
theorem checkLabels_any (f:Fnt) (v:Value) (r:Rls) (ws:List PWord) (vw:Value) (L:List Int) (vl:Value) (w:World) (hv:SoV w f.sorts v) (hn:f.name.size≤9223372036854775807) (hw:WoV w ws vw) (hl:IV w L vl) (hlm:L.length≤1000000) :
 Calls Tryz.prog 56 #[.agg (fcs f v),.agg (rcs r),vw,vl] w (TwoPost (claA f r ws L) w):=by
 have HT:=Lib.hid (UB.start (r:=r) hv hw)
 have HOP:=Lib.hid (fun W (h1:SoV W f.sorts v) (h2:WoV W ws vw)=>open_any f v r ws vw W h1 hn h2)
 have HPO:Hid (paErr f r ws=0→POk f r ws):=paErr_ok
 have HP:Hid (∀ W x y,(x,y)=claA f r ws L→KB w W vl x y→(W.cell? ⟨w.heap.size+1+1+1,0,none⟩=some (.int .i64 x)∧W.cell? ⟨w.heap.size+1+1+1+1,0,none⟩=some (.int .i64 y))∧TwoPost (claA f r ws L) w (.returned (.tuple #[.int .i64 x,.int .i64 y])) W):=(show ∀ W x y,_ from fun W x y e h=>⟨⟨h.R.cell 0,h.E.cell 0⟩,by rw [←e];exact ⟨rfl,h.B⟩⟩)
 obtain ⟨Av,cv,rfl⟩:=hv.shape
 obtain ⟨Aw,cw,rfl,-⟩:=hw.shape
 obtain ⟨Al,bl,ol,cl,rfl,hA,hz,-,-⟩:=hl.open
 have HA:=Lib.hid hA
 have HZ:=Lib.hid hz
 clear hv hw hn hl hA hz
 generalize hLN:L.length=NL at *
 have HLN:=Lib.hid hLN
 clear hLN
 refine (callsIn_wide (n:=10)).1 ?_
 refine callsIn_of_wp_marks Tryz.func56 rfl trivial ?_ rfl
 simp only [Tryz.ntmps56,List.size_toArray,List.length_cons,List.length_nil,Nat.reduceAdd,Nat.reduceSub,Array.replicate_succ,Array.replicate_zero,List.push_toArray,List.append_toArray,List.nil_append,List.cons_append]
 refine wpIn_wide.2 ?_
 have HU:Hid (UB w (((((w.alloc (.cells (fcs f (.slice Av f.sorts.length cv)) 24)).alloc (.cells (rcs r) 26)).alloc (.cells #[.slice Al NL cl] 34)).alloc (.cells #[.int .i64 0] 3)).alloc (.cells #[.int .i64 0] 35)) f (.slice Av f.sorts.length cv) r ws (.slice Aw ws.length cw)):=
  ((HT.out.step (below_new _ _)).step (below_new _ _)).step (below_new _ _)
 have HKB:=Lib.hid (KB.start w (.cells (fcs f (.slice Av f.sorts.length cv)) 24) (.cells (rcs r) 26) (.slice Al NL cl))
 have g0:=HT.out.T.F.cell 0
 have g1:=HT.out.T.F.cell 1
 have g2:=HT.out.T.F.cell 2
 have q0:=HT.out.T.R.cell 0
 have q1:=HT.out.T.R.cell 1
 have q2:=HT.out.T.R.cell 2
 have q3:=HT.out.T.R.cell 3
 have q4:=HT.out.T.R.cell 4
 have q5:=HT.out.T.R.cell 5
 have q6:=HT.out.T.R.cell 6
 have q7:=HT.out.T.R.cell 7
 go_wp2_with fail
 generalize (((((w.alloc (.cells (fcs f (.slice Av f.sorts.length cv)) 24)).alloc (.cells (rcs r) 26)).alloc (.cells #[.slice Al NL cl] 34)).alloc (.cells #[.int .i64 0] 3)).alloc (.cells #[.int .i64 0] 35))=W0 at *
 refine (HOP.out _ HU.out.T.S HU.out.V).mono ?_
 rintro e W1 ⟨hb1,⟨hpe,rfl⟩ | ⟨hpe,pb,vp,rfl,hpb,hpa⟩⟩
 · have hpb:=bne_t hpe
   have HF:Hid (((0:Int),paErr f r ws)=claA f r ws L):=by show _=_;unfold claA;rw [if_pos hpe]
   have HK2:=Lib.hid (HKB.out.step hb1)
   have c3:=HK2.out.R.frozen 0
   have c4:=HK2.out.E.frozen 0
   have c3v:=HK2.out.R.cell 0
   have c4v:=HK2.out.E.cell 0
   have c3l:=HK2.out.R.lt
   have c4l:=HK2.out.E.lt
   clear hpe hb1
   go_wp2_with fail
   have hq:=HP.out _ _ _ HF.out (HK2.out.put 0 (paErr f r ws))
   exact ⟨_,results_cell2 rfl rfl rfl hq.1.1 hq.1.2,hq.2⟩
 have HK2:=Lib.hid (HKB.out.step hb1)
 have HOK:=Lib.hid (HPO.out hpe)
 have HPE:=Lib.hid hpe
 have HPA:=Lib.hid hpa
 have hm:=HOK.out.m
 have hpos:=places_pos ws
 have HTB:=Lib.hid (tab_ok (ws:=ws) HOK.out.ru hm)
 obtain ⟨Ap,cp,rfl,-,-⟩:=hpa.L.shape
 have z12:=hpa.P.cell 12
 have zl:=hpa.P.lt
 have c2:=HK2.out.L.cell 0
 have c2l:=HK2.out.L.lt
 clear hpe hb1 hpa HOP HPO g0 g1 g2 q0 q1 q2 q3 q4 q5 q6 q7 HT HU HKB
 generalize hN:(places ws).length=N at *
 have HN:=Lib.hid hN
 clear hN
 go_wp2_with fail
 go_quiet (fail)
 have HB3:=below_drewN W1 nq
 have HK3:=Lib.hid (HK2.out.step HB3)
 have HPA3:=Lib.hid (HPA.out.step HB3)
 clear z12 zl c2 c2l HK2 HPA HB3
 generalize W1.drewN nq=W2 at *
 by_cases hlen:NL=N
 · obtain rfl:N=NL:=hlen.symm
   obtain ⟨hAl,hbl⟩:=HA.out hpos
   subst hAl
   have HCF:Hid (Calls Tryz.prog 111 #[.slice (some ⟨bl,ol,none⟩) N cl,.func (.func 112) #[] #[]] W2 fun e w'=>e=.returned (.bool (lbW L))∧Below W2.heap.size W2 w'):=
    (containsI_any 112 #[] (some ⟨bl,ol,none⟩) bl ol N cl L (fun z=>!win z 0 1000000000000000) W2 (fun W j hW hj=>by
     refine (lab1_any _ W).mono ?_
     rintro e w' ⟨rfl,hb⟩
     exact ⟨rfl,hW.trans (hb.mono hW.size)⟩) HLN.out.symm hlm (HA.out.mono HK3.out.B.size) (enters_of Tryz.func112 (by kernel_rfl) rfl)
     (fun j hj=>(HK3.out.B.cell (p:=⟨bl,ol+j,none⟩) hbl).trans (HZ.out j hj))).mono (fun e w' h=>⟨by rw [h.1,←HLN.out,lbW_idx],h.2⟩)
   have c2:=HK3.out.L.cell 0
   have c2l:=HK3.out.L.lt
   go_wp2_with fail
   refine HCF.out.mono ?_
   rintro e W3 ⟨rfl,hb3⟩
   have HK4:=Lib.hid (HK3.out.step hb3)
   have HPA4:=Lib.hid (HPA3.out.step hb3)
   clear HCF HPA3 c2 c2l hb3 HK3
   cases hlw:lbW L with
   | true=>
    have HF:Hid (((0:Int),(2:Int))=claA f r ws L):=by show _=_;unfold claA;rw [if_neg (fun h=>h HPE.out),HN.out,labE_w HLN.out hlw]
    clear hlw
    have c3:=HK4.out.R.frozen 0
    have c4:=HK4.out.E.frozen 0
    have c3v:=HK4.out.R.cell 0
    have c4v:=HK4.out.E.cell 0
    have c3l:=HK4.out.R.lt
    have c4l:=HK4.out.E.lt
    go_wp2_with fail
    have hq:=HP.out _ _ _ HF.out (HK4.out.put 0 2)
    exact ⟨_,results_cell2 rfl rfl rfl hq.1.1 hq.1.2,hq.2⟩
   | false=>
    have HWA:=Lib.hid hlw
    have HWG:Hid (∀ q,q < N→0≤gz L q∧gz L q≤1000000000000000):=(show ∀ q,_ from fun q hq=>labs_in hlw (by rw [HLN.out];exact hq))
    clear hlw
    have z0:=(HK4.out.B.cell (p:=⟨bl,ol+0,none⟩) hbl).trans (HZ.out 0 (by rw [HLN.out];exact hpos))
    rw [Nat.add_zero] at z0
    have hbl3:bl < W3.heap.size:=Nat.lt_of_lt_of_le hbl HK4.out.B.size
    have c2:=HK4.out.L.cell 0
    have c2l:=HK4.out.L.lt
    have hNz:(0:Int) < (N:Int):=by omega
    by_cases hf:gz L 0=0
    · have HF0:=Lib.hid hf
      have hfb:(gz L 0 != 0)=false:=by rw [hf];rfl
      clear hf
      go_wp2_with fail
      have HK4l:=HK4.out.E.lt
      have HBD:Hid (∀ k j d,k < N→j < N→tab f r ws k j=some d→gz L k+(d:Int) < gz L j→((0:Int),(22:Int))=claA f r ws L):=(show ∀ k j d,_ from fun k j d hk hj hd hlt=>by
       unfold claA
       rw [if_neg (fun h=>h HPE.out),HN.out]
       refine (labE_bad HLN.out HWA.out HF0.out hk hj ?_).symm
       show (match tab f r ws k j with | none=>false | some d=>decide (gz L k+(d:Int) < gz L j))=true
       rw [hd]
       exact decide_eq_true hlt)
      have HGD:Hid (∀ k j d,tab f r ws k j=some d→¬gz L k+(d:Int) < gz L j→lbR (tab f r ws) L k j=false):=(show ∀ k j d,_ from fun k j d hd hlt=>by
       show (match tab f r ws k j with | none=>false | some d=>decide (gz L k+(d:Int) < gz L j))=false
       rw [hd]
       exact decide_eq_false hlt)
      have HNO:Hid (∀ k j,tab f r ws k j=none→lbR (tab f r ws) L k j=false):=(show ∀ k j,_ from fun k j hd=>by
       show (match tab f r ws k j with | none=>false | some d=>decide (gz L k+(d:Int) < gz L j))=false
       rw [hd])
      have HCL:Hid (∀ W,Below W3.heap.size W3 W→∀ j,j < N→bl < W.heap.size∧W.cell? ⟨bl,ol+j,none⟩=some (.int .i64 (gz L j))):=(show ∀ W,_ from fun W hW j hj=>
       ⟨Nat.lt_of_lt_of_le hbl3 hW.size,(hW.cell (p:=⟨bl,ol+j,none⟩) hbl3).trans ((HK4.out.B.cell (p:=⟨bl,ol+j,none⟩) hbl).trans (HZ.out j (by rw [HLN.out];exact hj)))⟩)
      clear hfb z0 c2 c2l
      refine wp_loop_ghost_k (fun gg a' wr=>∃ (u44 u12 u13 u45 u46 u47 u48 u49 u50 u51 u52 u53 u54 u55 u56 u57 u58 u59 u60 u61 u62 u63 u64:Value) (dl:List Deferred),(∃ (k:Nat) (Ds:List Nat),k≤N∧N-k≤gg∧u44=.int .i64 (k:Int)∧dl=Ds.map mrk∧Hid (LW W3 wr Ds)∧Hid (∀ i j,i < k→j < N→lbR (tab f r ws) L i j=false))∧a'={ tmps:=#[.agg #[.string f.name,.int .i64 f.body,.slice Av f.sorts.length cv],.agg #[.int .i64 r.measure,.int .i64 r.indent,.int .i64 r.least,.int .i64 r.most,.int .i64 r.gap,.int .i64 r.hyphen,.int .i64 r.single,.int .i64 r.double],.slice Aw ws.length cw,.slice (some ⟨bl,ol,none⟩) N cl,.pointer (some ⟨w.heap.size,0,none⟩),.pointer (some ⟨w.heap.size+1,0,none⟩),undef,.pointer (some ⟨w.heap.size+1+1,0,none⟩),.pointer (some ⟨w.heap.size+1+1+1,0,none⟩),.pointer (some ⟨w.heap.size+1+1+1+1,0,none⟩),.pointer (some ⟨pb,0,none⟩),.int .i64 0,u12,u13,.tuple #[.pointer (some ⟨pb,0,none⟩),.int .i64 0],.agg #[.string f.name,.int .i64 f.body,.slice Av f.sorts.length cv],.agg #[.int .i64 r.measure,.int .i64 r.indent,.int .i64 r.least,.int .i64 r.most,.int .i64 r.gap,.int .i64 r.hyphen,.int .i64 r.single,.int .i64 r.double],.slice Aw ws.length cw,.tuple #[.pointer (some ⟨pb,0,none⟩),.int .i64 0],.pointer (some ⟨pb,0,none⟩),.int .i64 0,.bool false,.int .i64 0,.bool false,undef,.bool false,.slice (some ⟨bl,ol,none⟩) N cl,.int .i64 (N:Int),.pointer (some ⟨pb,0,none⟩),.pointer (some ⟨pb,0,none⟩),.pointer (some ⟨pb,12,none⟩),.slice Ap N cp,.int .i64 (N:Int),.bool false,.bool false,.slice (some ⟨bl,ol,none⟩) N cl,.bool false,.bool false,.slice (some ⟨bl,ol,none⟩) N cl,.pointer (some ⟨bl,ol,none⟩),.int .i64 (gz L 0),.bool false,.slice (some ⟨bl,ol,none⟩) N cl,.int .i64 (N:Int),u44,u45,u46,u47,u48,u49,u50,u51,u52,u53,u54,u55,u56,u57,u58,u59,u60,u61,u62,u63,u64,undef,undef,undef,undef,undef],defers:=dl }) N ?_ ?_
      · (repeat apply Exists.intro)
        refine ⟨?_,rfl⟩
        exact ⟨0,[],by omega,by omega,rfl,rfl,⟨Below.refl _ _,List.nodup_nil,fun D hD=>(by cases hD)⟩,fun i j hi=>by omega⟩
      intro gk _ wr hinv
      obtain ⟨u44,u12,u13,u45,u46,u47,u48,u49,u50,u51,u52,u53,u54,u55,u56,u57,u58,u59,u60,u61,u62,u63,u64,dl,hrel,ha⟩:=hinv
      subst ha
      intro _ _ _ _
      obtain ⟨k,Ds,hk,hgk,rfl,rfl,HS,HR⟩:=hrel
      by_cases hlt:k < N
      · have hltz:(k:Int) < (N:Int):=by omega
        go_wp2_with ((go_at_call 113;(with_reducible refine (steps_any _ _ _).mono ?_);rintro e w5 ⟨rfl,rfl⟩))
        have hb3:Below wr.heap.size wr (((wr.alloc (.cells #[.int .i64 (k:Int)] 3)).alloc (.cells #[.pointer (some ⟨pb,0,none⟩)] 133)).alloc (.cells #[.int .i64 (k:Int)] 3)):=((below_new wr _).alloc (by simp) _).alloc (by simp;omega) _
        have HSW:Hid (SW W3 (((wr.alloc (.cells #[.int .i64 (k:Int)] 3)).alloc (.cells #[.pointer (some ⟨pb,0,none⟩)] 133)).alloc (.cells #[.int .i64 (k:Int)] 3)) (wr.heap.size+1+1) (wr.heap.size+1) k pb):=by
         refine ⟨HS.out.B.trans (hb3.mono HS.out.B.size),?_,?_,by simp,by simp⟩ <;> simp [go_sem]
        generalize hW0:(((wr.alloc (.cells #[.int .i64 (k:Int)] 3)).alloc (.cells #[.pointer (some ⟨pb,0,none⟩)] 133)).alloc (.cells #[.int .i64 (k:Int)] 3))=W0 at *
        refine (wpIn_wide (n:=10)).1 ?_
        refine wpIn_rangeFunc_ownH rfl (by omega:1≤10) (gf:=149) (lb:=#[.pointer (some ⟨wr.heap.size+1+1,0,none⟩),.pointer (some ⟨wr.heap.size+1,0,none⟩)]) rfl trivial (enters_of Tryz.func149 (by kernel_rfl) rfl)
         (steps_stops f _ r ws _ _ pb k (wr.heap.size+1+1) (wr.heap.size+1) W3 W0 HPA4.out HOK.out (by rw [HN.out];exact hlt) HSW.out 9 (by omega)) kpS_t ?hKb (Below.refl _ _) (fun _=>rfl)
         (fun pre W=>LW W3 W Ds∧W.cell? ⟨wr.heap.size,0,none⟩=some (.int .i64 (k:Int))∧W0.heap.size≤W.heap.size∧GdP (tab f r ws) L k (pre.map Subtype.val))
         (fun c _ W=>c=.ret∧KB w W (.slice (some ⟨bl,ol,none⟩) N cl) 0 22∧W0.heap.size≤W.heap.size∧(∀ D,D ∈ Ds→W.heap[D]?=some (.deferred (some [])))∧((0:Int),(22:Int))=claA f r ws L) ?hI ?hIx ?h0 ?Ax ?hAx ?assign ?body ?done ?stop
        case hKb=>
         intro W l o o' hl ho hc hw
         have hwz:=HS.out.B.size
         have hz0:=hb3.size
         have hsz:=HSW.out.bx
         have hsz2:=HSW.out.bp
         exact ⟨belowK_b (w:=W3) (Nat.le_refl _) W l o o' (by omega) ho hc hw,World.putObj_heap_other (by omega),World.putObj_heap_other (by omega)⟩
        case h0=>exact ⟨HS.out.below hb3,by rw [←hW0];simp [go_sem],Nat.le_refl _,(show GdP _ _ _ [] from fun j hj=>by cases hj)⟩
        case hI=>
         intro s W W' row hs hg hr
         have hwz:=HS.out.B.size
         have hz0:=hb3.size
         have hfl:=HSW.out.bp
         have hne:∀ q,q < W0.heap.size→some q≠row:=fun q hq e=>by have:=(hr q e.symm).1;omega
         have hz1:=hs.1.B.size
         refine ⟨⟨hs.1.B.grown hg hz1 (fun q e=>by have:=(hr q e).1;omega),hs.1.nd,fun D hD=>?_⟩,hg.cell hs.2.1 (hne wr.heap.size (by omega)),Nat.le_trans hs.2.2.1 hg.size,hs.2.2.2⟩
         have h1:=hs.1.mks D hD
         have h2:=(Array.getElem?_eq_some_iff.1 (HS.out.mks D hD).2).1
         exact ⟨h1.1,(hg.block D (Array.getElem?_eq_some_iff.1 h1.2).1 (hne D (by omega))).trans h1.2⟩
        case hIx=>
         rintro c s W W' row ⟨rfl,hk2,hsz,hm,he⟩ hg hr
         have hwz:=HS.out.B.size
         have hz0:=hb3.size
         have hk4:=HK4.out.B.size
         have hne:∀ q,q < W0.heap.size→some q≠row:=fun q hq e=>by have:=(hr q e.symm).1;omega
         refine ⟨rfl,⟨hk2.B.grown hg hk2.B.size (fun q e=>by have:=(hr q e).1;omega),hk2.L.grown hg (hne _ (by omega)),hk2.R.grown hg (hne _ (by omega)),hk2.E.grown hg (hne _ (by omega))⟩,Nat.le_trans hsz hg.size,fun D hD=>?_,he⟩
         have h2:=(Array.getElem?_eq_some_iff.1 (HS.out.mks D hD).2).1
         have h1:=hm D hD
         exact (hg.block D (Array.getElem?_eq_some_iff.1 h1).1 (hne D (by omega))).trans h1
        case stop=>
         rintro D c pre W hD _ ⟨rfl,hk2,hsz,hm,he⟩ hK
         have hz0:=hb3.size
         have hDs:D ∉ Ds:=fun hm=>by
          have h2:=(Array.getElem?_eq_some_iff.1 (HS.out.mks D hm).2).1
          omega
         have hlo:∀ D',D' ∈ D :: Ds→W3.heap.size≤D':=fun D' hD'=>by
          rcases List.mem_cons.1 hD' with e | e
          · have:=HS.out.B.size;omega
          · exact (HS.out.mks D' e).1
         refine wpIn_wide.2 ?_
         go_wp2_with fail
         refine leaves_marks (by simp) (D :: Ds) _ (List.nodup_cons.2 ⟨hDs,HS.out.nd⟩) (fun D' hD'=>by
          rcases List.mem_cons.1 hD' with e | e
          · subst e;exact hK
          · exact hm D' e) (fun W' hW'=>?_)
         have hq:=HP.out W' 0 22 he (hk2.low (hW'.below hlo) HK4l)
         exact ⟨_,results_cell2 rfl rfl rfl hq.1.1 hq.1.2,hq.2⟩
        case done=>
         rintro D xs W hD hxs ⟨hws,hc4,-,hal⟩ hK
         have hDs:D ∉ Ds:=fun hm=>by
          have h2:=(Array.getElem?_eq_some_iff.1 (HS.out.mks D hm).2).1
          have:=hb3.size
          omega
         have HR2:Hid (∀ i j,i < k+1→j < N→lbR (tab f r ws) L i j=false):=(show ∀ i j,_ from fun i j hi hj=>by
          by_cases e:i=k
          · rw [e]
            cases hd:tab f r ws k j with
            | none=>exact HNO.out k j hd
            | some d=>
             have hup:=HTB.out.up hd
             refine hal j ?_
             rw [hxs,HN.out]
             exact stp_mem.2 ⟨hup.1,by omega,by rw [hd];rfl⟩
          · exact HR.out i j (by omega) hj)
         have HWS:Hid (LW W3 W (D :: Ds)):=⟨hws.B,List.nodup_cons.2 ⟨hDs,hws.nd⟩,fun D' hD'=>(by
          rcases List.mem_cons.1 hD' with e | e
          · subst e;exact ⟨by have:=HS.out.B.size;have:=hb3.size;omega,hK⟩
          · exact hws.mks D' e)⟩
         clear hws hc4 hxs hal
         go_wp2_with fail
         go_roundg (N-(k+1))
         case measure=>omega
         case rel=>exact ⟨k+1,D :: Ds,by omega,by omega,by go_num,rfl,HWS.out,HR2.out⟩
        case Ax=>
         exact fun x a' W=>∃ Bx,Blk W Bx 172 #[.int .i64 (k:Int),.int .i64 (x.1:Int),.int .i64 (((tab f r ws k x.1).getD 0:Nat):Int)]∧a'={ tmps:=#[.agg #[.string f.name,.int .i64 f.body,.slice Av f.sorts.length cv],.agg #[.int .i64 r.measure,.int .i64 r.indent,.int .i64 r.least,.int .i64 r.most,.int .i64 r.gap,.int .i64 r.hyphen,.int .i64 r.single,.int .i64 r.double],.slice Aw ws.length cw,.slice (some ⟨bl,ol,none⟩) N cl,.pointer (some ⟨w.heap.size,0,none⟩),.pointer (some ⟨w.heap.size+1,0,none⟩),undef,.pointer (some ⟨w.heap.size+1+1,0,none⟩),.pointer (some ⟨w.heap.size+1+1+1,0,none⟩),.pointer (some ⟨w.heap.size+1+1+1+1,0,none⟩),.pointer (some ⟨pb,0,none⟩),.int .i64 0,.pointer (some ⟨wr.heap.size,0,none⟩),.pointer (some ⟨Bx,0,none⟩),.tuple #[.pointer (some ⟨pb,0,none⟩),.int .i64 0],.agg #[.string f.name,.int .i64 f.body,.slice Av f.sorts.length cv],.agg #[.int .i64 r.measure,.int .i64 r.indent,.int .i64 r.least,.int .i64 r.most,.int .i64 r.gap,.int .i64 r.hyphen,.int .i64 r.single,.int .i64 r.double],.slice Aw ws.length cw,.tuple #[.pointer (some ⟨pb,0,none⟩),.int .i64 0],.pointer (some ⟨pb,0,none⟩),.int .i64 0,.bool false,.int .i64 0,.bool false,undef,.bool false,.slice (some ⟨bl,ol,none⟩) N cl,.int .i64 (N:Int),.pointer (some ⟨pb,0,none⟩),.pointer (some ⟨pb,0,none⟩),.pointer (some ⟨pb,12,none⟩),.slice Ap N cp,.int .i64 (N:Int),.bool false,.bool false,.slice (some ⟨bl,ol,none⟩) N cl,.bool false,.bool false,.slice (some ⟨bl,ol,none⟩) N cl,.pointer (some ⟨bl,ol,none⟩),.int .i64 (gz L 0),.bool false,.slice (some ⟨bl,ol,none⟩) N cl,.int .i64 (N:Int),.int .i64 (k:Int),.bool true,.int .i64 (k:Int),.pointer (some ⟨pb,0,none⟩),.int .i64 (k:Int),.func (.func 149) #[] #[.pointer (some ⟨wr.heap.size+1+1,0,none⟩),.pointer (some ⟨wr.heap.size+1,0,none⟩)],.agg #[.int .i64 (k:Int),.int .i64 (x.1:Int),.int .i64 (((tab f r ws k x.1).getD 0:Nat):Int)],u51,u52,u53,u54,u55,u56,u57,u58,u59,u60,u61,u62,u63,u64,undef,undef,undef,undef,undef],defers:=[] }
        case hAx=>
         rintro x a' _ X Y row ⟨Bx,h2,h3⟩ hg hr
         refine ⟨Bx,Blk.grown h2 hg (fun e=>?_),h3⟩
         obtain ⟨_,o,ho,hc⟩:=hr Bx e.symm
         have h4:X.heap[Bx]?=_:=h2
         rw [h4] at ho
         cases ho
         cases hc
        case assign=>
         rintro l pre x W K ⟨hws,hc4,hwl,hal⟩ hK
         have hwz:=HS.out.B.size
         have hz0:=hb3.size
         have hz1:=hws.B.size
         gi_wp2
         have hsz:=HSW.out.bx
         have hsz2:=HSW.out.bp
         have hbn:=below_new W (.cells #[.int .i64 (k:Int),.int .i64 (x.1:Int),.int .i64 (((tab f r ws k x.1).getD 0:Nat):Int)] 172)
         have hne:∀ q,q < W.heap.size→(W.alloc (.cells #[.int .i64 (k:Int),.int .i64 (x.1:Int),.int .i64 (((tab f r ws k x.1).getD 0:Nat):Int)] 172)).heap[q]?=W.heap[q]?:=fun q hq=>hbn.block q hq
         exact hK _ _ ((KeepsOthers.alloc _ _).from _) ⟨hbn.mono hz1,hne _ (by omega),hne _ (by omega)⟩ ⟨hws.below hbn,(hbn.cell (p:=⟨wr.heap.size,0,none⟩) (by show wr.heap.size < _;omega)).trans hc4,by have:=hbn.size;omega,hal⟩ ⟨W.heap.size,Blk.new W _ _,rfl⟩
        case body=>
         rintro l pre x a' W hl ⟨rl,hrl⟩ ⟨hws,hc4,hwl,hal⟩ ⟨Bx,hbx,rfl⟩ hlen
         obtain ⟨j,hj⟩:=x
         obtain ⟨d,hd⟩:=Option.isSome_iff_exists.1 hj
         have hgd:(tab f r ws k j).getD 0=d:=by rw [hd];rfl
         have hup:=HTB.out.up hd
         have hdm:DMX=400200000:=rfl
         have HBD2:=Lib.hid (fun h=>HBD.out k j d hlt hup.2.1 hd h)
         have HGD2:=Lib.hid (fun h=>HGD.out k j d hd h)
         have HWS:=Lib.hid hws
         have HAL:=hal
         have x1:=hbx.cell 1
         have x2:=hbx.cell 2
         have xl:=hbx.lt
         have hKW:=HK4.out.low hws.B HK4l
         have hKW2:=Lib.hid hKW
         have c2:=hKW.L.cell 0
         have c2l:=hKW.L.lt
         have c3:=hKW.R.frozen 0
         have c4:=hKW.E.frozen 0
         have c3v:=hKW.R.cell 0
         have c4v:=hKW.E.cell 0
         have c3l:=hKW.R.lt
         have c4l:=hKW.E.lt
         obtain ⟨hblW,y0⟩:=HCL.out W hws.B k hlt
         obtain ⟨-,y1⟩:=HCL.out W hws.B j hup.2.1
         have g1:=HWG.out k hlt
         have g2:=HWG.out j hup.2.1
         dsimp only at x1 x2
         simp only [hgd] at x2 ⊢
         have hbl4:wr.heap.size < W.heap.size:=by have:=HSW.out.bp;omega
         have hjz:(j:Int) < (N:Int):=by omega
         have hwz:=HS.out.B.size
         have hz1:=hws.B.size
         have hz0:=hb3.size
         have hsz:=HSW.out.bx
         have hsz2:=HSW.out.bp
         clear hws hbx hd hKW hal
         generalize gz L k=xk at *
         generalize gz L j=xj at *
         have hmx:Tryz.prog.follows .mixedOrders=true:=by kernel_rfl
         gi_wp2
         refine quiet_round hmx (by kernel_rfl) (by kernel_rfl) ?_
         repeat (go_big_quiet_step (fail))
         refine wpQuiet_nil ?_
         rintro _ ⟨nq,rfl⟩
         by_cases hbad:xk+(d:Int) < xj
         · have HEQ:=Lib.hid (HBD2.out hbad)
           gi_wp2
           have ho:∀ q,q≠w.heap.size+1+1+1→q≠w.heap.size+1+1+1+1→(((W.drewN nq).setCell ⟨w.heap.size+1+1+1,0,none⟩ (.int .i64 0)).setCell ⟨w.heap.size+1+1+1+1,0,none⟩ (.int .i64 22)).heap[q]?=W.heap[q]?:=fun q h1 h2=>((Below.heap_setCell _ _ _ _ h2).trans (Below.heap_setCell _ _ _ _ h1)).trans rfl
           refine ⟨((((⟨Nat.le_refl _,fun _ _ h _=>h⟩:KeepsOthers W (W.drewN nq)).trans (KeepsOthers.setCell _ _ _)).trans (KeepsOthers.setCell _ _ _))).from _,rfl,(hKW2.out.step (below_drewN W nq)).put 0 22,?_,fun D hD=>?_,HEQ.out⟩
           · simp only [World.setCell,Array.size_modify]
             exact hwl
           · have:=(HWS.out.mks D hD).1
             exact (ho D (by omega) (by omega)).trans (HWS.out.mks D hD).2
         · have HL2:=Lib.hid (HGD2.out (by omega))
           gi_wp2
           have hb1:=below_drewN W nq
           refine ⟨⟨Nat.le_refl _,fun _ _ _ h _=>h⟩,⟨hb1.mono (by omega),rfl,rfl⟩,HWS.out.below hb1,hc4,hwl,?_⟩
           show GdP (tab f r ws) L k ((pre++[(⟨j,hj⟩:Al f r ws k)]).map Subtype.val)
           intro j' hj'
           rw [List.map_append,List.map_cons,List.map_nil] at hj'
           rcases List.mem_append.1 hj' with e | e
           · exact HAL j' e
           · rcases List.mem_singleton.1 e with rfl
             exact HL2.out
      · have hltz:¬(k:Int) < (N:Int):=by omega
        have HLC:=Lib.hid (last_any f _ r ws _ _ pb wr.drew (HPA4.out.step HS.out.B.drew) (by rw [HN.out];exact hm))
        rw [HN.out] at HLC
        have hKW:=HK4.out.low HS.out.B HK4l
        have hKW2:=Lib.hid hKW
        have c2:=hKW.L.cell 0
        have c2l:=hKW.L.lt
        have c3:=hKW.R.frozen 0
        have c4:=hKW.E.frozen 0
        have c3v:=hKW.R.cell 0
        have c4v:=hKW.E.cell 0
        have c3l:=hKW.R.lt
        have c4l:=hKW.E.lt
        obtain ⟨hblW,y0⟩:=HCL.out wr HS.out.B (N-1) (by omega)
        have HF:Hid ((gz L (N-1),(0:Int))=claA f r ws L):=by
         show _=_
         unfold claA
         rw [if_neg (fun h=>h HPE.out),HN.out,labE_good HLN.out HWA.out HF0.out (fun i j hi hj=>HR.out i j (by omega) hj)]
        obtain ⟨q,hq⟩:∃ q,N-1=q:=⟨_,rfl⟩
        have hqz:(q:Int) < (N:Int):=by omega
        rw [hq] at HLC y0 HF
        clear hKW hq
        generalize gz L q=xq at *
        go_wp2_with fail
        go_still_tail 5,(by kernel_rfl)
        still_call (HLC.out)
        repeat still_step
        try refine wpStill_nil ?_
        change wpList _ _ _ _ _ wr.drew
        have HS9:=Lib.hid (HS.out.below (Below.refl _ _).drew)
        have hK9:=HK4.out.low HS9.out.B HK4l
        have HK9:=Lib.hid hK9
        clear HLC c2 c2l c3 c4 c3v c4v c3l c4l hKW2
        have c3:=hK9.R.frozen 0
        have c4:=hK9.E.frozen 0
        have c3v:=hK9.R.cell 0
        have c4v:=hK9.E.cell 0
        have c3l:=hK9.R.lt
        have c4l:=hK9.E.lt
        clear hK9
        generalize wr.drew=w9 at *
        go_wp2_with fail
        have ho:∀ q,q≠w.heap.size+1+1+1→q≠w.heap.size+1+1+1+1→((w9.setCell ⟨w.heap.size+1+1+1,0,none⟩ (.int .i64 xq)).setCell ⟨w.heap.size+1+1+1+1,0,none⟩ (.int .i64 0)).heap[q]?=w9.heap[q]?:=fun q h1 h2=>(Below.heap_setCell _ _ _ _ h2).trans (Below.heap_setCell _ _ _ _ h1)
        refine leaves_marks (by simp) Ds _ HS9.out.nd (fun D hD=>by
         have:=(HS9.out.mks D hD).1
         exact (ho D (by omega) (by omega)).trans (HS9.out.mks D hD).2) (fun W' hW'=>?_)
        have hq:=HP.out W' xq 0 HF.out ((HK9.out.put xq 0).low (hW'.below (fun D hD=>(HS9.out.mks D hD).1)) HK4l)
        exact ⟨_,results_cell2 rfl rfl rfl hq.1.1 hq.1.2,hq.2⟩
    · have hfb:(gz L 0 != 0)=true:=bne_t hf
      have HF:Hid (((0:Int),(22:Int))=claA f r ws L):=by show _=_;unfold claA;rw [if_neg (fun h=>h HPE.out),HN.out,labE_first HLN.out HWA.out hf]
      clear hf
      have c3:=HK4.out.R.frozen 0
      have c4:=HK4.out.E.frozen 0
      have c3v:=HK4.out.R.cell 0
      have c4v:=HK4.out.E.cell 0
      have c3l:=HK4.out.R.lt
      have c4l:=HK4.out.E.lt
      generalize gz L 0=x0 at *
      go_wp2_with fail
      have hq:=HP.out _ _ _ HF.out (HK4.out.put 0 22)
      exact ⟨_,results_cell2 rfl rfl rfl hq.1.1 hq.1.2,hq.2⟩
 · have hlb:((NL:Int) != (N:Int))=true:=bne_t (by omega)
   have HF:Hid (((0:Int),(10:Int))=claA f r ws L):=by show _=_;unfold claA;rw [if_neg (fun h=>h HPE.out),HN.out,labE_len (by rw [HLN.out];exact hlen)]
   clear hlen
   have c3:=HK3.out.R.frozen 0
   have c4:=HK3.out.E.frozen 0
   have c3v:=HK3.out.R.cell 0
   have c4v:=HK3.out.E.cell 0
   have c3l:=HK3.out.R.lt
   have c4l:=HK3.out.E.lt
   go_wp2_with fail
   have hq:=HP.out _ _ _ HF.out (HK3.out.put 0 10)
   exact ⟨_,results_cell2 rfl rfl rfl hq.1.1 hq.1.2,hq.2⟩
end Go.Proofs.YtbnganlfelgogaaGreat
namespace Go.Proofs.YtbnganlfelgogaaGreat
open Go.RowKit
structure LY (w W:World) (f:Fnt) (v:Value) (r:Rls) (ws:List PWord) (vw:Value) (yb:Nat) (vf vg:Value):Prop where
 B:Below w.heap.size w W
 X:Blk W w.heap.size 29 (xcs f v r vw)
 Y:Blk W yb 29 (xcs f vf r vg)
 y:w.heap.size < yb
 S:SoV W f.sorts vf
 V:WoV W ws vg
theorem LY.step {w W W':World} {f:Fnt} {v:Value} {r:Rls} {ws:List PWord} {vw:Value} {yb:Nat} {vf vg:Value} (h:LY w W f v r ws vw yb vf vg) (hb:Below W.heap.size W W'):LY w W' f v r ws vw yb vf vg:=
 ⟨h.B.trans (hb.mono h.B.size),h.X.below hb h.X.lt,h.Y.below hb h.Y.lt,h.y,h.S.below hb,h.V.below hb⟩
def TruePost (w:World) (e:Ending) (w':World):Prop:=e=.returned (.bool true)∧Below w.heap.size w w'
theorem labels_any (f:Fnt) (v:Value) (r:Rls) (ws:List PWord) (vw:Value) (ls:List Int) (vl:Value) (w:World) (hv:SoV w f.sorts v) (hn:f.name.size≤9223372036854775807) (hw:WoV w ws vw) (hl:IV w ls vl) :
 Calls Tryz.prog 10 #[.agg (xcs f v r vw),vl] w (TruePost w):=by
 obtain ⟨Al,bl,ol,cl0,rfl,-,-,-,-⟩:=hl.open
 have HLV:=Lib.hid hl
 clear hl
 have hb0:=below_new w (.cells (xcs f v r vw) 29)
 have hk0:=Blk.new w 29 (xcs f v r vw)
 obtain ⟨A,c,rfl⟩:=hv.shape
 obtain ⟨Aw,cw,rfl,-⟩:=hw.shape
 have HV:=Lib.hid hv
 have HW:=Lib.hid hw
 have HN:=Lib.hid hn
 have HP:Hid (∀ W,Below w.heap.size w W→TruePost w (.returned (.bool true)) W):=(show ∀ W,_ from fun W hb=>⟨rfl,hb⟩)
 have HB0:=Lib.hid hb0
 have HK0:=Lib.hid hk0
 clear hv hw hn hb0 hk0
 go_enter Tryz.func10,Tryz.ntmps10
 go_wp2_with fail
 refine (awake4_any _).mono ?_
 rintro e w1 ⟨rfl,hb1⟩
 have HB1:=Lib.hid (HB0.out.trans (hb1.mono HB0.out.size))
 have HK:=Lib.hid (HK0.out.below hb1 HK0.out.lt)
 clear hb1 HB0 HK0
 have c0:=HK.out.cell 0
 have c1:=HK.out.cell 1
 have c2:=HK.out.cell 2
 have c3:=HK.out.cell 3
 have c4:=HK.out.cell 4
 have c5:=HK.out.cell 5
 have c6:=HK.out.cell 6
 have c7:=HK.out.cell 7
 have c8:=HK.out.cell 8
 have c9:=HK.out.cell 9
 have c10:=HK.out.cell 10
 have c11:=HK.out.cell 11
 have cl:=HK.out.lt
 have HWH:=Lib.hid (light_any f _ r ws _ w1 (HV.out.below HB1.out) HN.out (HW.out.below HB1.out))
 go_wp2_with fail
 refine HWH.out.mono ?_
 rintro e w2 ⟨b,rfl,hb,hb2⟩
 have HB2:=Lib.hid (HB1.out.trans (hb2.mono HB1.out.size))
 have HK2:=Lib.hid (HK.out.below hb2 HK.out.lt)
 clear hb2 c0 c1 c2 c3 c4 c5 c6 c7 c8 c9 c10 c11 cl HWH HK
 cases b with
 | false=>
  clear hb
  go_wp2_with fail
  go_ret
  exact HP.out _ HB2.out
 | true=>
 have HSM:=Lib.hid (hb rfl)
 have HK:=Lib.hid HK2.out
 clear hb HK2
 by_cases g1:90 < ls.length
 · have g1z:(90:Int) < ((ls.length:Nat):Int):=by omega
   go_wp2_with fail
   go_ret
   exact HP.out _ HB2.out
 have g1z:¬(90:Int) < ((ls.length:Nat):Int):=by omega
 have c0:=HK.out.cell 0
 have c1:=HK.out.cell 1
 have c2:=HK.out.cell 2
 have c3:=HK.out.cell 3
 have c4:=HK.out.cell 4
 have c5:=HK.out.cell 5
 have c6:=HK.out.cell 6
 have c7:=HK.out.cell 7
 have c8:=HK.out.cell 8
 have c9:=HK.out.cell 9
 have c10:=HK.out.cell 10
 have c11:=HK.out.cell 11
 have cl:=HK.out.lt
 have HOWN:=Lib.hid (own_any f _ r ws _ w2 (HV.out.below HB2.out) (HW.out.below HB2.out) HSM.out)
 go_wp2_with fail
 refine HOWN.out.mono ?_
 rintro e w3 ⟨vf,vg,rfl,hsf,hwg,hb3⟩
 obtain ⟨Af,cf,rfl⟩:=hsf.shape
 obtain ⟨Ag,cg,rfl,-⟩:=hwg.shape
 have HL:Hid (LY w (w3.alloc (.cells (xcs f (.slice Af f.sorts.length cf) r (.slice Ag ws.length cg)) 29)) f (.slice A f.sorts.length c) r ws (.slice Aw ws.length cw) w3.heap.size (.slice Af f.sorts.length cf) (.slice Ag ws.length cg)):=by
  have hbn:=below_new w3 (.cells (xcs f (.slice Af f.sorts.length cf) r (.slice Ag ws.length cg)) 29)
  have hx:=HK.out.below hb3 HK.out.lt
  exact ⟨(HB2.out.trans (hb3.mono HB2.out.size)).trans (hbn.mono (Nat.le_trans HB2.out.size hb3.size)),hx.below hbn hx.lt,Blk.new w3 29 _,hx.lt,hsf.below hbn,hwg.below hbn⟩
 clear hsf hwg hb3 HOWN HK HB1 HB2 c0 c1 c2 c3 c4 c5 c6 c7 c8 c9 c10 c11 cl
 go_upto_region 6 with fail
 generalize w3.alloc (.cells (xcs f (.slice Af f.sorts.length cf) r (.slice Ag ws.length cg)) 29)=w4 at *
 generalize w3.heap.size=yb at *
 have HCL:Hid (∀ W,Below w.heap.size w W→Calls Tryz.prog 34 #[.slice Al ls.length cl0] W (CloPost W ls)):=(show ∀ W,_ from fun W hW=>copyInts_any ls _ W (HLV.out.below hW) (by omega))
 have HCX:Hid (∀ W A7 c7,LY w W f (.slice A f.sorts.length c) r ws (.slice Aw ws.length cw) yb (.slice Af f.sorts.length cf) (.slice Ag ws.length cg)→IV W ls (.slice A7 ls.length c7)→Calls Tryz.prog 56 #[.agg (fcs f (.slice Af f.sorts.length cf)),.agg (rcs r),.slice Ag ws.length cg,.slice A7 ls.length c7] W (fun e W'=>e=.returned (.tuple #[.int .i64 (claA f r ws ls).1,.int .i64 (claA f r ws ls).2])∧Below W.heap.size W W')):=(show ∀ W A7 c7,_ from fun W A7 c7 h h7=>checkLabels_any f _ r ws _ ls _ W h.S HN.out h.V h7 (by omega))
 have HPA:=Lib.hid (fun W (h:Below w.heap.size w W)=>refErr04_any f _ r ws _ W (HV.out.below h) HN.out (HW.out.below h))
 have HKS:Hid (∀ W,Below w4.heap.size w4 W→(W.cell? ⟨yb,0,none⟩=some (.string f.name)∧W.cell? ⟨yb,1,none⟩=some (.int .i64 f.body)∧W.cell? ⟨yb,2,none⟩=some (.slice Af f.sorts.length cf)∧W.cell? ⟨yb,3,none⟩=some (.int .i64 r.measure)∧W.cell? ⟨yb,4,none⟩=some (.int .i64 r.indent)∧W.cell? ⟨yb,5,none⟩=some (.int .i64 r.least)∧W.cell? ⟨yb,6,none⟩=some (.int .i64 r.most)∧W.cell? ⟨yb,7,none⟩=some (.int .i64 r.gap)∧W.cell? ⟨yb,8,none⟩=some (.int .i64 r.hyphen)∧W.cell? ⟨yb,9,none⟩=some (.int .i64 r.single)∧W.cell? ⟨yb,10,none⟩=some (.int .i64 r.double)∧W.cell? ⟨yb,11,none⟩=some (.slice Ag ws.length cg))):=(show ∀ W,_ from fun W hW=>by
  have h:=HL.out.Y.below hW HL.out.Y.lt
  exact ⟨h.cell 0,h.cell 1,h.cell 2,h.cell 3,h.cell 4,h.cell 5,h.cell 6,h.cell 7,h.cell 8,h.cell 9,h.cell 10,h.cell 11⟩)
 have hbd:Below w4.heap.size w4 w4.drew:=(Below.refl _ _).drew
 have hS0:=HKS.out _ hbd
 go_region_held3 (fun W=>(W.cell? ⟨yb,0,none⟩=some (.string f.name)∧W.cell? ⟨yb,1,none⟩=some (.int .i64 f.body)∧W.cell? ⟨yb,2,none⟩=some (.slice Af f.sorts.length cf)∧W.cell? ⟨yb,3,none⟩=some (.int .i64 r.measure)∧W.cell? ⟨yb,4,none⟩=some (.int .i64 r.indent)∧W.cell? ⟨yb,5,none⟩=some (.int .i64 r.least)∧W.cell? ⟨yb,6,none⟩=some (.int .i64 r.most)∧W.cell? ⟨yb,7,none⟩=some (.int .i64 r.gap)∧W.cell? ⟨yb,8,none⟩=some (.int .i64 r.hyphen)∧W.cell? ⟨yb,9,none⟩=some (.int .i64 r.single)∧W.cell? ⟨yb,10,none⟩=some (.int .i64 r.double)∧W.cell? ⟨yb,11,none⟩=some (.slice Ag ws.length cg)))
  (first | exact hS0 | exact HKS.out _ hb8a | exact HKS.out _ hb7a | go_keep)
  ((first
    | (go_at_call 34;(with_reducible refine (HCL.out _ (HL.out.B.trans (hbd.mono HL.out.B.size))).mono ?_);rintro e W7a ⟨v7,rfl,hio7,hb7'⟩
       have hb7a:Below w4.heap.size w4 W7a:=hbd.trans (hb7'.mono (by exact hbd.size))
       have hiv7:=hio7.iv
       obtain ⟨A7,b7,o7,c7,rfl,-,-,-,-⟩:=hiv7.open
       have H7:=Lib.hid (HL.out.step hb7a))
    | (go_at_call 56;(with_reducible refine (HCX.out _ _ _ H7.out hiv7).mono ?_);rintro e W8a ⟨rfl,hb8'⟩
       have hb8a:Below w4.heap.size w4 W8a:=hb7a.trans (hb8'.mono (by exact hb7a.size))
       have H8a:=Lib.hid (HL.out.step hb8a))))
 clear hb8a hb8' hb7a hb7' hio7 hiv7 H7 HKS hbd hS0
 clear HL HCL HCX
 by_cases hp0:paErr f r ws=0
 · have HOK:=Lib.hid (paErr_ok hp0)
   have HTB:=Lib.hid (tab_ok (ws:=ws) HOK.out.ru HOK.out.m)
   have hce:claA f r ws ls=labE (tab f r ws) (places ws).length ls:=by unfold claA;rw [if_neg (fun h=>h hp0)]
   have HPC:Hid (∀ W,Below w.heap.size w W→Calls Tryz.prog 39 #[.agg (fcs f (.slice A f.sorts.length c)),.agg (rcs r),.slice Aw ws.length cw] W (fun e w'=>e=.returned (.int .i64 0)∧Below W.heap.size W w')):=(show ∀ W,_ from fun W hW=>by
    have h:=HPA.out W hW
    rwa [hp0] at h)
   have HTBL:=Lib.hid (fun W (h:Below w.heap.size w W)=>refTable_any f _ r ws _ W (HV.out.below h) (HW.out.below h) HOK.out)
   have hm3:=HOK.out.m
   have hDX:DMX≤1000000000:=by unfold DMX;omega
   have HRL:Hid (∀ W vt,Below w.heap.size w W→LV W (tbL (tab f r ws) (places ws).length (places ws).length) vt→Calls Tryz.prog 55 #[vt,.slice Al ls.length cl0] W (fun e W'=>e=.returned (.tuple #[.int .i64 (labE (tab f r ws) (places ws).length ls).1,.int .i64 (labE (tab f r ws) (places ws).length ls).2])∧Below W.heap.size W W')):=(show ∀ W vt,_ from fun W vt hW h=>refLabels_any _ _ _ vt ls _ W HTB.out hm3 hDX h (HLV.out.below hW) (by omega))
   have HTBP:Hid (∀ W e W',TblPost f r ws W e W'→∃ v hd,e=.returned v∧PSt W' W.heap.size (tbL (tab f r ws) (places ws).length (places ws).length) v hd∧Below W.heap.size W W'):=(show ∀ W e W',_ from fun W e W' h=>h)
   rw [hce]
   clear hce hp0 HPA HTB HOK hm3 hDX
   generalize tbL (tab f r ws) (places ws).length (places ws).length=TL at *
   generalize (labE (tab f r ws) (places ws).length ls).1=l1 at *
   generalize (labE (tab f r ws) (places ws).length ls).2=l2 at *
   have c0:=H8a.out.X.cell 0
   have c1:=H8a.out.X.cell 1
   have c2:=H8a.out.X.cell 2
   have c3:=H8a.out.X.cell 3
   have c4:=H8a.out.X.cell 4
   have c5:=H8a.out.X.cell 5
   have c6:=H8a.out.X.cell 6
   have c7:=H8a.out.X.cell 7
   have c8:=H8a.out.X.cell 8
   have c9:=H8a.out.X.cell 9
   have c10:=H8a.out.X.cell 10
   have c11:=H8a.out.X.cell 11
   have cl:=H8a.out.X.lt
   go_wp2_with fail
   refine (HPC.out _ H8a.out.B).mono ?_
   rintro e w7 ⟨rfl,hb7⟩
   have HL7:=Lib.hid (H8a.out.step hb7)
   clear hb7 H8a HPC c0 c1 c2 c3 c4 c5 c6 c7 c8 c9 c10 c11 cl
   have c0:=HL7.out.X.cell 0
   have c1:=HL7.out.X.cell 1
   have c2:=HL7.out.X.cell 2
   have c3:=HL7.out.X.cell 3
   have c4:=HL7.out.X.cell 4
   have c5:=HL7.out.X.cell 5
   have c6:=HL7.out.X.cell 6
   have c7:=HL7.out.X.cell 7
   have c8:=HL7.out.X.cell 8
   have c9:=HL7.out.X.cell 9
   have c10:=HL7.out.X.cell 10
   have c11:=HL7.out.X.cell 11
   have cl:=HL7.out.X.lt
   go_wp2_with fail
   refine (HTBL.out w7 HL7.out.B).mono ?_
   intro e w8 h8
   obtain ⟨vt,hd,rfl,hps,hb8⟩:=HTBP.out _ _ _ h8
   have HL8:=Lib.hid (HL7.out.step hb8)
   have HRL8:=Lib.hid (HRL.out w8 _ HL8.out.B hps.lv)
   clear hb8 h8 hps HL7 HTBL HTBP HRL c0 c1 c2 c3 c4 c5 c6 c7 c8 c9 c10 c11 cl
   go_wp2_with fail
   refine HRL8.out.mono ?_
   rintro e w9 ⟨rfl,hb9⟩
   have HL9:=Lib.hid (HL8.out.step hb9)
   clear hb9 HL8 HRL8
   go_wp2_with fail
   go_ret
   exact HP.out _ HL9.out.B
 · have hce:claA f r ws ls=(0,paErr f r ws):=by unfold claA;rw [if_pos hp0]
   rw [hce]
   have hpb:(paErr f r ws == 0)=false:=beq_false_of_ne hp0
   clear hce hp0
   have c0:=H8a.out.X.cell 0
   have c1:=H8a.out.X.cell 1
   have c2:=H8a.out.X.cell 2
   have c3:=H8a.out.X.cell 3
   have c4:=H8a.out.X.cell 4
   have c5:=H8a.out.X.cell 5
   have c6:=H8a.out.X.cell 6
   have c7:=H8a.out.X.cell 7
   have c8:=H8a.out.X.cell 8
   have c9:=H8a.out.X.cell 9
   have c10:=H8a.out.X.cell 10
   have c11:=H8a.out.X.cell 11
   have cl:=H8a.out.X.lt
   generalize paErr f r ws=pe at *
   go_wp2_with fail
   refine (HPA.out _ H8a.out.B).mono ?_
   rintro e w7 ⟨rfl,hb7⟩
   have HL7:=Lib.hid (H8a.out.step hb7)
   clear hb7 H8a HPA c0 c1 c2 c3 c4 c5 c6 c7 c8 c9 c10 c11 cl
   go_wp2_with fail
   go_ret
   exact HP.out _ HL7.out.B
end Go.Proofs.YtbnganlfelgogaaGreat
