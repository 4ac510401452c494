/- The document's answer: Spaces, KindsErr, sortErr, CheckCase; base.Ints. -/
import Derived.Test.YtbnganlfelgogaaGreatVOta
import Derived.Test.YtbnganlfelgogaaGreatVEqc
import Derived.Deep.RegionHeld3
import Derived.Test.YtbnganlfelgogaaGreatVRff
set_option linter.unusedSimpArgs false
set_option linter.unusedVariables false
set_option maxRecDepth 100000
set_option maxHeartbeats 40000000
namespace Go.Proofs.YtbnganlfelgogaaGreat
open Go.RowKit
theorem ints27_any (a b:List Int) (va vb:Value) (w:World) (ha:IV w a va) (hb:IV w b vb) (hm:a.length≤1000000) (hm2:b.length≤1000000):Calls Tryz.prog 66 #[va,vb] w fun e w'=>e=.returned (.bool (decide (a=b)))∧Below w.heap.size w w':=by
 have HP:Hid (∀ W c,c=decide (a=b)→Below w.heap.size w W→Ending.returned (.bool c)=.returned (.bool (decide (a=b)))∧Below w.heap.size w W):=(show ∀ W c,_ from fun W c e h=>⟨by rw [e],h⟩)
 obtain ⟨A1,b1,o1,c1,rfl,hA1,hz1,-,-⟩:=ha.open
 obtain ⟨A2,b2,o2,c2,rfl,hA2,hz2,-,-⟩:=hb.open
 have HA1:=Lib.hid hA1
 have HA2:=Lib.hid hA2
 have HZ1:=Lib.hid hz1
 have HZ2:=Lib.hid hz2
 clear ha hb hA1 hA2 hz1 hz2
 have HEX:Hid (a.length=b.length→(∀ j,j < a.length→gz a j=gz b j)→true=decide (a=b)):=(show _→_→_ from fun h1 h2=>(decide_eq_true (gz_ext h1 h2)).symm)
 have HNE:Hid (∀ j,gz a j≠gz b j→false=decide (a=b)):=(show ∀ j,_ from fun j h=>(decide_eq_false (fun e=>h (by rw [e]))).symm)
 by_cases hl:a.length=b.length
 · have HZ2':Hid (∀ j,j < a.length→w.cell? ⟨b2,o2+j,none⟩=some (.int .i64 (gz b j))):=(show ∀ j,_ from fun j hj=>HZ2.out j (by omega))
   rw [←hl] at hm2 HA2 ⊢
   rw [←hl] at HEX
   clear hl HZ2
   generalize hN:a.length=N at *
   have HN:=Lib.hid hN
   clear hN
   have hbn0:=bne_f (rfl:(N:Int)=(N:Int))
   go_enter Tryz.func66,Tryz.ntmps66
   go_wp2_with fail
   go_loopg [5] N (fun gg s5 wr=>∃ k:Nat,k≤N∧N-k≤gg∧s5=.int .i64 (k:Int)∧Hid (Below w.heap.size w wr)∧Hid (∀ j,j < k→gz a j=gz b j))
   case atStart=>exact ⟨0,by omega,by omega,rfl,Below.refl _ _,fun j hj=>absurd hj (Nat.not_lt_zero _)⟩
   case round=>
    obtain ⟨k,hk,hg,rfl,HB,HE⟩:=hrel
    by_cases hlt:k < N
    · have hltz:(k:Int) < (N:Int):=by omega
      obtain ⟨rfl,hb1⟩:=HA1.out (by omega)
      obtain ⟨rfl,hb2⟩:=HA2.out (by omega)
      have z1:=(HB.out.cell (p:=⟨b1,o1+k,none⟩) hb1).trans (HZ1.out k (by rw [HN.out];exact hlt))
      have z2:=(HB.out.cell (p:=⟨b2,o2+k,none⟩) hb2).trans (HZ2'.out k hlt)
      have HQ:Hid (gz a k=gz b k→∀ j,j < k+1→gz a j=gz b j):=(show _→_ from fun h j hj=>by
       by_cases e:j=k
       · subst e;exact h
       · exact HE.out j (by omega))
      have HQ2:=Lib.hid (HNE.out k)
      generalize gz a k=x at *
      generalize gz b k=y at *
      by_cases hxy:x=y
      · have HXY:=Lib.hid hxy
        have hbn:=bne_f hxy
        clear hxy
        go_wp2_with fail
        go_quiet (fail)
        have HB2:=Lib.hid (HB.out.trans ((below_drewN wr nq).mono HB.out.size))
        generalize wr.drewN nq=W2 at *
        go_wp2_with fail
        go_roundg (N-(k+1))
        case measure=>omega
        case rel=>exact ⟨k+1,by omega,by omega,by go_num,HB2.out,HQ.out HXY.out⟩
      · have HX:=Lib.hid (HQ2.out hxy)
        have hbn:=bne_t hxy
        go_wp2_with fail
        go_quiet (fail)
        have HB2:=Lib.hid (HB.out.trans ((below_drewN wr nq).mono HB.out.size))
        generalize wr.drewN nq=W2 at *
        go_wp2_with fail
        go_ret
        exact HP.out _ _ HX.out HB2.out
    · have hltz:¬(k:Int) < (N:Int):=by omega
      have HX:=Lib.hid (HEX.out (by first | rfl | trivial) (fun j hj=>HE.out j (by omega)))
      go_wp2_with fail
      go_ret
      exact HP.out _ _ HX.out HB.out
 · have HX:Hid (false=decide (a=b)):=(show _=_ from (decide_eq_false (fun e=>hl (by rw [e]))).symm)
   have hlz:¬(a.length:Int)=(b.length:Int):=by omega
   have hbn:=bne_t hlz
   go_enter Tryz.func66,Tryz.ntmps66
   go_wp2_with fail
   go_ret
   exact HP.out _ _ HX.out (Below.refl _ _)
end Go.Proofs.YtbnganlfelgogaaGreat
namespace Go.Proofs.YtbnganlfelgogaaGreat
open Go.RowKit
theorem step_app {P:Program} {ops:Array Oper} {o:Oper} {a:Act} {w:World} {K:Act→World→Prop} {Q:Exit→Act→World→Prop} {E:Prop} (hgd:o.guard=none) (s x:Operand) (t:TypeId)
 (ho:o.op=.call { callee:=.builtin .append,args:=#[s,x],argTypes:=#[t,t] })
 (base:Nat) (e:TypeId) (i:TypeInfo) (z:Value) (size bytes:Nat) (ht:P.underlying t=some (.slice e)) (hi:P.info? e=some i) (hz:i.zero=some z)
 (hsize:i.size=size) (hby:i.bytes=bytes) (hzs:z.cells.size=size) (hsz:0 < size)
 (v:Value) (n:Nat) (xs:List Value) (hs:a.eval s=v) (hown:w.ownsRow base e size v n xs)
 (A:Option Addr) (b off m c:Nat) (news:List Value) (hx:a.eval x=.slice A m c) (hl:news.length=m*size) (hA:Lies A m w.heap.size b off) (hnews:∀ j,j < m*size→w.cell? ⟨b,off+j,none⟩=news[j]?) (h1:∀ u ∈ news,u.oneCell'=true)
 (h63:n+m≤maxLen) (hbytes:(n+m)*bytes≤140737488355328) (hbase:base≤w.heap.size)
 (h:∀ v' w',w'.ownsRow base e size v' (n+m) (xs++news)→w.grownBy w' v.ownBlock→(v'.ownBlock=v.ownBlock∨v'.ownBlock=some w.heap.size)→K (a.put o.dst v') w'):if Region.wanted o (yielded ops a.tmps)=true then Oper.wp P o a w K Q else E:=by
 have hwt:Region.wanted o (yielded ops a.tmps)=true:=by simp [Region.wanted,hgd]
 rw [if_pos hwt]
 obtain ⟨v',w',hr,h2,h3,h4⟩:=run_app (P:=P) w base t o.type e i z size bytes ht hi hz hsize hby hzs hsz v n xs hown A b off m c news hl hA hnews h1 h63 hbytes hbase
 unfold Oper.wp execOp
 simp only [ho,resolve,invoke,builtin,Sem.run_bind,Sem.run_pure,Result.andThen_ok,List.map_toArray,List.map_cons,List.map_nil,hs,hx,hr]
 exact h v' w' h2 h3 h4
def posK (f:Fnt) (l:List Int) (wx:Int):Nat→Nat
 | 0=>0
 | m+1=>if wx < wd f (gz l m) then posK f l wx m else m+1
def insW (f:Fnt) (l:List Int) (i:Int):List Int:=l.take (posK f l (wd f i) l.length)++[i]++l.drop (posK f l (wd f i) l.length)
def spcK (f:Fnt):Nat→List Int
 | 0=>[]
 | k+1=>if spB f (k:Int) then insW f (spcK f k) (k:Int) else spcK f k
end Go.Proofs.YtbnganlfelgogaaGreat
namespace Go.Proofs.YtbnganlfelgogaaGreat
open Go.RowKit
end Go.Proofs.YtbnganlfelgogaaGreat
