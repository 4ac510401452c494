/- roman: the fount of the examples. -/
import Derived.Test.YtbnganlfelgogaaGreatVLwd
import Derived.Test.YtbnganlfelgogaaGreatVBas
import Derived.Shelf.Small.Bits
import Derived.Shelf.Bits.Mul64
import Derived.Test.YtbnganlfelgogaaGreatProg
import Derived.Laws.CopyOwn
import Derived.WalkKit
import Derived.Test.YtbnganlfelgogaaGreatVPst
import Derived.Laws.MakeOwn
import Derived.StillTailTactics
import Derived.Deep.RegionHeld3
set_option linter.unusedSimpArgs false
set_option linter.unusedVariables false
set_option maxRecDepth 100000
set_option maxHeartbeats 40000000
namespace Go.Proofs.YtbnganlfelgogaaGreat
open Go.RowKit
def romS:List TSort:=[⟨⟨#[97]⟩,⟨#[97]⟩,1,300⟩,⟨⟨#[98]⟩,⟨#[98]⟩,1,330⟩,⟨⟨#[102,105]⟩,⟨#[102,105]⟩,2,360⟩,⟨⟨#[116,104,105,99,107]⟩,⟨#[]⟩,3,200⟩,⟨⟨#[116,104,105,110]⟩,⟨#[]⟩,3,120⟩]
def RmPost (w:World) (e:Ending) (w':World):Prop:=∃ v,e=.returned (.agg #[.string ⟨#[114,111,109]⟩,.int .i64 10,v])∧SoO w' w.heap.size romS v∧Below w.heap.size w w'
theorem roman3_any (w:World):Calls Tryz.prog 129 #[] w (RmPost w):=by
 go_enter Tryz.func129,Tryz.ntmps129
 go_wp2_with fail
 have hk0:=(Blk.new w 24 #[.string ⟨#[114,111,109]⟩,.int .i64 10,.slice (some ⟨w.heap.size+1,0,none⟩) 5 5]).below (below_new _ (.cells (socl romS).toArray 145)) (by simp)
 have hk1:=Blk.new (w.alloc (.cells #[.string ⟨#[114,111,109]⟩,.int .i64 10,.slice (some ⟨w.heap.size+1,0,none⟩) 5 5] 24)) 145 (socl romS).toArray
 rw [World.size_alloc] at hk1
 refine bodyPost_ret (results_cell_row rfl _ _ w.heap.size 24 _ (0,0) _ rfl hk0 Tryz.underlying24 rfl info24) rfl ⟨_,rfl,?_,?_⟩
 · exact own_of_block (n:=5) hk1 (by omega) rfl (by omega) (by decide) rfl (fun j _=>by rw [List.getElem?_toArray])
 · exact (below_new w _).trans ((below_new _ _).mono (by simp))
end Go.Proofs.YtbnganlfelgogaaGreat
namespace Go.Proofs.YtbnganlfelgogaaGreat
def rom4:Fnt:=⟨⟨#[114,111,109]⟩,10,romS++[⟨⟨#[104,121]⟩,⟨#[45]⟩,1,100⟩]⟩
def rul4:Rls:=⟨1400,0,120,400,3,5,50,100⟩
def div4:List PWord:=[⟨[0],[]⟩,⟨[0],[]⟩,⟨[0,0],[1]⟩,⟨[0],[]⟩]
theorem ex_pa:paErr rom4 rul4 div4=0:=by decide +kernel
theorem ex_pl:(places div4).length=6:=by decide +kernel
theorem ex_d:dist (tab rom4 rul4 div4) 5=50:=by decide +kernel
end Go.Proofs.YtbnganlfelgogaaGreat
namespace Go.Proofs
open Go.Shelf
def Tryz.lays264_ren:Go.Shelf.Ren:=⟨fun | 264=>180 | n=>n,fun | 53=>248 | 46=>225 | n=>n,fun | n=>n⟩
open Go.RowKit Go.Lib in
def Tryz.lays212_ren:Go.Shelf.Ren:=⟨fun | 212=>151 | 263=>179 | 264=>180 | n=>n,fun | 46=>225 | 51=>245 | 146=>246 | 53=>248 | 148=>249 | n=>n,fun | n=>n⟩
theorem Tryz.lays212:Go.Proofs.Lays.n212 Tryz.prog Tryz.lays212_ren:={
 mixed:=by kernel_rfl
 f212:=Tryz.func151.trans (congrArg some (by kernel_rfl))
 f263:=Tryz.func179.trans (congrArg some (by kernel_rfl))
 f264:=Tryz.func180.trans (congrArg some (by kernel_rfl))
 t46:=Tryz.underlying225
 a46:=Tryz.isAgg225
 z46:=Tryz.sizeOf225
 v46:=Tryz.zeroValue225
 t51:=Tryz.underlying245
 a51:=Tryz.isAgg245
 z51:=Tryz.sizeOf245
 v51:=Tryz.zeroValue245
 t53:=Tryz.underlying248
 a53:=Tryz.isAgg248
 z53:=Tryz.sizeOf248
 v53:=Tryz.zeroValue248
 t146:=Tryz.underlying246
 a146:=Tryz.isAgg246
 z146:=Tryz.sizeOf246
 v146:=Tryz.zeroValue246
 t148:=Tryz.underlying249
 a148:=Tryz.isAgg249
 z148:=Tryz.sizeOf249
 v148:=Tryz.zeroValue249 }
open Go.RowKit Go.Lib in
theorem Tryz.bits_Mul (x y:Nat) (hx:x < 18446744073709551616) (hy:y < 18446744073709551616) (w:World) :
 Calls Tryz.prog 151 #[.int .u64 x,.int .u64 y] w fun e w'=>e=.returned (.tuple #[.int .u64 ((x*y / 18446744073709551616:Nat):Int),.int .u64 ((x*y % 18446744073709551616:Nat):Int)])∧w'=w:=Any.bits_Mul Tryz.lays212 x y hx hy w
end Go.Proofs
namespace Go.Proofs.YtbnganlfelgogaaGreat
open Go.RowKit
theorem run_copy_rowW {P:Program} (w:World) (dT sT ty elem:TypeId) (g o dLen dCap:Nat) (a:Addr) (sLen sCap:Nat) (cur:Array Value) (t:TypeId) (sz m:Nat) (cs:List Value)
 (hu:P.underlying dT=some (.slice elem)) (hs:(P.info? elem).map (·.size)=some sz)
 (hg:w.heap[g]?=some (.cells cur t (0,0))) (hm:m=Nat.min sLen dLen) (hn:cs.length=m*sz)
 (hsrc:∀ j v,cs[j]?=some v→w.cell? (a.add j)=some v) (hfit:o+cs.length≤cur.size) (h1:∀ v ∈ cs,v.oneCell'=true) :
 (Builtin.copy_ #[dT,sT] ty #[.slice (some ⟨g,o,none⟩) dLen dCap,.slice (some a) sLen sCap]).run P w =
  .ok (goInt m) (w.setRow g (cur.toList.take o++cs++cur.toList.drop (o+cs.length)).toArray):=by
 have hl:=run_loadCells_list (P:=P) w a cs hsrc
 have hst:=run_storeCells_at P g o t cs 0 cur w hg (by simpa using hfit) h1
 cases hq:P.info? elem with
 | none=>simp [hq] at hs
 | some i=>
  have hi:i.size=sz:=by simpa [hq] using hs
  rw [hn] at hl
  simp [Builtin.copy_,run_underlying hu,Builtin.lenOf,Builtin.firstCells,sizeOf,typeInfo,hq,hi,←hm,hl,hst]
theorem run_copy_noneW {P:Program} (w:World) (dT sT ty elem:TypeId) (d a:Option Addr) (dLen dCap sLen sCap:Nat) (hu:P.underlying dT=some (.slice elem)) (hs:((P.info? elem).map (·.size)).isSome=true) (hn:Nat.min sLen dLen=0) :
 (Builtin.copy_ #[dT,sT] ty #[.slice d dLen dCap,.slice a sLen sCap]).run P w=.ok (goInt 0) w:=by
 cases hq:P.info? elem with
 | none=>simp [hq] at hs
 | some i=>
  have hl:∀ (x:Addr),(loadCells x 0).run P w=.ok #[] w:=fun x=>by simpa using run_loadCells_list (P:=P) w x [] (by simp)
  cases d <;> cases a <;> simp [Builtin.copy_,run_underlying hu,Builtin.lenOf,Builtin.firstCells,sizeOf,typeInfo,hq,hn,storeCells,hl]
theorem run_copyW {P:Program} (w:World) (dT sT ty elem:TypeId) (sz m:Nat) (hu:P.underlying dT=some (.slice elem)) (hs:(P.info? elem).map (·.size)=some sz)
 (dp sp:Option Addr) (dLen dCap sLen sCap:Nat) (g off:Nat) (cur:List Value) (t:TypeId) (hg:w.heap[g]?=some (.cells cur.toArray t (0,0))) (cs:List Value) (hm:m=Nat.min sLen dLen) (hn:cs.length=m*sz)
 (hpos:0 < m→dp=some ⟨g,off,none⟩∧∃ ad,sp=some ad∧∀ j v,cs[j]?=some v→w.cell? (ad.add j)=some v)
 (hfit:off+cs.length≤cur.length) (h1:∀ v ∈ cs,v.oneCell'=true) (B:Nat) (w0:World) (hb:Below B w0 w) (hBg:B≤g) :
 ∃ w',(Builtin.copy_ #[dT,sT] ty #[.slice dp dLen dCap,.slice sp sLen sCap]).run P w=.ok (goInt m) w'∧w'.heap[g]?=some (.cells (splice cur off cs).toArray t (0,0))∧Below B w0 w':=by
 by_cases h0:m=0
 · subst h0
   have:cs=[]:=List.eq_nil_of_length_eq_zero (by omega)
   subst this
   exact ⟨w,run_copy_noneW w dT sT ty elem dp sp dLen dCap sLen sCap hu (by rw [hs];rfl) hm.symm,by simpa [splice] using hg,hb⟩
 · obtain ⟨rfl,ad,rfl,hsrc⟩:=hpos (by omega)
   refine ⟨_,run_copy_rowW w dT sT ty elem g off dLen dCap ad sLen sCap cur.toArray t sz m cs hu hs hg hm hn hsrc (by simpa using hfit) h1,?_,below_setRow hb hBg _⟩
   simpa [splice] using setRow_heap w g _ _ t _ hg
theorem wpList_copyW {P:Program} {w:World} {ops:Array Oper} {rest:List Oper} {o:Oper} {a:Act} {Q:Exit→Act→World→Prop} (hgd:o.guard=none) (d s:Operand) (dT sT:TypeId)
 (ho:o.op=.call { callee:=.builtin .copy,args:=#[d,s],argTypes:=#[dT,sT] }) (elem:TypeId) (sz m:Nat) (hu:P.underlying dT=some (.slice elem)) (hsz:(P.info? elem).map (·.size)=some sz)
 (dp sp:Option Addr) (dLen dCap sLen sCap:Nat) (hd:a.eval d=.slice dp dLen dCap) (hs:a.eval s=.slice sp sLen sCap)
 (g off:Nat) (cur:List Value) (t:TypeId) (hg:w.heap[g]?=some (.cells cur.toArray t (0,0))) (cs:List Value) (hm:m=Nat.min sLen dLen) (hn:cs.length=m*sz)
 (hpos:0 < m→dp=some ⟨g,off,none⟩∧∃ ad,sp=some ad∧∀ j v,cs[j]?=some v→w.cell? (ad.add j)=some v)
 (hfit:off+cs.length≤cur.length) (h1:∀ v ∈ cs,v.oneCell'=true) (B:Nat) (w0:World) (hb:Below B w0 w) (hBg:B≤g)
 (h:∀ w',Hid (w'.heap[g]?=some (.cells (splice cur off cs).toArray t (0,0)))→Below B w0 w'→wpList P ops Q rest (a.put o.dst (goInt m)) w') :
 wpList P ops Q (o :: rest) a w:=by
 refine wpList_plain hgd fun K hK=>?_
 obtain ⟨w',hrun,h2,h3⟩:=run_copyW (P:=P) w dT sT o.type elem sz m hu hsz dp sp dLen dCap sLen sCap g off cur t hg cs hm hn hpos hfit h1 B w0 hb hBg
 unfold Oper.wp
 simp [execOp,ho,resolve,invoke,builtin,hd,hs,hrun,Result.andThen]
 exact hK _ _ (h w' h2 h3)
theorem step_copyW {P:Program} {ops:Array Oper} {o:Oper} {a:Act} {w:World} {K:Act→World→Prop} {Q:Exit→Act→World→Prop} {E:Prop} (hgd:o.guard=none) (d s:Operand) (dT sT:TypeId)
 (ho:o.op=.call { callee:=.builtin .copy,args:=#[d,s],argTypes:=#[dT,sT] }) (elem:TypeId) (sz m:Nat) (hu:P.underlying dT=some (.slice elem)) (hsz:(P.info? elem).map (·.size)=some sz)
 (dp sp:Option Addr) (dLen dCap sLen sCap:Nat) (hd:a.eval d=.slice dp dLen dCap) (hs:a.eval s=.slice sp sLen sCap)
 (g off:Nat) (cur:List Value) (t:TypeId) (hg:w.heap[g]?=some (.cells cur.toArray t (0,0))) (cs:List Value) (hm:m=Nat.min sLen dLen) (hn:cs.length=m*sz)
 (hpos:0 < m→dp=some ⟨g,off,none⟩∧∃ ad,sp=some ad∧∀ j v,cs[j]?=some v→w.cell? (ad.add j)=some v)
 (hfit:off+cs.length≤cur.length) (h1:∀ v ∈ cs,v.oneCell'=true) (B:Nat) (w0:World) (hb:Below B w0 w) (hBg:B≤g)
 (h:∀ w',Hid (w'.heap[g]?=some (.cells (splice cur off cs).toArray t (0,0)))→Below B w0 w'→K (a.put o.dst (goInt m)) w') :
 if Region.wanted o (yielded ops a.tmps)=true then Oper.wp P o a w K Q else E:=by
 have hw:Region.wanted o (yielded ops a.tmps)=true:=by simp [Region.wanted,hgd]
 rw [if_pos hw]
 obtain ⟨w',hrun,h2,h3⟩:=run_copyW (P:=P) w dT sT o.type elem sz m hu hsz dp sp dLen dCap sLen sCap g off cur t hg cs hm hn hpos hfit h1 B w0 hb hBg
 unfold Oper.wp
 simp [execOp,ho,resolve,invoke,builtin,hd,hs,hrun,Result.andThen]
 exact h w' h2 h3
end Go.Proofs.YtbnganlfelgogaaGreat
namespace Go.Proofs.YtbnganlfelgogaaGreat
open Go.RowKit
def rp (x y:Int):Nat→List Value
 | 0=>[]
 | m+1=>.int .i64 x :: .int .i64 y :: rp x y m
theorem rp_len (x y:Int):∀ m,(rp x y m).length=m*2
 | 0=>rfl
 | m+1=>by simp only [rp,List.length_cons,rp_len x y m];omega
theorem rp_add (x y:Int):∀ m q,rp x y (m+q)=rp x y m++rp x y q
 | 0,q=>by rw [Nat.zero_add];rfl
 | m+1,q=>by rw [show m+1+q=(m+q)+1 by omega];simp only [rp,List.cons_append,rp_add x y m q]
theorem rp_one (x y:Int):∀ m,∀ v ∈ rp x y m,v.oneCell'=true
 | 0,v,h=>by simp [rp] at h
 | m+1,v,h=>by
  simp only [rp,List.mem_cons] at h
  rcases h with h | h | h
  · rw [h];rfl
  · rw [h];rfl
  · exact rp_one x y m v h
theorem rp_get (x y:Int):∀ m j,j < m→(rp x y m)[j*2]?=some (.int .i64 x)∧(rp x y m)[j*2+1]?=some (.int .i64 y)
 | 0,j,h=>by omega
 | m+1,0,_=>⟨rfl,rfl⟩
 | m+1,j+1,h=>by
  have:=rp_get x y m j (by omega)
  rw [show (j+1)*2=j*2+1+1 by omega]
  simpa [rp] using this
def rpz (x y:Int) (m n:Nat):List Value:=rp x y m++List.replicate ((n-m)*2) (.int .i64 0)
theorem rpz_len {x y:Int} {m n:Nat} (h:m≤n):(rpz x y m n).length=n*2:=by
 unfold rpz;rw [List.length_append,rp_len,List.length_replicate];omega
theorem rpz_full (x y:Int) (n:Nat):rpz x y n n=rp x y n:=by simp [rpz]
theorem rpz_zero (x y:Int) (n:Nat):rpz x y 0 n=List.replicate (n*2) (.int .i64 0):=by simp [rpz,rp]
theorem rpz_pre {x y:Int} {m n q j:Nat} (hq:q≤m) (hj:j < q*2):(rpz x y m n)[j]?=(rp x y q)[j]?:=by
 unfold rpz
 rw [List.getElem?_append_left (by rw [rp_len];omega),show m=q+(m-q) by omega,rp_add,List.getElem?_append_left (by rw [rp_len];exact hj)]
theorem rpz_splice {x y:Int} {m q n:Nat} (h:m+q≤n):splice (rpz x y m n) (m*2) (rp x y q)=rpz x y (m+q) n:=by
 unfold splice rpz
 have h1:=rp_len x y m
 have h2:=rp_len x y q
 rw [List.take_append_of_le_length (by omega),List.take_of_length_le (by omega),rp_add,List.append_assoc,List.drop_append,List.drop_of_length_le (by rw [h1,h2];omega),List.nil_append,h1,h2,List.drop_replicate,
  show (n-m)*2-(m*2+q*2-m*2)=(n-(m+q))*2 by omega]
theorem info106:(Tryz.prog.info? 182).map (fun i=>(i.zero,i.size,i.bytes))=some (some (.agg #[.int .i64 0,.int .i64 0]),2,16):=by kernel_rfl
theorem made_pair (k:Nat):madeCells (Value.agg #[.int .i64 0,.int .i64 0]).cells k=(List.replicate k (Value.int .i64 0)).toArray:=by
 apply Array.ext'
 apply List.ext_getElem?
 intro j
 by_cases hj:j < k
 · have h2:j % 2=0∨j % 2=1:=by omega
   rcases h2 with h2 | h2 <;> simp [madeCells,Value.cells,hj,h2]
 · simp [madeCells,Value.cells,hj]
def RpPost (w:World) (x y:Int) (n:Nat) (e:Ending) (w':World):Prop:=
 e=.returned (.slice (some ⟨w.heap.size,0,none⟩) n n)∧w'.heap[w.heap.size]?=some (.cells (rp x y n).toArray 182 (0,0))∧Below w.heap.size w w'
theorem repeatW_any (x y:Int) (n b off c:Nat) (w:World) (hx:w.cell? ⟨b,off,none⟩=some (.int .i64 x)) (hy:w.cell? ⟨b,off+1,none⟩=some (.int .i64 y)) (hn:n≤1000000) :
 Calls Tryz.prog 118 #[.slice (some ⟨b,off,none⟩) 1 c,.int .i64 n] w (RpPost w x y n):=by
 have hbw:=block_lt_of_cell hx
 have HM:Hid (∀ W,Calls Tryz.prog 151 #[.int .u64 1,.int .u64 n] W fun e w'=>e=.returned (.tuple #[.int .u64 0,.int .u64 n])∧w'=W):=(show ∀ W,_ from fun W=>by
  have h:=Tryz.bits_Mul 1 n (by omega) (by omega) W
  have e1:1*n / 18446744073709551616=0:=Nat.div_eq_of_lt (by omega)
  have e2:1*n % 18446744073709551616=n:=by rw [Nat.one_mul];exact Nat.mod_eq_of_lt (by omega)
  rw [e1,e2] at h
  exact h)
 have HFN:Hid (∀ W,W.heap[w.heap.size]?=some (.cells (rpz x y n n).toArray 182 (0,0))→Below w.heap.size w W→RpPost w x y n (.returned (.slice (some ⟨w.heap.size,0,none⟩) n n)) W):=(show ∀ W,_ from fun W hg hb=>⟨rfl,by rw [rpz_full] at hg;exact hg,hb⟩)
 obtain ⟨i1,hi1,hz1,hy1,hx1⟩:=info_parts info106
 have hmk:∀ W:World,(Instr.makeSlice 179 (.int .i64 (n:Int)) (.int .i64 (n:Int))).run Tryz.prog W=.ok (.slice (some ⟨W.heap.size,0,none⟩) n n) (W.alloc (.cells (List.replicate (n*2) (Value.int .i64 0)).toArray 182)):=fun W=>by
  have:=run_makeSlice (P:=Tryz.prog) (w:=W) 179 182 i1 _ Tryz.underlying179 hi1 hz1 .i64 .i64 (n:Int) (n:Int) (by omega) (Int.le_refl _) (by rw [hy1];simp;omega) (by rw [hx1];omega) (by omega)
  rw [made_pair,hy1] at this
  simpa using this
 have hb0:=below_new w (Obj.cells (List.replicate (n*2) (Value.int .i64 0)).toArray 182)
 have hxc:=(hb0.cell (p:=⟨b,off,none⟩) hbw).trans hx
 have hyc:=(hb0.cell (p:=⟨b,off+1,none⟩) hbw).trans hy
 obtain ⟨m0,hm0⟩:∃ m0,m0=min 1 n:=⟨_,rfl⟩
 obtain ⟨cs,hcs⟩:∃ cs,cs=rp x y m0:=⟨_,rfl⟩
 obtain ⟨r0,hr0⟩:∃ r0,r0=rpz x y 0 n:=⟨_,rfl⟩
 have HG0:Hid ((w.alloc (Obj.cells (List.replicate (n*2) (Value.int .i64 0)).toArray 182)).heap[w.heap.size]?=some (.cells r0.toArray 182 (0,0))):=by
  show _=_
  rw [heap_alloc_new w _,hr0,rpz_zero]
 have HMN:Hid (m0=Nat.min 1 n):=hm0
 have HQ1:Hid (cs.length=m0*2):=by show _=_;rw [hcs,rp_len]
 have HFIT:Hid (0+cs.length≤r0.length):=by show _≤_;rw [hr0,hcs,rpz_len (Nat.zero_le _),rp_len];omega
 have HPOS:Hid (∀ j v,cs[j]?=some v→(w.alloc (Obj.cells (List.replicate (n*2) (Value.int .i64 0)).toArray 182)).cell? ((⟨b,off,none⟩:Addr).add j)=some v):=(show ∀ j v,_ from fun j v h=>by
  have hadd:(⟨b,off,none⟩:Addr).add j=⟨b,off+j,none⟩:=by unfold Addr.add;split <;> simp_all
  rw [hadd]
  have hj:j < m0*2:=by
   rcases Nat.lt_or_ge j (m0*2) with h' | h'
   · exact h'
   · rw [List.getElem?_eq_none (by rw [HQ1.out];exact h')] at h;cases h
  have hg:=rp_get x y m0 0 (by omega)
  rw [hcs] at h
  have h01:j=0∨j=1:=by omega
  rcases h01 with e | e
  · subst e;rw [hg.1] at h;rw [←h];exact hxc
  · subst e;rw [hg.2] at h;rw [←h];exact hyc)
 have HSP:Hid (splice r0 0 cs=rpz x y m0 n):=by show _=_;have:=rpz_splice (x:=x) (y:=y) (m:=0) (q:=m0) (n:=n) (by omega);rw [Nat.zero_add,Nat.zero_mul] at this;rw [hr0,hcs];exact this
 have HR0:Hid (∀ v ∈ cs,v.oneCell'=true):=by show ∀ v ∈ cs,_;rw [hcs];exact rp_one x y _
 have HM0:=Lib.hid hm0
 clear hcs hr0 hm0 hxc hyc
 go_enter Tryz.func118,Tryz.ntmps118
 go_wp2_with fail
 refine (HM.out _).mono ?_
 rintro e w' ⟨rfl,rfl⟩
 go_wp2_with ((refine wpList_copyW rfl (.tmp 31) (.tmp 32) 179 179 rfl 182 2 m0 Tryz.underlying179 (by kernel_rfl) (some ⟨w'.heap.size,0,none⟩) (some ⟨b,off,none⟩) n n 1 c (by rfl) (by rfl) w'.heap.size 0 r0 182 HG0.out cs HMN.out HQ1.out (fun _=>⟨rfl,_,rfl,HPOS.out⟩) HFIT.out HR0.out w'.heap.size w' hb0 (Nat.le_refl _) ?_);intro w2 hw2 hb2;rw [HSP.out] at hw2;have HW2:=Lib.hid hw2.out;have HB2:=Lib.hid hb2;clear hw2 hb2)
 clear hmk HPOS HFIT HSP HQ1 HG0 HM hb0 hx hy hbw HR0 HMN
 have hsz:=HB2.out.size
 generalize w'.heap.size=g at *
 go_loopg [8] n (fun gg s8 wr=>∃ m:Nat,m≤n∧n-m≤gg∧(0 < n→0 < m)∧s8=.int .i64 m∧Hid (wr.heap[g]?=some (.cells (rpz x y m n).toArray 182 (0,0)))∧Hid (Below g w' wr))
 case atStart=>exact ⟨m0,by have:=HM0.out;omega,by omega,by have:=HM0.out;omega,by simp,HW2.out,HB2.out⟩
 case round=>
  obtain ⟨m,hm,hg,h0,rfl,HG,HB⟩:=hrel
  by_cases hlt:m < n
  · have hltz:(m:Int) < (n:Int):=by omega
    have hm0:(0:Int)≤(m:Int):=by omega
    obtain ⟨q,hqe⟩:∃ q,q=min m (n-m):=⟨_,rfl⟩
    obtain ⟨cs,hcs⟩:∃ cs,cs=rp x y q:=⟨_,rfl⟩
    obtain ⟨r0,hr0⟩:∃ r0,r0=rpz x y m n:=⟨_,rfl⟩
    have hq1:1≤q:=by have:=h0 (by omega);omega
    have hq2:m+q≤n:=by omega
    have HG1:Hid (wr.drew.heap[g]?=some (.cells r0.toArray 182 (0,0))):=by show wr.heap[g]?=_;rw [hr0];exact HG.out
    have HMN:Hid (q=Nat.min m (n-m)):=hqe
    have HQ1:Hid (cs.length=q*2):=by show _=_;rw [hcs,rp_len]
    have HFIT:Hid (m*2+cs.length≤r0.length):=by show _≤_;rw [hr0,hcs,rpz_len hm,rp_len];omega
    have HPOS:Hid (∀ j v,cs[j]?=some v→wr.drew.cell? ((⟨g,0,none⟩:Addr).add j)=some v):=(show ∀ j v,_ from fun j v h=>by
     have hj:j < q*2:=by
      rcases Nat.lt_or_ge j (q*2) with h' | h'
      · exact h'
      · rw [List.getElem?_eq_none (by rw [HQ1.out];exact h')] at h;cases h
     rw [show (⟨g,0,none⟩:Addr).add j=⟨g,0+j,none⟩ by unfold Addr.add;split <;> simp_all]
     show wr.cell? ⟨g,0+j,none⟩=_
     rw [cell_of_row wr g (0+j) (rpz x y m n).toArray 182 (0,0) HG.out,List.getElem?_toArray,Nat.zero_add,rpz_pre (q:=q) (by omega) hj,←hcs]
     exact h)
    have HSP:Hid (splice r0 (m*2) cs=rpz x y (m+q) n):=by show _=_;rw [hr0,hcs];exact rpz_splice (by omega)
    have HR0:Hid (∀ v ∈ cs,v.oneCell'=true):=by show ∀ v ∈ cs,_;rw [hcs];exact rp_one x y _
    have HBd:Hid (Below g w' wr.drew):=HB.out.drew
    clear hcs hr0 hqe HG HB h0
    have hmn:(m:Int)≤(n:Int):=by omega
    have hnm2:¬n=m:=by omega
    go_wp2_with fail
    go_region_held3 (fun _=>True) (trivial) ((refine step_copyW rfl (.tmp 41) (.tmp 44) 179 179 rfl 182 2 q Tryz.underlying179 (by kernel_rfl) (some ⟨g,m*2,none⟩) (some ⟨g,0,none⟩) (n-m) (n-m) m n (by rfl) (by rfl) g (m*2) r0 182 HG1.out cs HMN.out HQ1.out (fun _=>⟨rfl,_,rfl,HPOS.out⟩) HFIT.out HR0.out g w' HBd.out (Nat.le_refl _) ?_;intro w2 hw2 hb2;rw [HSP.out] at hw2;have HW2:=Lib.hid hw2.out;have HB2:=Lib.hid hb2;clear hw2 hb2))
    go_wp2_with fail
    go_roundg (n-(m+q))
    case measure=>omega
    case rel=>exact ⟨m+q,by omega,by omega,by omega,by rw [IntWalk.i64_in ((m:Int)+(q:Int)) (by omega)];go_num,HW2.out,HB2.out⟩
  · have hltz:¬(m:Int) < (n:Int):=by omega
    have he:m=n:=by omega
    subst he
    have HF:=Lib.hid (HFN.out wr HG.out HB.out)
    go_wp2_with fail
    go_ret
    exact HF.out
end Go.Proofs.YtbnganlfelgogaaGreat
