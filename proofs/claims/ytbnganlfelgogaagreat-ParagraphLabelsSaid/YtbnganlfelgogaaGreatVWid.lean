/- slices.Repeat of one number. -/
import Derived.Test.YtbnganlfelgogaaGreatVRpw
import Derived.Test.YtbnganlfelgogaaGreatVOta
import Derived.Laws.CopyOwn
import Derived.StillTailTactics
import Derived.Deep.RegionHeld3
import Derived.Shelf.SlSortCmp.Insertion
import Derived.BigQuiet
import Derived.Test.YtbnganlfelgogaaGreatVRvs
import Derived.Sort.LotA
set_option linter.unusedSimpArgs false
set_option linter.unusedVariables false
set_option maxRecDepth 100000
set_option maxHeartbeats 40000000
namespace Go.Proofs.YtbnganlfelgogaaGreat
open Go.RowKit
def repL (x:Int) (m n:Nat):List Value:=List.replicate m (.int .i64 x)++List.replicate (n-m) (.int .i64 0)
theorem repL_len {x:Int} {m n:Nat} (h:m≤n):(repL x m n).length=n:=by simp [repL];omega
theorem repL_zero (x:Int) (n:Nat):repL x 0 n=List.replicate n (.int .i64 0):=by simp [repL]
theorem repL_full (x:Int) (n:Nat):repL x n n=List.replicate n (.int .i64 x):=by simp [repL]
theorem repL_get {x:Int} {m n j:Nat} (h:j < m):(repL x m n)[j]?=some (.int .i64 x):=by
 unfold repL
 rw [List.getElem?_append_left (by simpa using h)]
 simp [h]
theorem repL_splice {x:Int} {m q n:Nat} (h:m+q≤n):splice (repL x m n) m (List.replicate q (.int .i64 x))=repL x (m+q) n:=by
 unfold splice repL
 have e:n-m-(m+q-m)=n-(m+q):=by omega
 simp [List.take_append,List.drop_append,e,←List.append_assoc,List.replicate_append_replicate]
 omega
theorem repL_one (x:Int) (m:Nat):∀ v ∈ List.replicate m (Value.int .i64 x),v.oneCell'=true:=fun v hv=>by
 rw [(List.mem_replicate.1 hv).2];rfl
theorem rep_own {W:World} {B g:Nat} {x:Int} {n:Nat} (hg:W.heap[g]?=some (.cells (repL x n n).toArray 3 (0,0))) (hB:B≤g) (hn:n≤1000000):IO W B (List.replicate n x) (.slice (some ⟨g,0,none⟩) n n):=by
 show World.ownsRow _ _ _ _ _ _ _
 rw [List.length_replicate]
 refine ⟨by simp [zv],.inr ⟨g,n,_,rfl,hB,hg,Nat.le_refl _,by simp only [maxLen];omega,by simp [repL],?_⟩⟩
 rw [repL_full]
 simp [zv]
theorem repeat_any (x:Int) (n b off c:Nat) (w:World) (hx:w.cell? ⟨b,off,none⟩=some (.int .i64 x)) (hn:n≤1000000) :
 Calls Tryz.prog 189 #[.slice (some ⟨b,off,none⟩) 1 c,.int .i64 n] w (CloPost w (List.replicate n x)):=by
 have hbw:=block_lt_of_cell hx
 have HM:Hid (∀ W,Calls Tryz.prog 151 #[.int .u64 1,.int .u64 n] W fun e w'=>e=.returned (.tuple #[.int .u64 0,.int .u64 n])∧w'=W):=(show ∀ W,_ from fun W=>by
  have h:=Tryz.bits_Mul 1 n (by omega) (by omega) W
  have e1:1*n / 18446744073709551616=0:=Nat.div_eq_of_lt (by omega)
  have e2:1*n % 18446744073709551616=n:=by rw [Nat.one_mul];exact Nat.mod_eq_of_lt (by omega)
  rw [e1,e2] at h
  exact h)
 have HFN:Hid (∀ W,W.heap[w.heap.size]?=some (.cells (repL x n n).toArray 3 (0,0))→Below w.heap.size w W→CloPost w (List.replicate n x) (.returned (.slice (some ⟨w.heap.size,0,none⟩) n n)) W):=(show ∀ W,_ from fun W hg hb=>⟨_,rfl,rep_own hg (Nat.le_refl _) hn,hb⟩)
 have hmk:=run_make_row' (P:=Tryz.prog) 34 3 (.int .i64 0) 8 Tryz.underlying34 info3 rfl .i64 .i64 n (by omega) (by omega)
 have hb0:=below_new w (Obj.cells (madeCells #[Value.int IntKind.i64 0] n) 3)
 have hxc:=((below_new w (Obj.cells (madeCells #[Value.int IntKind.i64 0] n) 3)).cell hbw).trans hx
 obtain ⟨cs,hcs⟩:∃ cs,cs=List.replicate (min 1 n) (Value.int .i64 x):=⟨_,rfl⟩
 obtain ⟨r0,hr0⟩:∃ r0,r0=repL x 0 n:=⟨_,rfl⟩
 obtain ⟨m0,hm0⟩:∃ m0,m0=min 1 n:=⟨_,rfl⟩
 have HG0:Hid ((w.alloc (Obj.cells (madeCells #[Value.int IntKind.i64 0] n) 3)).heap[w.heap.size]?=some (.cells r0.toArray 3 (0,0))):=by
  show _=_
  rw [heap_alloc_new w _,hr0,repL_zero,←toList_madeCells_one,Array.toArray_toList]
 have HLEN:Hid (cs.length=m0):=by show _=_;rw [hcs,hm0];simp
 have HQ1:Hid (cs.length=Nat.min 1 n):=by show _=_;rw [hcs];simp
 have HFIT:Hid (0+cs.length≤r0.length):=by show _≤_;rw [hr0,hcs,repL_len (Nat.zero_le _)];simp;omega
 have HPOS:Hid (∀ j v,cs[j]?=some v→(w.alloc (Obj.cells (madeCells #[Value.int IntKind.i64 0] n) 3)).cell? ((⟨b,off,none⟩:Addr).add j)=some v):=(show ∀ j v,_ from fun j v h=>by
  rw [hcs,List.getElem?_replicate] at h
  split at h
  · have:j=0:=by omega
    subst this
    injection h with h
    subst h
    exact hxc
  · cases h)
 have HSP:Hid (splice r0 0 cs=repL x m0 n):=by show _=_;have:=repL_splice (x:=x) (m:=0) (q:=min 1 n) (n:=n) (by omega);rw [Nat.zero_add] at this;rw [hr0,hcs,hm0];exact this
 have HR0:Hid (∀ v ∈ cs,v.oneCell'=true):=by show ∀ v ∈ cs,_;rw [hcs];exact repL_one x _
 have HM0:=Lib.hid hm0
 have HR1:=Lib.hid (repL_one x)
 clear hcs hr0 hm0 hxc
 go_enter Tryz.func189,Tryz.ntmps189
 go_wp2_with fail
 refine (HM.out _).mono ?_
 rintro e w' ⟨rfl,rfl⟩
 go_wp2_with ((refine wpList_copy_splice rfl (.tmp 31) (.tmp 32) 34 34 rfl 3 Tryz.underlying34 (by kernel_rfl) (some ⟨w'.heap.size,0,none⟩) (some ⟨b,off,none⟩) n n 1 c (by rfl) (by rfl) w'.heap.size 0 r0 3 HG0.out cs HQ1.out (fun _=>⟨rfl,_,rfl,HPOS.out⟩) HFIT.out HR0.out w'.heap.size w' hb0 (Nat.le_refl _) ?_);intro w2 hw2 hb2;rw [HSP.out] at hw2;have HW2:=Lib.hid hw2.out;have HB2:=Lib.hid hb2;rw [HLEN.out];clear hw2 hb2)
 clear hmk HPOS HFIT HSP HQ1 HG0 HM hb0 hx hbw HR0 HLEN
 have hsz:=HB2.out.size
 generalize w'.heap.size=g at *
 go_loopg [8] n (fun gg s8 wr=>∃ m:Nat,m≤n∧n-m≤gg∧(0 < n→0 < m)∧s8=.int .i64 m∧Hid (wr.heap[g]?=some (.cells (repL x m n).toArray 3 (0,0)))∧Hid (Below g w' wr))
 case atStart=>exact ⟨m0,by have:=HM0.out;omega,by omega,by have:=HM0.out;omega,by simp,HW2.out,HB2.out⟩
 case round=>
  obtain ⟨m,hm,hg,h0,rfl,HG,HB⟩:=hrel
  by_cases hlt:m < n
  · have hltz:(m:Int) < (n:Int):=by omega
    have hm0:(0:Int)≤(m:Int):=by omega
    obtain ⟨cs,hcs⟩:∃ cs,cs=List.replicate (min m (n-m)) (Value.int .i64 x):=⟨_,rfl⟩
    obtain ⟨r0,hr0⟩:∃ r0,r0=repL x m n:=⟨_,rfl⟩
    obtain ⟨q,hqe⟩:∃ q,q=min m (n-m):=⟨_,rfl⟩
    have hq1:1≤q:=by have:=h0 (by omega);omega
    have hq2:m+q≤n:=by omega
    have HG1:Hid (wr.drew.heap[g]?=some (.cells r0.toArray 3 (0,0))):=by show wr.heap[g]?=_;rw [hr0];exact HG.out
    have HLEN:Hid (cs.length=q):=by show _=_;rw [hcs,hqe];simp
    have HQ1:Hid (cs.length=Nat.min m (n-m)):=by show _=_;rw [hcs];simp
    have HFIT:Hid (m+cs.length≤r0.length):=by show _≤_;rw [hr0,hcs,repL_len hm];simp;omega
    have HPOS:Hid (∀ j v,cs[j]?=some v→wr.drew.cell? ((⟨g,0,none⟩:Addr).add j)=some v):=(show ∀ j v,_ from fun j v h=>by
     rw [hcs,List.getElem?_replicate] at h
     split at h
     · injection h with h
       subst h
       rw [show (⟨g,0,none⟩:Addr).add j=⟨g,0+j,none⟩ by unfold Addr.add;split <;> simp_all]
       show wr.cell? ⟨g,0+j,none⟩=_
       rw [cell_of_row wr g (0+j) (repL x m n).toArray 3 (0,0) HG.out,List.getElem?_toArray,repL_get (by omega)]
     · cases h)
    have HSP:Hid (splice r0 m cs=repL x (m+q) n):=by show _=_;rw [hr0,hcs,hqe];exact repL_splice (by omega)
    have HR0:Hid (∀ v ∈ cs,v.oneCell'=true):=by show ∀ v ∈ cs,_;rw [hcs];exact repL_one x _
    have HBd:Hid (Below g w' wr.drew):=HB.out.drew
    clear hcs hr0 hqe HG HB h0
    have hmn:(m:Int)≤(n:Int):=by omega
    have hnm2:¬n=m:=by omega
    go_wp2_with fail
    go_region_held3 (fun _=>True) (trivial) ((refine step_copy_splice rfl (.tmp 41) (.tmp 44) 34 34 rfl 3 Tryz.underlying34 (by kernel_rfl) (some ⟨g,m,none⟩) (some ⟨g,0,none⟩) (n-m) (n-m) m n (by rfl) (by rfl) g m r0 3 HG1.out cs HQ1.out (fun _=>⟨rfl,_,rfl,HPOS.out⟩) HFIT.out HR0.out g w' HBd.out (Nat.le_refl _) ?_;intro w2 hw2 hb2;rw [HSP.out] at hw2;have HW2:=Lib.hid hw2.out;have HB2:=Lib.hid hb2;rw [HLEN.out];clear hw2 hb2))
    go_wp2_with fail
    go_roundg (n-(m+q))
    case measure=>omega
    case rel=>exact ⟨m+q,by omega,by omega,by omega,by rw [IntWalk.i64_in ((m:Int)+(q:Int)) (by omega)];go_num,HW2.out,HB2.out⟩
  · have hltz:¬(m:Int) < (n:Int):=by omega
    have he:m=n:=by omega
    subst he
    have HF:=Lib.hid (HFN.out wr HG.out HB.out)
    go_wp2_with fail
    go_ret
    exact HF.out
end Go.Proofs.YtbnganlfelgogaaGreat
namespace Go.Proofs
open Go.Shelf
def Tryz.laysSlF20_f144_ren:Go.Shelf.Ren:=⟨fun | 20=>207 | n=>n,fun | 22=>34 | 24=>3 | 25=>261 | 3=>3 | 4=>4 | 0=>0 | n=>n,fun | n=>n⟩
theorem Tryz.laysSlF20_f144:Go.Proofs.SlLaysF.n20 Tryz.prog Tryz.laysSlF20_f144_ren:={
 mixed:=by kernel_rfl
 f20:=⟨Tryz.f207.name,by decide,Tryz.func207.trans (congrArg some (by kernel_rfl))⟩
 t0:=Tryz.underlying0
 a0:=Tryz.isAgg0
 z0:=Tryz.sizeOf0
 v0:=Tryz.zeroValue0
 t3:=Tryz.underlying3
 a3:=Tryz.isAgg3
 z3:=Tryz.sizeOf3
 v3:=Tryz.zeroValue3
 t4:=Tryz.underlying4
 a4:=Tryz.isAgg4
 z4:=Tryz.sizeOf4
 v4:=Tryz.zeroValue4
 t22:=Tryz.underlying34
 a22:=Tryz.isAgg34
 z22:=Tryz.sizeOf34
 v22:=Tryz.zeroValue34
 a24:=Tryz.isAgg3
 z24:=Tryz.sizeOf3
 t25:=Tryz.underlying261
 a25:=Tryz.isAgg261
 z25:=Tryz.sizeOf261
 v25:=Tryz.zeroValue261 }
end Go.Proofs
namespace Go.Proofs.YtbnganlfelgogaaGreat
open Go.RowKit Go.Sort
variable {α:Type} [Inhabited α]
theorem insSort144 (enc:α→Value) (hO:OneCell enc) (cf:α→α→Int) (g:Nat) (cb:Array Value) (blk off cap a b:Nat) (d:Array α) (w:World)
 (eg:∀ args w,(callFunc g args).run Tryz.prog w=.ok (.enter g args) w) (hcmp:CmpReads Tryz.prog g cb enc cf blk off d.size w) (hH:Holds enc w blk off d) (hab:a≤b) (hb:b≤d.size) (hsz:d.size < 4611686018427387904) :
 Calls Tryz.prog 207 #[.slice (some ⟨blk,off,none⟩) d.size cap,.int .i64 a,.int .i64 b,.func (.func g) #[] cb] w fun e w'=>
  e=.returned (.tuple #[])∧∃ n,w'=(putRow enc w blk off (Sort.insertionSort (ltOf cf) d a b)).drewN n:=
 Any.insertionSortCmpFunc_one Tryz.laysSlF20_f144 enc hO cf g cb blk off cap a b d w eg hcmp hH hab hb hsz
theorem insSort144_none (A:Option Addr) (cap:Nat) (fv:Value) (w:World):Calls Tryz.prog 207 #[.slice A 0 cap,.int .i64 0,.int .i64 0,fv] w fun e w'=>e=.returned (.tuple #[])∧w=w':=by
 go_enter Tryz.func207,Tryz.ntmps207
 go_wp2_with fail
 go_loopg [8] 0 (fun gg s8 wr=>s8=.int .i64 1∧wr=w)
 case atStart=>exact ⟨rfl,rfl⟩
 case round=>
  obtain ⟨rfl,rfl⟩:=hrel
  go_wp2_with fail
  go_end0
  exact ⟨rfl,rfl⟩
theorem stable137 (n:Nat) (hn:n < 20) (A:Option Addr) (cap:Nat) (fv:Value) (w:World) {Q:World→Prop} (h:Calls Tryz.prog 207 #[.slice A n cap,.int .i64 0,.int .i64 n,fv] w fun e w'=>e=.returned (.tuple #[])∧Q w') :
 Calls Tryz.prog 203 #[.slice A n cap,.int .i64 n,fv] w fun e w'=>e=.returned (.tuple #[])∧Q w':=by
 have hn1:¬(20:Int)≤(n:Int):=by omega
 have hn2:¬(20:Int) < (n:Int):=by omega
 have HC:=Lib.hid h
 clear h
 go_enter Tryz.func203,Tryz.ntmps203
 go_wp2_with fail
 go_loopg [7,8] 0 (fun gg s7 s8 wr=>s7=.int .i64 0∧s8=.int .i64 20∧wr=w)
 case atStart=>exact ⟨rfl,rfl,rfl⟩
 case round=>
  obtain ⟨rfl,rfl,rfl⟩:=hrel
  go_wp2_with fail
  refine HC.out.mono ?_
  rintro e w1 ⟨rfl,hq⟩
  have HQ:=Lib.hid hq
  clear hq HC
  go_wp2_with fail
  go_loopg [6] 0 (fun gg s6 wr=>s6=.int .i64 20∧wr=w1)
  case atStart=>exact ⟨rfl,rfl⟩
  case round=>
   obtain ⟨rfl,rfl⟩:=hrel
   go_wp2_with fail
   go_end0
   exact ⟨rfl,HQ.out⟩
theorem stable126 (n:Nat) (hn:n < 20) (A:Option Addr) (cap:Nat) (fv:Value) (w:World) {Q:World→Prop} (h:Calls Tryz.prog 207 #[.slice A n cap,.int .i64 0,.int .i64 n,fv] w fun e w'=>e=.returned (.tuple #[])∧Q w') :
 Calls Tryz.prog 190 #[.slice A n cap,fv] w fun e w'=>e=.returned (.tuple #[])∧Q w':=by
 have HC:=Lib.hid (stable137 n hn A cap fv w h)
 clear h
 go_enter Tryz.func190,Tryz.ntmps190
 go_wp2_with fail
 refine HC.out.mono ?_
 rintro e w1 ⟨rfl,hq⟩
 have HQ:=Lib.hid hq
 clear hq HC
 go_wp2_with fail
 go_end0
 exact ⟨rfl,HQ.out⟩
omit [Inhabited α] in
theorem isNaN_any (z:Int) (w:World):Calls Tryz.prog 214 #[.int .i64 z] w fun e w'=>e=.returned (.bool false)∧w=w':=by
 go_enter Tryz.func214,Tryz.ntmps214
 go_wp2_with fail
 go_ret
 exact ⟨by simp,rfl⟩
def cmpI (a b:Int):Int:=if a < b then -1 else if b < a then 1 else 0
theorem cmp_any (a b:Int) (w:World):Calls Tryz.prog 210 #[.int .i64 a,.int .i64 b] w fun e w'=>e=.returned (.int .i64 (cmpI a b))∧w=w':=by
 have HC:Hid (cmpI a b=if a < b then -1 else if b < a then 1 else 0):=rfl
 go_enter Tryz.func210,Tryz.ntmps210
 go_wp2_with fail
 refine (isNaN_any a w).mono ?_
 rintro e w1 ⟨rfl,rfl⟩
 go_wp2_with fail
 refine (isNaN_any b w).mono ?_
 rintro e w1 ⟨rfl,rfl⟩
 by_cases h1:a < b
 · go_wp2_with fail
   go_ret
   exact ⟨by rw [HC.out,if_pos h1];rfl,rfl⟩
 · by_cases h2:b < a
   · go_wp2_with fail
     go_ret
     exact ⟨by rw [HC.out,if_neg (Int.not_lt.2 h1),if_pos h2];rfl,rfl⟩
   · go_wp2_with fail
     go_ret
     exact ⟨by rw [HC.out,if_neg (Int.not_lt.2 h1),if_neg (Int.not_lt.2 h2)];rfl,rfl⟩
theorem widCmp_any (f:Fnt) (v vs:Value) (xb:Nat) (i k:Nat) (w:World) (hv:SoV w f.sorts v) (hX:Blk w xb 189 (xfs f v vs)) (hi:i < f.sorts.length) (hk:k < f.sorts.length) (hm:f.sorts.length≤1000) :
 Calls Tryz.prog 209 (#[.int .i64 i,.int .i64 k]++#[.pointer (some ⟨xb,0,none⟩)]) w fun e w'=>e=.returned (.int .i64 (cmpI (gs f.sorts k).width (gs f.sorts i).width))∧∃ q,w'=w.drewN q:=by
 obtain ⟨A,b,off,c,rfl,hA,hss,hc,hc2,hsz⟩:=hv
 obtain ⟨rfl,hbw⟩:=hA (by omega)
 obtain ⟨-,-,-,s3⟩:=hss k hk
 obtain ⟨-,-,-,r3⟩:=hss i hi
 have x2:=hX.cell 2
 have hiz:(i:Int) < (f.sorts.length:Int):=by omega
 have hkz:(k:Int) < (f.sorts.length:Int):=by omega
 have hi0:(0:Int)≤(i:Int):=by omega
 have hk0:(0:Int)≤(k:Int):=by omega
 have HC:Hid (∀ W,Calls Tryz.prog 210 #[.int .i64 (gs f.sorts k).width,.int .i64 (gs f.sorts i).width] W fun e w'=>e=.returned (.int .i64 (cmpI (gs f.sorts k).width (gs f.sorts i).width))∧W=w'):=(show ∀ W,_ from fun W=>cmp_any _ _ W)
 clear hss hA
 generalize (gs f.sorts k).width=a1 at *
 generalize (gs f.sorts i).width=a2 at *
 generalize cmpI a1 a2=r at *
 have HCQ:Hid (∀ W,Calls Tryz.prog 210 #[.int .i64 a1,.int .i64 a2] W fun e w'=>e=.returned (.int .i64 r)∧w'=W):=(show ∀ W,_ from fun W=>(HC.out W).mono fun _ _ ⟨h1,h2⟩=>⟨h1,h2.symm⟩)
 clear hX HC
 go_enter Tryz.func209,Tryz.ntmps209
 go_wp2_with fail
 go_quiet ((go_at_call 210;exact Calls.quiet_of_same (HCQ.out _)))
 go_wp2_with fail
 go_ret
 exact ⟨rfl,_,rfl⟩
end Go.Proofs.YtbnganlfelgogaaGreat
namespace Go.Proofs.YtbnganlfelgogaaGreat
open Go.RowKit Go.Sort
abbrev Sn (n:Nat):={ s:Nat // s < n }
def encSn {n:Nat} (x:Sn n):Value:=.int .i64 x.1
def cfS (f:Fnt) (x y:Sn f.sorts.length):Int:=cmpI (gs f.sorts y.1).width (gs f.sorts x.1).width
def spN (l:List TSort):Nat→List Nat
 | 0=>[]
 | k+1=>if (gs l k).kind == 3 then spN l k++[k] else spN l k
theorem spl_nat (l:List TSort):∀ k,spl l k=(spN l k).map (fun n:Nat=>(n:Int))
 | 0=>rfl
 | k+1=>by
  unfold spl spN
  rw [spl_nat l k]
  split
  · rw [List.map_append];rfl
  · rfl
theorem spN_lt (l:List TSort):∀ k,∀ s,s ∈ spN l k→s < k
 | 0,s,h=>by cases h
 | k+1,s,h=>by
  unfold spN at h
  split at h
  · rcases List.mem_append.1 h with h | h
    · have:=spN_lt l k s h;omega
    · have:s=k:=by simpa using h
      omega
  · have:=spN_lt l k s h;omega
def spS (f:Fnt):Array (Sn f.sorts.length):=((spN f.sorts f.sorts.length).pmap (fun s h=>⟨s,h⟩) (spN_lt f.sorts f.sorts.length)).toArray
theorem spS_val (f:Fnt):(spS f).toList.map (fun s=>((s.1:Nat):Int))=spl f.sorts f.sorts.length:=by
 rw [spl_nat]
 unfold spS
 rw [List.map_pmap]
 exact List.pmap_eq_map ..
theorem spS_size (f:Fnt):(spS f).size=(spl f.sorts f.sorts.length).length:=by
 have:=congrArg List.length (spS_val f)
 simpa using this
@[reducible] def snI {n:Nat} (h:0 < n):Inhabited (Sn n):=⟨⟨0,h⟩⟩
def ordW (f:Fnt):List Int:=if h:0 < f.sorts.length then ((@insertionSort (Sn f.sorts.length) (snI h) (ltOf (cfS f)) (spS f) 0 (spS f).size).toList.map fun s=>((s.1:Nat):Int)) else []
theorem ltS (f:Fnt) (x y:Sn f.sorts.length):ltOf (cfS f) x y=decide ((gs f.sorts y.1).width < (gs f.sorts x.1).width):=by
 unfold ltOf cfS cmpI
 by_cases h1:(gs f.sorts y.1).width < (gs f.sorts x.1).width
 · simp [h1]
 · by_cases h2:(gs f.sorts x.1).width < (gs f.sorts y.1).width <;> simp [h1,h2]
theorem swoS (f:Fnt):SWO (ltOf (cfS f)) where
 irrefl x:=by rw [ltS];simp
 trans x y z h1 h2:=by rw [ltS] at *;simp at *;omega
 ntrans x y z h1 h2:=by rw [ltS] at *;simp at *;omega
theorem insS_perm (f:Fnt) [Inhabited (Sn f.sorts.length)]:(insertionSort (ltOf (cfS f)) (spS f) 0 (spS f).size).size=(spS f).size∧(insertionSort (ltOf (cfS f)) (spS f) 0 (spS f).size).toList.Perm (spS f).toList:=by
 obtain ⟨⟨hz,-,hp2⟩,-⟩:=insertionSort_holds (swoS f) (spS f) 0 (spS f).size (Nat.zero_le _) (Nat.le_refl _)
 refine ⟨hz,?_⟩
 generalize insertionSort (ltOf (cfS f)) (spS f) 0 (spS f).size=X at *
 have e1:(X.extract 0 (spS f).size).toList=X.toList:=by rw [←hz];simp
 have e2:((spS f).extract 0 (spS f).size).toList=(spS f).toList:=by simp
 rw [e1,e2] at hp2
 exact hp2
theorem ordW_perm (f:Fnt):(ordW f).Perm (spl f.sorts f.sorts.length):=by
 unfold ordW
 split
 · rename_i h
   have:=(@insS_perm f (snI h)).2.map (fun s:Sn f.sorts.length=>((s.1:Nat):Int))
   rw [spS_val] at this
   exact this
 · rename_i h
   have:f.sorts.length=0:=by omega
   rw [this]
   exact List.Perm.refl _
theorem ordW_len (f:Fnt):(ordW f).length=(spl f.sorts f.sorts.length).length:=(ordW_perm f).length_eq
section
variable {α:Type} [Inhabited α]
theorem heap_put {w:World} {g n:Nat} {os:Array Obj} {cur:Array Value} {e:TypeId} {fr:Nat × Nat} (enc:α→Value) (d:Array α) (hb:w.heap[g]?=some (.cells cur e fr)) :
 (sortWorld enc w g 0 n d os).heap[g]?=some (.cells (putCells enc 0 d cur) e fr):=by
 have hg:g < w.heap.size:=(Array.getElem?_eq_some_iff.1 hb).1
 unfold sortWorld
 rw [heap_grow_old _ _ (by simpa using hg)]
 simp [putRow,mapBlock,Sort.ahead,Array.getElem?_modify,hb,onCells]
theorem grown_put {w:World} {g n:Nat} {os:Array Obj} (enc:α→Value) (d:Array α):w.grownBy (sortWorld enc w g 0 n d os) (some g):=by
 refine ⟨rfl,rfl,rfl,by simp [sortWorld],fun k hk hne=>?_⟩
 unfold sortWorld
 rw [heap_grow_old _ _ (by simpa using hk)]
 have:g≠k:=fun e=>hne (by rw [e])
 simp [putRow,mapBlock,Sort.ahead,Array.getElem?_modify,this]
end
theorem enters127:∀ (args:Array Value) (w:World),(callFunc 209 args).run Tryz.prog w=.ok (.enter 209 args) w:=enters_of' Tryz.func209 (by kernel_rfl) rfl
theorem order_any (f:Fnt) (v vs:Value) (xb:Nat) (u:Value) (B:Nat) (w0 w:World) (hB:Below w0.heap.size w0 w) (hv:SoV w0 f.sorts v) (hX:Blk w xb 189 (xfs f v vs)) (h0:0 < f.sorts.length) (hm:f.sorts.length≤1000) (hk:(spl f.sorts f.sorts.length).length < 20)
 (hO:IO w B (spl f.sorts f.sorts.length) u) (hb0:w0.heap.size≤B) (hxb:xb < B) :
 Calls Tryz.prog 190 #[u,.func (.func 209) #[] #[.pointer (some ⟨xb,0,none⟩)]] w fun e w'=>e=.returned (.tuple #[])∧IO w' B (ordW f) u∧w.grownBy w' u.ownBlock:=by
 letI:Inhabited (Sn f.sorts.length):=snI h0
 have hlen:=ordW_len f
 have hor:ordW f=(insertionSort (ltOf (cfS f)) (spS f) 0 (spS f).size).toList.map fun s=>((s.1:Nat):Int):=by unfold ordW;rw [dif_pos h0]
 rcases hO.2 with ⟨rfl,hz⟩ | ⟨g,cap,cur,rfl,hg,hh,h1,h2,h3,h4⟩
 · have e:spl f.sorts f.sorts.length=[]:=List.eq_nil_of_length_eq_zero hz
   have e2:ordW f=[]:=List.eq_nil_of_length_eq_zero (by rw [hlen];exact hz)
   refine (stable126 0 (by omega) none 0 _ w (Q:=fun w'=>w=w') ((insSort144_none none 0 _ w).mono (fun _ _ h=>h))).mono ?_
   rintro e' w' ⟨rfl,rfl⟩
   refine ⟨rfl,?_,⟨rfl,rfl,rfl,Nat.le_refl _,fun _ _ _=>rfl⟩⟩
   rw [e2];rw [e] at hO;exact hO
 · have hgl:g < w.heap.size:=(Array.getElem?_eq_some_iff.1 hh).1
   have hsz:=spS_size f
   have hcl:∀ j,j < (spS f).size→cur[j]?=some (encSn (spS f)[j]!):=by
    intro j hj
    have hj2:j < (spl f.sorts f.sorts.length).length:=by omega
    have h5:=zv_get (zs:=spl f.sorts f.sorts.length) hj2
    rw [←h4,List.getElem?_take,if_pos (by omega),Array.getElem?_toList] at h5
    rw [h5]
    congr 1
    unfold encSn
    congr 1
    have h6:=congrArg (fun l:List Int=>l[j]?) (spS_val f)
    simp only [List.getElem?_map,Array.getElem?_toList] at h6
    rw [Array.getElem?_eq_getElem hj] at h6
    unfold gz
    rw [List.getD_eq_getElem?_getD,←h6,getElem!_pos _ j hj]
    rfl
   have hH:Holds encSn w g 0 (spS f):=fun j hj=>⟨by
    rw [Nat.zero_add]
    have hb:Blk w g 3 cur:=hh
    rw [hb.cell j];exact hcl j hj,Blk.frozen (t:=3) hh _⟩
   have hcmp:CmpReads Tryz.prog 209 #[.pointer (some ⟨xb,0,none⟩)] encSn (cfS f) g 0 (spS f).size w:=by
    intro m os dk hs x y
    have hgr:=grown_put (w:=w) (g:=g) (n:=m) (os:=os) encSn dk
    have hbl:Below w0.heap.size w0 (sortWorld encSn w g 0 m dk os):=by
     refine ⟨hgr.os.trans hB.os,hgr.tape.trans hB.tape,hgr.output.trans hB.output,Nat.le_trans hB.size hgr.size,fun k hk2=>?_⟩
     exact (hgr.block k (Nat.lt_of_lt_of_le hk2 hB.size) (by intro e;injection e with e;omega)).trans (hB.block k hk2)
    have hX2:Blk (sortWorld encSn w g 0 m dk os) xb 189 (xfs f v vs):=(hgr.block _ hX.lt (by intro e;injection e with e;omega)).trans hX
    exact widCmp_any f v vs xb x.1 y.1 _ (hv.below hbl) hX2 x.2 y.2 hm
   have hcall:=insSort144 encSn (fun _=>rfl) (cfS f) 209 #[.pointer (some ⟨xb,0,none⟩)] g 0 cap 0 (spS f).size (spS f) w enters127 hcmp hH (Nat.zero_le _) (Nat.le_refl _) (by omega)
   rw [hsz] at hcall
   refine (stable126 _ hk _ cap _ w hcall).mono ?_
   rintro e' w' ⟨rfl,n,rfl⟩
   have hp:=insS_perm f
   rw [←hsz]
   have e9:(putRow encSn w g 0 (insertionSort (ltOf (cfS f)) (spS f) 0 (spS f).size)).drewN n=sortWorld encSn w g 0 n (insertionSort (ltOf (cfS f)) (spS f) 0 (spS f).size) #[]:=(sortWorld_none ..).symm
   rw [e9]
   refine ⟨rfl,?_,by rw [ownBlock_some];exact grown_put encSn _⟩
   have hblk:=heap_put (n:=n) (os:=#[]) encSn (insertionSort (ltOf (cfS f)) (spS f) 0 (spS f).size) hh
   show World.ownsRow _ _ _ _ _ _ _
   rw [hlen,←hsz]
   refine own_of_block hblk hg (by rw [zv_len];omega) (by omega) h2 (by simp [putCells,h3]) (fun j hj=>?_)
   rw [Nat.mul_one] at hj
   have hj':j < (insertionSort (ltOf (cfS f)) (spS f) 0 (spS f).size).size:=by rw [hp.1];omega
   have hjc:j < cur.size:=by omega
   have hjo:j < (ordW f).length:=by rw [hlen];omega
   rw [zv_get hjo]
   simp only [putCells,Array.getElem?_mapIdx,Array.getElem?_eq_getElem hjc,Option.map_some]
   rw [if_pos ⟨Nat.zero_le _,by omega⟩]
   congr 1
   unfold encSn
   congr 1
   unfold gz
   rw [List.getD_eq_getElem?_getD,hor,List.getElem?_map,Array.getElem?_toList,Array.getElem?_eq_getElem hj',Nat.sub_zero,getElem!_pos _ j hj']
   rfl
end Go.Proofs.YtbnganlfelgogaaGreat
namespace Go.Proofs.YtbnganlfelgogaaGreat
open Go.RowKit
def repK (os cs:List Int):Nat→List Int
 | 0=>[]
 | k+1=>repK os cs k++List.replicate (gz cs (gz os k).toNat).toNat (gz os k)
def widR (f:Fnt) (cs:List Int):List Int:=repK (ordW f) cs (ordW f).length
theorem repK_mono (os cs:List Int):∀ n k,k≤n→(repK os cs k).length≤(repK os cs n).length
 | 0,k,h=>by have:k=0:=by omega
             subst this;exact Nat.le_refl _
 | n+1,k,h=>by
  by_cases e:k=n+1
  · subst e;exact Nat.le_refl _
  · have:=repK_mono os cs n k (by omega)
    show _≤(repK os cs n++_).length
    rw [List.length_append];omega
theorem spl_in (l:List TSort) (k:Nat):∀ x,x ∈ spl l k→0≤x∧x < (k:Int):=by
 intro x hx
 rw [spl_nat] at hx
 obtain ⟨s,hs,rfl⟩:=List.mem_map.1 hx
 have:=spN_lt l k s hs
 omega
theorem ordW_in (f:Fnt):InF f (ordW f):=by
 rw [inF_iff]
 intro x hx
 exact spl_in _ _ x ((ordW_perm f).mem_iff.1 hx)
theorem widest_any (f:Fnt) (v vs:Value) (cs:List Int) (vc:Value) (w:World) (hv:SoV w f.sorts v) (hs:IV w (spl f.sorts f.sorts.length) vs) (hc:IV w cs vc) (h0:0 < f.sorts.length) (hm:f.sorts.length≤1000) (hk:(spl f.sorts f.sorts.length).length < 20)
 (hcs:CsOk f.sorts.length cs) (htot:(widR f cs).length≤100000) :
 Calls Tryz.prog 204 #[.agg (xfs f v vs),vc] w (CloPost w (widR f cs)):=by
 have hb0:=below_new w (.cells (xfs f v vs) 189)
 have hX:=Blk.new w 189 (xfs f v vs)
 have HP:Hid (∀ W u,IO W w.heap.size (widR f cs) u→Below w.heap.size w W→CloPost w (widR f cs) (.returned u) W):=(show ∀ W u,_ from fun W u h1 h2=>⟨u,rfl,h1,h2⟩)
 have HWE:Hid (widR f cs=repK (ordW f) cs (ordW f).length):=rfl
 have HV:=Lib.hid hv
 have HC:=Lib.hid hc
 have HCS:=Lib.hid hcs
 have HB0:=Lib.hid hb0
 have HX:=Lib.hid hX
 obtain ⟨Av,cv,rfl⟩:=hv.shape
 obtain ⟨As,bs,os,cz,rfl,hAs,hzs,-,-⟩:=(hs.below hb0).open
 obtain ⟨Ac,bc,oc,cc,rfl,hAc,hzc,-,-⟩:=hc.open
 have HCL:=Lib.hid (cloneI_any (spl f.sorts f.sorts.length) As bs os cz _ hAs hzs (by omega))
 have x1:=hX.cell 3
 have hOL:=ordW_len f
 have HOL:=Lib.hid hOL
 have HAC:=Lib.hid hAc
 have HZC:=Lib.hid hzc
 clear hv hs hc hb0 hX hAs hzs hcs hAc hzc hOL
 go_enter Tryz.func204,Tryz.ntmps204
 go_wp2_with fail
 refine HCL.out.mono ?_
 rintro e w1 ⟨u,rfl,hio,hb1⟩
 have HB1:=Lib.hid (HB0.out.trans (hb1.mono HB0.out.size))
 have HX1:=Lib.hid (HX.out.below hb1 HX.out.lt)
 have hbz:(w.alloc (.cells (xfs f (.slice Av f.sorts.length cv) (.slice As (spl f.sorts f.sorts.length).length cz)) 189)).heap.size=w.heap.size+1:=by simp
 rw [hbz] at hio
 have HC1:=Lib.hid (order_any f _ _ w.heap.size u (w.heap.size+1) w w1 HB1.out HV.out HX1.out h0 hm hk hio (by omega) (by omega))
 clear hio hb1 HCL x1 hbz
 go_wp2_with fail
 refine HC1.out.mono ?_
 rintro e w2 ⟨rfl,hio2,hg2⟩
 have HB2:Hid (Below w.heap.size w w2):=(show Below _ _ _ from HB1.out.grown hg2 HB1.out.size (fun t ht=>by have:=(World.ownsRow.lt (hio2) t ht).1;omega))
 have HO2:=Lib.hid hio2
 obtain ⟨Ao,co,rfl⟩:=hio2.shape
 have HLE:=Lib.hid (repK_mono (ordW f) cs (ordW f).length)
 have htl:(repK (ordW f) cs (ordW f).length).length≤100000:=htot
 have HIN:=Lib.hid (ordW_in f)
 have HR0:Hid (IO w2 w2.heap.size (repK (ordW f) cs 0) (.slice none 0 0)):=World.ownsRow_nil _ _ _ _
 have HRS:Hid (∀ k,repK (ordW f) cs (k+1)=repK (ordW f) cs k++List.replicate (gz cs (gz (ordW f) k).toNat).toNat (gz (ordW f) k)):=(show ∀ k,_ from fun k=>rfl)
 clear hio2 hg2 htot HC1 HB1 HX1 HX HB0
 generalize hN:(ordW f).length=N at *
 have HN:=Lib.hid hN
 clear hN
 have hN20:N < 20:=by have:=HOL.out;omega
 go_wp2_with fail
 have HOW:Hid (∀ W,Below w2.heap.size w2 W→IO W (w.heap.size+1) (ordW f) (.slice Ao N co)):=(show ∀ W,_ from fun W hW=>HO2.out.below hW)
 go_loopg [6,8,17] N (fun gg s6 _ s17 wr=>∃ k:Nat,k≤N∧N-k≤gg∧s17=.int .i64 (k:Int)∧Hid (IO wr w2.heap.size (repK (ordW f) cs k) s6)∧Hid (Below w2.heap.size w2 wr))
 case atStart=>exact ⟨0,by omega,by omega,rfl,HR0.out,Below.refl _ _⟩
 case round=>
  obtain ⟨k,hk,hg,rfl,HR,HB⟩:=hrel
  have hbz:=HB.out.size
  have HBW:=Lib.hid (HB2.out.trans (HB.out.mono HB2.out.size))
  by_cases hlt:k < N
  · have hltz:(k:Int) < (N:Int):=by omega
    obtain ⟨go_,he,hgo1,hgo2,z1,-,-⟩:=(HOW.out wr HB.out).at (i:=k) (by rw [HN.out];exact hlt)
    subst he
    have hin:=HIN.out k (by rw [HN.out];exact hlt)
    obtain ⟨q,hq⟩:=Int.eq_ofNat_of_zero_le hin.1
    have hqn:q < f.sorts.length:=by omega
    have hcl:=HCS.out.1
    obtain ⟨rfl,hbl⟩:=HAC.out (by omega)
    have z2:=HBW.out.cell (p:=⟨bc,oc+q,none⟩) hbl |>.trans (HZC.out q (by omega))
    have hcb:=HCS.out.2 q hqn
    have HS1:=Lib.hid (HRS.out k)
    have hl1:=HLE.out (k+1) (by omega)
    have hl0:=HLE.out k (by omega)
    rw [HS1.out,List.length_append,List.length_replicate] at hl1
    have HNX:Hid (repK (ordW f) cs (k+1)=repK (ordW f) cs k++List.replicate (gz cs q).toNat (q:Int)):=(show _=_ from by rw [HS1.out,hq];rfl)
    rw [hq] at z1 hl1
    rw [show ((q:Nat):Int).toNat=q from rfl] at hl1
    have hqlc:(q:Int) < (cs.length:Int):=by omega
    obtain ⟨m,hm2⟩:=Int.eq_ofNat_of_zero_le hcb.1
    rw [hm2] at z2
    have HNX2:Hid (repK (ordW f) cs (k+1)=repK (ordW f) cs k++List.replicate m (q:Int)):=(show _=_ from by rw [HNX.out,hm2];rfl)
    rw [hm2] at hl1 hcb
    rw [show ((m:Nat):Int).toNat=m from rfl] at hl1
    have hbn:=below_new wr (.cells #[.int .i64 (q:Int)] 3)
    have hcl0:(wr.alloc (.cells #[.int .i64 (q:Int)] 3)).cell? ⟨wr.heap.size,0,none⟩=some (.int .i64 (q:Int)):=(Blk.new wr 3 #[.int .i64 (q:Int)]).cell 0
    have z2b:(wr.alloc (.cells #[.int .i64 (q:Int)] 3)).cell? ⟨bc,oc+q,none⟩=some (.int .i64 (m:Int)):=(hbn.cell (p:=⟨bc,oc+q,none⟩) (by have:=HBW.out.size;show bc < _;omega)).trans z2
    have HRP:=Lib.hid (repeat_any (q:Int) m wr.heap.size 0 1 _ hcl0 (by omega))
    have HRB:=Lib.hid (HR.out.below hbn)
    have HBN:=Lib.hid hbn
    obtain ⟨A6,c6,rfl⟩:=HR.out.shape
    clear hin hq hm2 hcb hbn hcl
    obtain ⟨i3,hi3,hz3,hy3,hx3⟩:=info_parts info3
    generalize repK (ordW f) cs k=zs at *
    go_wp2_with (first
     | (at_builtin
        refine wpList_app rfl _ _ 34 rfl w2.heap.size 3 i3 _ 1 8 Tryz.underlying34 hi3 hz3 hy3 hx3 rfl (by omega) _ zs.length _ (by rfl) HR3.out A3 b3 o3 m c3 _ (by rfl) HL3.out HA3.out HZ3.out HO3.out (by simp only [maxLen];omega) (by omega) hbs3 ?_
        intro v7 w7 hown7 hg7 hat7
        have HG7:=Lib.hid hg7
        have HO7:=Lib.hid hown7
        clear hown7 hg7 hat7)
     | (with_reducible refine HRP.out.mono ?_
        rintro e w3 ⟨v3,rfl,hio3,hb3⟩
        have HB3:Hid (Below w2.heap.size w2 w3):=(show Below _ _ _ from HB.out.trans ((HBN.out.trans (hb3.mono HBN.out.size)).mono hbz))
        have HR3:=Lib.hid (HRB.out.below hb3)
        obtain ⟨A3,b3,o3,c3,he3,hA3,hz3',-,-⟩:=hio3.iv.open
        rw [List.length_replicate] at he3 hA3
        subst he3
        have HL3:Hid ((zv (List.replicate m (q:Int))).length=m*1):=(show _=_ from by rw [zv_len];simp)
        have HA3:=Lib.hid hA3
        have HZ3:Hid (∀ j,j < m*1→w3.cell? ⟨b3,o3+j,none⟩=(zv (List.replicate m (q:Int)))[j]?):=(show ∀ j,_ from fun j hj=>hz3'.news j (by rw [List.length_replicate];exact hj))
        have HO3:=Lib.hid (zv_one (List.replicate m (q:Int)))
        have hbs3:w2.heap.size≤w3.heap.size:=HB3.out.size
        clear hA3 hz3' hio3 hb3))
    have HR8:Hid (IO w7 w2.heap.size (repK (ordW f) cs (k+1)) v7):=(show World.ownsRow _ _ _ _ _ _ _ from by
     rw [HNX2.out,zv_app,List.length_append,List.length_replicate]
     exact HO7.out)
    have HB8:Hid (Below w2.heap.size w2 w7):=(show Below _ _ _ from HB3.out.grown HG7.out HB3.out.size (fun t ht=>(World.ownsRow.lt HR3.out t ht).1))
    go_roundg (N-(k+1))
    case measure=>omega
    case rel=>exact ⟨k+1,by omega,by omega,by go_num,HR8.out,HB8.out⟩
  · have hltz:¬(k:Int) < (N:Int):=by omega
    have hke:k=N:=by omega
    subst hke
    go_wp2_with fail
    go_ret
    refine HP.out _ _ ?_ HBW.out
    rw [HWE.out]
    exact HR.out.base HB2.out.size
end Go.Proofs.YtbnganlfelgogaaGreat
