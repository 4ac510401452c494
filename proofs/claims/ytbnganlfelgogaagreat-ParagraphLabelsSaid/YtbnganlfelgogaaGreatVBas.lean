/- Small things of numbers, names and errors, and how lists of numbers lie in memory. -/
import Derived.Test.YtbnganlfelgogaaGreatProg
import Derived.WalkKit
import Derived.WalkSpells
import Derived.WalkLawsBesides
import Derived.Deep.LoopGhost
import Derived.Deep.AppendLies
import Derived.Lib.QuietBelow
import Derived.Deep.OwnRows
import Derived.Lib.Hide
import Derived.Lib.ConvBytes
set_option linter.unusedSimpArgs false
set_option linter.unusedVariables false
set_option maxRecDepth 100000
set_option maxHeartbeats 40000000
namespace Go.Proofs.YtbnganlfelgogaaGreat
open Go.RowKit
theorem pz : (∀ (a : Act) (d : Tmp) (v : Value), a.put (some d) v = ⟨a.tmps.setIfInBounds d v, a.defers⟩) ∧ (∀ (a : Act) (v : Value), a.put none v = a) ∧ (∀ {α : Type} {xs : List α} {i : Nat} (h : i < xs.toArray.size), xs.toArray[i] = xs[i]'(by simpa using h)) ∧ (∀ {α : Type} (a : α) (l : List α) (h : 0 < (a :: l).length), (a :: l)[0] = a) ∧ (∀ {α : Type} (a : α) (l : List α) (i : Nat) (h : i + 1 < (a :: l).length), (a :: l)[i + 1] = l[i]'(by simpa using h)) ∧ (∀ {α : Type} (l : List α) (i : Nat) (a : α), l.toArray.setIfInBounds i a = (l.set i a).toArray) ∧ (∀ {α : Type} {x : α} {l : List α} {a : α}, (x :: l).set 0 a = a :: l) ∧ (∀ {α : Type} {x : α} {l : List α} {i : Nat} {a : α}, (x :: l).set (i + 1) a = x :: l.set i a) :=
 ⟨fun _ _ _ => rfl, fun _ _ => rfl, fun h => List.getElem_toArray h, fun a l h => List.getElem_cons_zero a l h, fun a l i h => List.getElem_cons_succ a l i h, fun l i a => List.setIfInBounds_toArray l i a, fun {_ _ _ _} => List.set_cons_zero, fun {_ _ _ _ _} => List.set_cons_succ⟩
theorem ret_bool {a b:Bool} (h:a=b):Ending.returned (.bool a)=.returned (.bool b):=by rw [h]
theorem ret_int {a b:Int} (h:a=b):Ending.returned (.int .i64 a)=.returned (.int .i64 b):=by rw [h]
def gz (zs:List Int) (j:Nat):Int:=zs.getD j 0
def ZsAt (w:World) (b off:Nat) (zs:List Int):Prop:=∀ j,j < zs.length→w.cell? ⟨b,off+j,none⟩=some (.int .i64 (gz zs j))
theorem ZsAt.below {B:Nat} {w w':World} {b off:Nat} {zs:List Int} (h:ZsAt w b off zs) (hb:Below B w w') (hB:b < B):ZsAt w' b off zs:=
 fun j hj=>(hb.cell (p:=⟨b,off+j,none⟩) hB).trans (h j hj)
def Lies (A:Option Addr) (n:Nat) (B b off:Nat):Prop:=0 < n→A=some ⟨b,off,none⟩∧b < B
theorem Lies.mono {A:Option Addr} {n B B' b off:Nat} (h:Lies A n B b off) (hB:B≤B'):Lies A n B' b off:=fun hn=>⟨(h hn).1,Nat.lt_of_lt_of_le (h hn).2 hB⟩
def win (n lo hi:Int):Bool:=decide (lo≤n∧n≤hi)
theorem win_t {n lo hi:Int}:win n lo hi=true↔lo≤n∧n≤hi:=by unfold win;exact decide_eq_true_iff
theorem win_f {n lo hi:Int}:win n lo hi=false↔¬(lo≤n∧n≤hi):=by unfold win;exact decide_eq_false_iff_not
def nmEq (a b:ByteArray):Bool:=a.toList == b.toList
def idx (pr:Nat→Bool):Nat→Int
 | 0=>-1
 | n+1=>if idx pr n=-1 then (if pr n then (n:Int) else -1) else idx pr n
theorem idx_none {pr:Nat→Bool}:∀ {n:Nat},(∀ j,j < n→pr j=false)→idx pr n=-1:=by
 intro n
 induction n with
 | zero=>intro _;rfl
 | succ n ih=>intro h;simp only [idx];rw [if_pos (ih fun j hj=>h j (by omega)),h n (by omega)];rfl
theorem idx_hit {pr:Nat→Bool} {k:Nat} (hk:pr k=true) (h:∀ j,j < k→pr j=false):∀ {n:Nat},k < n→idx pr n=k:=by
 intro n
 induction n with
 | zero=>intro h;omega
 | succ n ih=>
  intro hn
  simp only [idx]
  by_cases e:k=n
  · subst e;rw [if_pos (idx_none h),if_pos hk]
  · rw [ih (by omega),if_neg (by omega)]
theorem idx_neg {pr:Nat→Bool} {n:Nat} (h:¬0≤idx pr n):∀ j,j < n→pr j=false:=by
 induction n with
 | zero=>intro j hj;omega
 | succ n ih=>
  simp only [idx] at h
  intro j hj
  by_cases h1:idx pr n=-1
  · rw [if_pos h1] at h
    by_cases h2:pr n=true
    · rw [if_pos h2] at h;omega
    · by_cases e:j=n
      · subst e;simpa using h2
      · exact ih (by omega) j (by omega)
  · rw [if_neg h1] at h
    exfalso
    have:∀ m,idx pr m=-1∨0≤idx pr m:=by
     intro m
     induction m with
     | zero=>left;rfl
     | succ m ih=>
      simp only [idx]
      by_cases a:idx pr m=-1
      · rw [if_pos a];by_cases b:pr m=true
        · rw [if_pos b];right;omega
        · rw [if_neg b];left;rfl
      · rw [if_neg a];exact ih
    rcases this n with h3 | h3
    · exact h1 h3
    · exact h h3
def nmb (s:ByteArray) (k:Nat):Int:=((s.data.toList.getD k 0).toNat:Int)
theorem nmb_range (s:ByteArray) (k:Nat):0≤nmb s k∧nmb s k≤255:=by
 unfold nmb;have:=(s.data.toList.getD k 0).toNat_lt;omega
def badc (k:Nat) (c:Int):Prop:=¬(97≤c∧c≤122)∧¬(65≤c∧c≤90)∧(k=0∨(c≠45∧(c < 48∨57 < c)))
instance (k:Nat) (c:Int):Decidable (badc k c):=by unfold badc;exact inferInstance
def isNm (s:ByteArray):Bool:=decide ((∀ k,k < s.size→¬badc k (nmb s k))∧0 < s.size∧s.size≤12)
theorem isNm_false {s:ByteArray} {k:Nat} (h:k < s.size) (hb:badc k (nmb s k)):false=isNm s:=by
 symm;unfold isNm;rw [decide_eq_false_iff_not];exact fun hh=>hh.1 k h hb
theorem isNm_all {s:ByteArray} (h:∀ j,j < s.size→¬badc j (nmb s j)):isNm s=decide (0 < s.size∧s.size≤12):=by
 unfold isNm;rw [decide_eq_decide];exact ⟨fun hh=>hh.2,fun hh=>⟨h,hh⟩⟩
theorem bytes_nil {s:ByteArray}:s.toList=[]↔s.size=0:=by
 rw [ByteArray.toList_eq,List.eq_nil_iff_length_eq_zero];exact Iff.rfl
def fstE (g:Nat→Int):Nat→Int × Int
 | 0=>(0,0)
 | n+1=>if (fstE g n).2=0 then (if g n=0 then (0,0) else ((n:Int),g n)) else fstE g n
theorem fstE_none {g:Nat→Int}:∀ {n:Nat},(∀ j,j < n→g j=0)→fstE g n=(0,0):=by
 intro n
 induction n with
 | zero=>intro _;rfl
 | succ n ih=>intro h;simp only [fstE];rw [ih fun j hj=>h j (by omega),if_pos rfl,if_pos (h n (by omega))]
theorem fstE_hit {g:Nat→Int} {k:Nat} (hk:g k≠0) (h:∀ j,j < k→g j=0):∀ {n:Nat},k < n→fstE g n=((k:Int),g k):=by
 intro n
 induction n with
 | zero=>intro h;omega
 | succ n ih=>
  intro hn
  simp only [fstE]
  by_cases e:k=n
  · subst e;rw [fstE_none h,if_pos rfl,if_neg hk]
  · rw [ih (by omega),if_neg hk]
theorem fstE_zero {g:Nat→Int} {n:Nat} (h:(fstE g n).2=0):∀ j,j < n→g j=0:=by
 induction n with
 | zero=>intro j hj;omega
 | succ n ih=>
  simp only [fstE] at h
  intro j hj
  by_cases h1:(fstE g n).2=0
  · rw [if_pos h1] at h
    by_cases h2:g n=0
    · by_cases e:j=n
      · subst e;exact h2
      · exact ih h1 j (by omega)
    · rw [if_neg h2] at h;exact absurd h h2
  · rw [if_neg h1] at h;exact absurd h h1
theorem enters_of' {P:Program} {f:FuncId} {fn:Func} {c:Code} (hf:P.funcs[f]?=some fn) (hname:(fn.name == "runtime.NumGoroutine")=false) (hb:fn.body=some c) :
 ∀ (args:Array Value) (w:World),(callFunc f args).run P w=.ok (.enter f args) w:=by
 intro args w
 have h1:fn.name≠"runtime.NumGoroutine":=by simpa using hname
 simp [callFunc,hf,h1,hb,mark]
theorem below_new (w:World) (o:Obj):Below w.heap.size w (w.alloc o):=(Below.refl _ _).alloc (Nat.le_refl _) _
theorem bne_t {a b:Int} (h:a≠b):(a != b)=true:=by rw [bne_iff_ne];exact h
theorem bne_f {a b:Int} (h:a=b):(a != b)=false:=by rw [h];simp
def sumTo:Nat→(Nat→Int)→Int
 | 0,_=>0
 | n+1,f=>sumTo n f+f n
def rowG (w:World) (g n:Nat) (f:Nat→Value):Prop:=∃ (cur:Array Value) (e:TypeId),w.heap[g]?=some (.cells cur e (0,0))∧n≤cur.size∧∀ j,j < n→cur[j]?=some (f j)
section
variable {w w':World} {g n:Nat} {f h:Nat→Value}
theorem rowG.cell (r:rowG w g n f) {j:Nat} (hj:j < n):w.cell? ⟨g,j,none⟩=some (f j):=by
 obtain ⟨c,e,hb,_,hc⟩:=r
 simp [World.cell?,hb,hc j hj]
theorem rowG.frozen (r:rowG w g n f) (j:Nat):w.frozen? ⟨g,j,none⟩=false:=by
 obtain ⟨c,e,hb,_⟩:=r
 simp [World.frozen?,hb]
theorem rowG.lt (r:rowG w g n f):g < w.heap.size:=by
 obtain ⟨c,e,hb,_⟩:=r
 exact (Array.getElem?_eq_some_iff.1 hb).1
theorem rowG.congr (r:rowG w g n f) (e:∀ j,j < n→f j=h j):rowG w g n h:=by
 obtain ⟨c,t,hb,hn,hc⟩:=r
 exact ⟨c,t,hb,hn,fun j hj=>by rw [hc j hj,e j hj]⟩
theorem rowG.set (r:rowG w g n f) (i:Nat) (v:Value):rowG (w.setCell ⟨g,i,none⟩ v) g n (fun j=>if j=i then v else f j):=by
 obtain ⟨c,t,hb,hn,hc⟩:=r
 refine ⟨c.setIfInBounds i v,t,?_,by simpa using hn,fun j hj=>?_⟩
 · simp [World.setCell,Array.getElem?_modify,hb]
 · rw [Array.getElem?_setIfInBounds]
   by_cases e:j=i
   · subst e
     rw [if_pos rfl,if_pos (by omega)]
     exact congrArg some (if_pos rfl).symm
   · rw [if_neg (fun h=>e h.symm)]
     show c[j]?=some (if j=i then v else f j)
     rw [if_neg e]
     exact hc j hj
theorem rowG.drew (r:rowG w g n f):rowG w.drew g n f:=r
end
theorem grown_of_below {a w:World} (h:Below a.heap.size a w) (row:Option Nat):a.grownBy w row:=⟨h.os,h.tape,h.output,h.size,fun i hi _=>h.block i hi⟩
def Blk (w:World) (g:Nat) (t:TypeId) (cs:Array Value):Prop:=w.heap[g]?=some (.cells cs t (0,0))
section
variable {w w':World} {g:Nat} {t:TypeId} {cs:Array Value}
theorem Blk.lt (h:Blk w g t cs):g < w.heap.size:=by
 rcases Nat.lt_or_ge g w.heap.size with hlt | hge
 · exact hlt
 · unfold Blk at h;rw [Array.getElem?_eq_none hge] at h;cases h
theorem Blk.new (w:World) (t:TypeId) (cs:Array Value):Blk (w.alloc (.cells cs t)) w.heap.size t cs:=heap_alloc_new w _
theorem Blk.cell (h:Blk w g t cs) (i:Nat):w.cell? ⟨g,i,none⟩=cs[i]?:=cell_of_row w g i cs t (0,0) h
theorem Blk.frozen (h:Blk w g t cs) (i:Nat):w.frozen? ⟨g,i,none⟩=false:=by
 unfold Blk at h
 simp [World.frozen?,h]
theorem Blk.grown {row:Option Nat} (h:Blk w g t cs) (hb:w.grownBy w' row) (hg:some g≠row):Blk w' g t cs:=(hb.block g h.lt hg).trans h
theorem Blk.set_ (h:Blk w g t cs) (i:Nat) (u:Value):Blk (w.setCell ⟨g,i,none⟩ u) g t (cs.setIfInBounds i u):=by
 unfold Blk at h ⊢
 simp [World.setCell,Array.getElem?_modify,h]
theorem own_blk_ne {base:Nat} {e:TypeId} {size n:Nat} {v:Value} {xs:List Value} (h:w.ownsRow base e size v n xs) (hg:Blk w g t cs) (hne:e≠t):some g≠v.ownBlock:=by
 rcases h.2 with ⟨rfl,_⟩ | ⟨g',cap,cur,rfl,_,hh,_⟩
 · simp [Value.ownBlock]
 · intro he
   have:g=g':=by simpa [Value.ownBlock] using he
   subst this
   unfold Blk at hg
   rw [hg] at hh
   injection hh with hh
   injection hh with _ ht
   exact hne ht.symm
end
theorem ownBlock_some (g n c:Nat):(Value.slice (some ⟨g,0,none⟩) n c).ownBlock=some g:=rfl
theorem Blk.below {B:Nat} {w w':World} {g:Nat} {t:TypeId} {cs:Array Value} (h:Blk w g t cs) (hb:Below B w w') (hg:g < B):Blk w' g t cs:=(hb.block g hg).trans h
def RV (W:World) (v:Value) (n sz:Nat) (f:Nat→Value):Prop:=
 ∃ A b off c,v=.slice A n c∧Lies A n W.heap.size b off∧(∀ j,j < n*sz→W.cell? ⟨b,off+j,none⟩=some (f j))∧n≤c∧c≤9223372036854775807
theorem RV.below {W W':World} {v:Value} {n sz:Nat} {f:Nat→Value} (h:RV W v n sz f) (hb:Below W.heap.size W W'):RV W' v n sz f:=by
 obtain ⟨A,b,off,c,rfl,h1,h2,h3⟩:=h
 refine ⟨A,b,off,c,rfl,h1.mono hb.size,fun j hj=>?_,h3⟩
 rcases Nat.eq_zero_or_pos n with e | e
 · subst e;omega
 · exact (hb.cell (p:=⟨b,off+j,none⟩) (h1 e).2).trans (h2 j hj)
theorem RV.congr {W:World} {v:Value} {n sz:Nat} {f g:Nat→Value} (h:RV W v n sz f) (e:∀ j,j < n*sz→f j=g j):RV W v n sz g:=by
 obtain ⟨A,b,off,c,rfl,h1,h2,h3⟩:=h
 exact ⟨A,b,off,c,rfl,h1,fun j hj=>by rw [h2 j hj,e j hj],h3⟩
theorem RV.nil (W:World) (sz:Nat) (f:Nat→Value):RV W (.slice none 0 0) 0 sz f:=⟨none,0,0,0,rfl,fun h=>absurd h (Nat.lt_irrefl _),fun j hj=>by omega,by omega,by omega⟩
def IV (W:World) (zs:List Int) (v:Value):Prop:=RV W v zs.length 1 (fun j=>.int .i64 (gz zs j))
theorem IV.below {W W':World} {zs:List Int} {v:Value} (h:IV W zs v) (hb:Below W.heap.size W W'):IV W' zs v:=RV.below h hb
theorem IV.nil (W:World):IV W [] (.slice none 0 0):=RV.nil W 1 _
theorem IV.open {W:World} {zs:List Int} {v:Value} (h:IV W zs v):∃ A b off c,v=.slice A zs.length c∧Lies A zs.length W.heap.size b off∧ZsAt W b off zs∧zs.length≤c∧c≤9223372036854775807:=by
 obtain ⟨A,b,off,c,h0,h1,h2,h3⟩:=h
 exact ⟨A,b,off,c,h0,h1,fun j hj=>h2 j (by omega),h3⟩
theorem IV.mk {W:World} {zs:List Int} {A:Option Addr} {b off c:Nat} (h1:Lies A zs.length W.heap.size b off) (h2:ZsAt W b off zs) (h3:zs.length≤c) (h4:c≤9223372036854775807):IV W zs (.slice A zs.length c):=
 ⟨A,b,off,c,rfl,h1,fun j hj=>h2 j (by omega),h3,h4⟩
def gl (ls:List (List Int)) (i:Nat):List Int:=ls.getD i []
def LV (W:World) (ls:List (List Int)) (v:Value):Prop:=∃ hs:Nat→Value,RV W v ls.length 1 hs∧∀ i,i < ls.length→IV W (gl ls i) (hs i)
theorem LV.below {W W':World} {ls:List (List Int)} {v:Value} (h:LV W ls v) (hb:Below W.heap.size W W'):LV W' ls v:=by
 obtain ⟨hs,h1,h2⟩:=h
 exact ⟨hs,h1.below hb,fun i hi=>(h2 i hi).below hb⟩
end Go.Proofs.YtbnganlfelgogaaGreat
namespace Go.Proofs.YtbnganlfelgogaaGreat
def ML:Nat:=1000000000000000
abbrev Tb:=Nat→Nat→Option Nat
def cost (t:Tb):Nat→List Nat→Option Nat
 | _,[]=>some 0
 | i,j :: l=>match t i j with
  | none=>none
  | some d=>match cost t j l with
   | none=>none
   | some c=>some (d+c)
def lastOf:Nat→List Nat→Nat
 | i,[]=>i
 | _,j :: l=>lastOf j l
def Path (t:Tb) (i:Nat) (b:List Nat) (j c:Nat):Prop:=cost t i b=some c∧lastOf i b=j
theorem Path.nil (t:Tb) (i:Nat):Path t i [] i 0:=⟨rfl,rfl⟩
theorem Path.cons {t:Tb} {i k j d c:Nat} {b:List Nat} (h:t i k=some d) (p:Path t k b j c):Path t i (k :: b) j (d+c):=by
 obtain ⟨h1,h2⟩:=p
 exact ⟨by simp [cost,h,h1],h2⟩
theorem Path.inv {t:Tb} {i k j c:Nat} {b:List Nat} (p:Path t i (k :: b) j c):∃ d e,t i k=some d∧Path t k b j e∧c=d+e:=by
 obtain ⟨h1,h2⟩:=p
 unfold cost at h1
 split at h1
 · cases h1
 · rename_i d hd
   split at h1
   · cases h1
   · rename_i e he
     cases h1
     exact ⟨d,e,hd,⟨he,h2⟩,rfl⟩
theorem Path.snoc {t:Tb} {k j d:Nat} (h:t k j=some d):∀ {b:List Nat} {i c:Nat},Path t i b k c→Path t i (b++[j]) j (c+d)
 | [],i,c,p=>by
  obtain ⟨h1,h2⟩:=p
  cases h1
  obtain rfl:i=k:=h2
  rw [Nat.zero_add]
  exact Path.cons h (Path.nil t j)
 | m :: b,i,c,p=>by
  obtain ⟨d',e,h1,h2,rfl⟩:=p.inv
  rw [Nat.add_assoc]
  exact Path.cons h1 (Path.snoc h h2)
theorem Path.append {t:Tb} {k j c':Nat} {b':List Nat} (q:Path t k b' j c'):∀ {b:List Nat} {i c:Nat},Path t i b k c→Path t i (b++b') j (c+c')
 | [],i,c,p=>by
  obtain ⟨h1,h2⟩:=p
  cases h1
  obtain rfl:i=k:=h2
  rw [Nat.zero_add]
  exact q
 | m :: b,i,c,p=>by
  obtain ⟨d',e,h1,h2,rfl⟩:=p.inv
  rw [Nat.add_assoc]
  exact Path.cons h1 (Path.append q h2)
structure TbOk (t:Tb) (n D:Nat):Prop where
 up:∀ {i j d},t i j=some d→i < j∧j < n∧d≤D
 pos:0 < n
 ml:n*D < ML
theorem Path.len {t:Tb} {n D:Nat} (ht:TbOk t n D):∀ {b:List Nat} {i j c:Nat},Path t i b j c→i+b.length≤j∧c≤b.length*D
 | [],i,j,c,p=>by
  obtain ⟨h1,h2⟩:=p
  cases h1
  obtain rfl:i=j:=h2
  simp
 | m :: b,i,j,c,p=>by
  obtain ⟨d,e,h1,h2,rfl⟩:=p.inv
  have h3:=Path.len ht h2
  have h4:=ht.up h1
  simp only [List.length_cons,Nat.add_mul]
  omega
theorem Path.lt {t:Tb} {n D:Nat} (ht:TbOk t n D) {b:List Nat} {i j c:Nat} (p:Path t i b j c) (hj:j < n):c < ML∧b.length < n:=by
 have h:=p.len ht
 have h2:b.length*D≤n*D:=Nat.mul_le_mul_right _ (by omega)
 have:=ht.ml
 omega
def fwd (t:Tb):Nat→Nat→Nat × Int
 | 0,j=>if j=0 then (0,-1) else (ML,-1)
 | k+1,j=>match t k j with
  | none=>fwd t k j
  | some d=>if (fwd t k k).1 < ML∧(fwd t k k).1+d < (fwd t k j).1 then ((fwd t k k).1+d,(k:Int)) else fwd t k j
def dist (t:Tb) (j:Nat):Nat:=(fwd t j j).1
theorem fwd_le_ML (t:Tb):∀ (k j:Nat),(fwd t k j).1≤ML
 | 0,j=>by unfold fwd;split <;> simp
 | k+1,j=>by
  have:=fwd_le_ML t k j
  unfold fwd
  split
  · exact this
  · split
    · rename_i d hd h
      show (fwd t k k).1+d≤ML
      omega
    · exact this
theorem dist_le_ML (t:Tb) (j:Nat):dist t j≤ML:=fwd_le_ML t j j
theorem fwd_stay {t:Tb} {n D:Nat} (ht:TbOk t n D) {j:Nat}:∀ (k:Nat),j≤k→fwd t k j=fwd t j j
 | 0,h=>by
  obtain rfl:j=0:=by omega
  rfl
 | k+1,h=>by
  by_cases e:j=k+1
  · rw [e]
  · have hk:=fwd_stay ht k (by omega:j≤k)
    have h0:t k j=none:=by
     cases hd:t k j with
     | none=>rfl
     | some d=>have:=ht.up hd;omega
    show (match t k j with | none=>fwd t k j | some d=>_)=_
    rw [h0]
    exact hk
theorem fwd_dist {t:Tb} {n D:Nat} (ht:TbOk t n D) {j k:Nat} (h:j≤k):(fwd t k j).1=dist t j:=by rw [fwd_stay ht k h];rfl
theorem dist_zero (t:Tb):dist t 0=0:=rfl
theorem fwd_step {t:Tb} {k j d:Nat} (h:t k j=some d) (hk:dist t k < ML):(fwd t (k+1) j).1≤dist t k+d:=by
 unfold fwd
 rw [h]
 show (if (fwd t k k).1 < ML∧(fwd t k k).1+d < (fwd t k j).1 then ((fwd t k k).1+d,(k:Int)) else fwd t k j).1≤_
 split
 · exact Nat.le_refl _
 · rename_i h2
   have:dist t k=(fwd t k k).1:=rfl
   omega
theorem fwd_mono (t:Tb) (j:Nat):∀ {k k':Nat},k≤k'→(fwd t k' j).1≤(fwd t k j).1:=by
 intro k k' h
 induction h with
 | refl=>exact Nat.le_refl _
 | step h ih=>
  rename_i m
  refine Nat.le_trans ?_ ih
  show (match t m j with | none=>fwd t m j | some d=>_).1≤_
  split
  · exact Nat.le_refl _
  · split
    · rename_i d hd h2
      show (fwd t m m).1+d≤_
      omega
    · exact Nat.le_refl _
theorem dist_step {t:Tb} {n D:Nat} (ht:TbOk t n D) {i j d:Nat} (h:t i j=some d):dist t j≤dist t i+d:=by
 by_cases hi:dist t i < ML
 · have h1:=ht.up h
   have h2:=fwd_step h hi
   have h3:=fwd_mono t j (show i+1≤j by omega)
   show (fwd t j j).1≤_
   omega
 · have:=dist_le_ML t j
   omega
theorem label_le {t:Tb} {L:Nat→Nat} (h:∀ i j d,t i j=some d→L j≤L i+d):∀ {b:List Nat} {i j c:Nat},Path t i b j c→L j≤L i+c
 | [],i,j,c,p=>by
  obtain ⟨h1,h2⟩:=p
  cases h1
  obtain rfl:i=j:=h2
  simp
 | m :: b,i,j,c,p=>by
  obtain ⟨d,e,h1,h2,rfl⟩:=p.inv
  have h3:=label_le h h2
  have h4:=h _ _ _ h1
  omega
theorem dist_le {t:Tb} {n D:Nat} (ht:TbOk t n D) {b:List Nat} {j c:Nat} (p:Path t 0 b j c):dist t j≤c:=by
 have:=label_le (L:=dist t) (fun i j d h=>dist_step ht h) p
 rw [dist_zero] at this
 omega
theorem fwd_by {t:Tb} {n D:Nat} (ht:TbOk t n D):∀ (k j:Nat),j≠0→(fwd t k j).1 < ML→∃ (i d:Nat),(fwd t k j).2=(i:Int)∧i < k∧t i j=some d∧dist t i < ML∧(fwd t k j).1=dist t i+d
 | 0,j,h0,h=>by
  unfold fwd at h
  rw [if_neg h0] at h
  exact absurd h (Nat.lt_irrefl _)
 | k+1,j,h0,h=>by
  have ih:=fwd_by ht k j h0
  unfold fwd at h ⊢
  cases hd:t k j with
  | none=>
   simp only [hd] at h ⊢
   obtain ⟨i,d,a1,a2,a3,a4,a5⟩:=ih h
   exact ⟨i,d,a1,by omega,a3,a4,a5⟩
  | some d=>
   simp only [hd] at h ⊢
   split at h
   · rename_i h2
     rw [if_pos h2]
     exact ⟨k,d,rfl,by omega,hd,h2.1,rfl⟩
   · rename_i h2
     rw [if_neg h2]
     obtain ⟨i,d,a1,a2,a3,a4,a5⟩:=ih h
     exact ⟨i,d,a1,by omega,a3,a4,a5⟩
theorem dist_by {t:Tb} {n D:Nat} (ht:TbOk t n D) {j:Nat} (hj:j≤n) (h0:j≠0) (h:dist t j < ML):∃ (i d:Nat),(fwd t n j).2=(i:Int)∧i < j∧t i j=some d∧dist t i < ML∧dist t j=dist t i+d:=by
 rw [fwd_stay ht n hj]
 exact fwd_by ht j j h0 h
theorem dist_path {t:Tb} {n D:Nat} (ht:TbOk t n D):∀ (j:Nat),dist t j < ML→∃ b,Path t 0 b j (dist t j):=fun j=>by
 induction j using Nat.strongRecOn with
 | ind j ih=>
  intro h
  by_cases h0:j=0
  · subst h0
    exact ⟨[],Path.nil t 0⟩
  · obtain ⟨i,d,-,h2,h3,h4,h5⟩:=fwd_by ht j j h0 h
    obtain ⟨b,hb⟩:=ih i h2 h4
    exact ⟨b++[j],by rw [show dist t j=dist t i+d from h5];exact Path.snoc h3 hb⟩
theorem dist_iff {t:Tb} {n D:Nat} (ht:TbOk t n D) {j:Nat} (hj:j < n):dist t j < ML↔∃ b c,Path t 0 b j c:=
 ⟨fun h=>by obtain ⟨b,hb⟩:=dist_path ht j h;exact ⟨b,_,hb⟩,fun ⟨b,c,hb⟩=>by have:=dist_le ht hb;have:=(hb.lt ht hj).1;omega⟩
def hop (t:Tb):Nat→Nat→Option Nat
 | 0,j=>if j=0 then some 0 else none
 | k+1,j=>match t k j with
  | none=>hop t k j
  | some _=>match hop t k k with
   | none=>hop t k j
   | some m=>match hop t k j with
    | none=>some (m+1)
    | some x=>if m+1 < x then some (m+1) else some x
theorem hop_stay {t:Tb} {n D:Nat} (ht:TbOk t n D) {j:Nat}:∀ (k:Nat),j≤k→hop t k j=hop t j j
 | 0,h=>by
  obtain rfl:j=0:=by omega
  rfl
 | k+1,h=>by
  by_cases e:j=k+1
  · rw [e]
  · have hk:=hop_stay ht k (by omega:j≤k)
    have h0:t k j=none:=by
     cases hd:t k j with
     | none=>rfl
     | some d=>have:=ht.up hd;omega
    show (match t k j with | none=>hop t k j | some _=>_)=_
    rw [h0]
    exact hk
theorem hop_path {t:Tb} {n D:Nat} (ht:TbOk t n D):∀ (k j x:Nat),hop t k j=some x→∃ b c,Path t 0 b j c∧b.length=x
 | 0,j,x,h=>by
  unfold hop at h
  split at h
  · rename_i h0
    subst h0
    cases h
    exact ⟨[],0,Path.nil t 0,rfl⟩
  · cases h
 | k+1,j,x,h=>by
  unfold hop at h
  split at h
  · exact hop_path ht k j x h
  · rename_i d hd
    split at h
    · exact hop_path ht k j x h
    · rename_i m hm
      obtain ⟨b,c,hb,hl⟩:=hop_path ht k k m hm
      have hnew:∃ b c,Path t 0 b j c∧b.length=m+1:=⟨b++[j],c+d,Path.snoc hd hb,by simp [hl]⟩
      split at h
      · cases h;exact hnew
      · rename_i y hy
        split at h
        · cases h;exact hnew
        · cases h;exact hop_path ht k j _ hy
def leO:Option Nat→Nat→Prop
 | none,_=>False
 | some x,y=>x≤y
def inS (t:Tb) (prev:Nat→Nat):Nat→Nat→Nat × Int
 | 0,_=>(ML,-1)
 | k+1,j=>match t k j with
  | none=>inS t prev k j
  | some d=>if prev k < ML∧prev k+d < (inS t prev k j).1 then (prev k+d,(k:Int)) else inS t prev k j
def inD (t:Tb) (n:Nat):Nat→Nat→Nat × Int
 | 0,j=>if j=0 then (0,-1) else (ML,-1)
 | m+1,j=>inS t (fun i=>(inD t n m i).1) n j
theorem inS_le_ML (t:Tb) (p:Nat→Nat):∀ (k j:Nat),(inS t p k j).1≤ML
 | 0,j=>Nat.le_refl _
 | k+1,j=>by
  have:=inS_le_ML t p k j
  unfold inS
  split
  · exact this
  · split
    · rename_i d hd h
      show p k+d≤ML
      omega
    · exact this
theorem inD_le_ML (t:Tb) (n:Nat):∀ (m j:Nat),(inD t n m j).1≤ML
 | 0,j=>by unfold inD;split <;> simp
 | m+1,j=>inS_le_ML t _ n j
theorem inS_by {t:Tb} {p:Nat→Nat}:∀ (k j:Nat),(inS t p k j).1 < ML→∃ (i d:Nat),(inS t p k j).2=(i:Int)∧i < k∧t i j=some d∧p i < ML∧(inS t p k j).1=p i+d
 | 0,j,h=>absurd h (Nat.lt_irrefl _)
 | k+1,j,h=>by
  have ih:=inS_by (t:=t) (p:=p) k j
  unfold inS at h ⊢
  cases hd:t k j with
  | none=>
   simp only [hd] at h ⊢
   obtain ⟨i,d,a1,a2,a3,a4,a5⟩:=ih h
   exact ⟨i,d,a1,by omega,a3,a4,a5⟩
  | some d=>
   simp only [hd] at h ⊢
   split at h
   · rename_i h2
     rw [if_pos h2]
     exact ⟨k,d,rfl,by omega,hd,h2.1,rfl⟩
   · rename_i h2
     rw [if_neg h2]
     obtain ⟨i,d,a1,a2,a3,a4,a5⟩:=ih h
     exact ⟨i,d,a1,by omega,a3,a4,a5⟩
theorem inD_by {t:Tb} {n D:Nat} (ht:TbOk t n D) {m j:Nat} (h:(inD t n (m+1) j).1 < ML):∃ (i d:Nat),(inD t n (m+1) j).2=(i:Int)∧i < j∧t i j=some d∧(inD t n m i).1 < ML∧(inD t n (m+1) j).1=(inD t n m i).1+d:=by
 obtain ⟨i,d,a1,a2,a3,a4,a5⟩:=inS_by (t:=t) (p:=fun i=>(inD t n m i).1) n j h
 exact ⟨i,d,a1,(ht.up a3).1,a3,a4,a5⟩
end Go.Proofs.YtbnganlfelgogaaGreat
namespace Go.Proofs.YtbnganlfelgogaaGreat
structure TSort where
 name:ByteArray
 text:ByteArray
 kind:Int
 width:Int
instance:Inhabited TSort:=⟨⟨⟨#[]⟩,⟨#[]⟩,0,0⟩⟩
structure Fnt where
 name:ByteArray
 body:Int
 sorts:List TSort
structure PWord where
 sorts:List Int
 breaks:List Int
instance:Inhabited PWord:=⟨⟨[],[]⟩⟩
structure Rls where
 measure:Int
 indent:Int
 least:Int
 most:Int
 gap:Int
 hyphen:Int
 single:Int
 double:Int
def gs (l:List TSort) (j:Nat):TSort:=l.getD j default
def gw (l:List PWord) (j:Nat):PWord:=l.getD j default
def hasNm (l:List TSort) (i:Nat) (s:ByteArray):Bool:=decide (0≤idx (fun j=>nmEq (gs l j).name s) i)
def hasTx (l:List TSort) (i:Nat) (s:ByteArray):Bool:=decide (0≤idx (fun j=>(gs l j).kind != 3 && nmEq (gs l j).text s) i)
def prB (kind:Int) (s:ByteArray):Bool:=
 decide ((if kind=1 then s.size=1 else if kind=2 then 2≤s.size∧s.size≤4 else s.size=0)∧∀ k,k < s.size→33≤nmb s k∧nmb s k≤126)
def soErr (l:List TSort) (i:Nat):Int:=
 if isNm (gs l i).name=false then 4
 else if hasNm l i (gs l i).name=true then 5
 else if win (gs l i).kind 1 3=false then 15
 else if win (gs l i).width 1 100000=false then 2
 else if prB (gs l i).kind (gs l i).text=false then 3
 else if (gs l i).kind≠3∧hasTx l i (gs l i).text=true then 13
 else 0
def fnErr (f:Fnt):Int × Int:=
 if isNm f.name=false then (0,4)
 else if win f.body 1 144=false then (0,2)
 else if f.sorts.length=0 then (0,10)
 else if 120 < f.sorts.length then (0,8)
 else fstE (soErr f.sorts) f.sorts.length
def spB (f:Fnt) (s:Int):Bool:=(gs f.sorts s.toNat).kind == 3
def wd (f:Fnt) (s:Int):Int:=(gs f.sorts s.toNat).width
def ruErr (f:Fnt) (r:Rls):Int:=
 if (fnErr f).2≠0 then (fnErr f).2
 else if win r.measure 1 1000000=false∨win r.indent 0 20000=false∨win r.least 1 10000=false∨win r.most 1 10000=false then 2
 else if r.most < r.least then 9
 else if win r.gap 0 (f.sorts.length-1)=false then 6
 else if spB f r.gap=false then 15
 else if win (wd f r.gap) r.least r.most=false then 9
 else if win r.hyphen 0 (f.sorts.length-1)=false then 6
 else if spB f r.hyphen=true then 15
 else if win r.single 0 100000=false∨win r.double 0 100000=false then 2
 else 0
def stErr (f:Fnt) (l:List Int) (j:Nat):Int:=
 if win (gz l j) 0 (f.sorts.length-1)=false then 6 else if spB f (gz l j)=true then 15 else 0
def brErr (n:Nat) (l:List Int) (j:Nat):Int:=
 if win (gz l j) 1 (n-1)=false then 2 else if 0 < j∧gz l j≤gz l (j-1) then 9 else 0
def wErr (f:Fnt) (ws:List PWord) (i:Nat):Int:=
 if (gw ws i).sorts.length=0 then 10
 else if 60 < (gw ws i).sorts.length then 8
 else if (fstE (stErr f (gw ws i).sorts) (gw ws i).sorts.length).2≠0 then (fstE (stErr f (gw ws i).sorts) (gw ws i).sorts.length).2
 else (fstE (brErr (gw ws i).sorts.length (gw ws i).breaks) (gw ws i).breaks.length).2
def plW (i:Nat) (w:PWord):List (Nat × Nat):=(i,0) :: w.breaks.map fun b=>(i,b.toNat)
def plTo (ws:List PWord):Nat→List (Nat × Nat)
 | 0=>[]
 | k+1=>plTo ws k++plW k (gw ws k)
def places (ws:List PWord):List (Nat × Nat):=plTo ws ws.length++[(ws.length,0)]
def gpl (l:List (Nat × Nat)) (j:Nat):Nat × Nat:=l.getD j (0,0)
def wsErr (f:Fnt) (ws:List PWord):Int × Int:=
 if (fnErr f).2≠0 then (0,(fnErr f).2)
 else if 200 < ws.length then (0,8)
 else if (fstE (wErr f ws) ws.length).2≠0 then fstE (wErr f ws) ws.length
 else if 300 < (places ws).length then (0,8)
 else (0,0)
def paErr (f:Fnt) (r:Rls) (ws:List PWord):Int:=if ruErr f r≠0 then ruErr f r else (wsErr f ws).2
def cutB (a:Nat × Nat) (i:Nat):Nat:=if i=a.1 then a.2 else 0
def cutE (ws:List PWord) (b:Nat × Nat) (i:Nat):Nat:=if i=b.1 then b.2 else (gw ws i).sorts.length
def cutW (ws:List PWord) (a b:Nat × Nat) (i:Nat):List Int:=((gw ws i).sorts.take (cutE ws b i)).drop (cutB a i)
def cnt (ws:List PWord) (a b:Nat × Nat):Nat:=min (b.1+1) ws.length-a.1
def rawP (ws:List PWord) (a b:Nat × Nat):Nat→List (List Int)
 | 0=>[]
 | k+1=>if cutB a (a.1+k) < cutE ws b (a.1+k) then rawP ws a b k++[cutW ws a b (a.1+k)] else rawP ws a b k
def hyph (h:Int) (l:List (List Int)):List (List Int):=l.dropLast++[l.getLastD []++[h]]
def piecesF (ws:List PWord) (h:Int) (a b:Nat × Nat):List (List Int):=if 0 < b.2 then hyph h (rawP ws a b (cnt ws a b)) else rawP ws a b (cnt ws a b)
def refP (ws:List PWord) (h:Int) (a b:Nat × Nat):Nat→List (List Int)
 | 0=>[]
 | k+1=>if cutB a (a.1+k) < cutE ws b (a.1+k) then refP ws h a b k++[if a.1+k=b.1 then cutW ws a b (a.1+k)++[h] else cutW ws a b (a.1+k)] else refP ws h a b k
def lenS (ps:List (List Int)):Nat:=ps.flatten.length
def widL (f:Fnt) (l:List Int):Int:=(l.map (wd f)).sum
def widS (f:Fnt) (ps:List (List Int)):Int:=widL f ps.flatten
def longB (ps:List (List Int)):Bool:=ps.any fun x=>decide (60 < x.length)
structure Ln where
 ps:List (List Int)
 room:Int
 ends:Bool
def Ln.g (l:Ln):Int:=l.ps.length-1
def lineF (f:Fnt) (r:Rls) (ws:List PWord) (i j:Nat):Ln:=
 let ps:=piecesF ws r.hyphen (gpl (places ws) i) (gpl (places ws) j)
 ⟨ps,r.measure-widS f ps-(if i=0 then r.indent else 0),decide (j=(places ws).length-1)⟩
def wideB (l:Ln):Bool:=decide (30 < l.ps.length∨189 < lenS l.ps)
def allowB (r:Rls) (l:Ln):Bool:=
 if longB l.ps=true then false
 else if 30 < l.ps.length∨188 < lenS l.ps∨20000 < l.room then false
 else if l.ends=true then decide (l.g*r.least≤l.room)
 else if 0 < l.g then win l.room (l.g*r.least) (l.g*r.most)
 else decide (l.room=0)
def absI (x:Int):Int:=if x < 0 then -x else x
def demF (f:Fnt) (r:Rls) (l:Ln) (da db:Bool):Int:=
 (if 0 < l.g∧¬(l.ends=true∧l.g*wd f r.gap≤l.room) then (absI (l.room-l.g*wd f r.gap) / l.g)*(absI (l.room-l.g*wd f r.gap) / l.g) else 0)
  + (if db=true then r.single+(if da=true then r.double else 0) else 0)
def divB (ws:List PWord) (i:Nat):Bool:=decide (0 < (gpl (places ws) i).2)
def tab (f:Fnt) (r:Rls) (ws:List PWord):Tb:=fun i j=>
 if i < j∧j < (places ws).length∧allowB r (lineF f r ws i j)=true then some (demF f r (lineF f r ws i j) (divB ws i) (divB ws j)).toNat else none
structure WOk (ns:Nat) (w:PWord):Prop where
 some:0 < w.sorts.length
 most:w.sorts.length≤60
 st:∀ j,j < w.sorts.length→0≤gz w.sorts j∧gz w.sorts j < ns
 br:∀ j,j < w.breaks.length→1≤gz w.breaks j∧gz w.breaks j < w.sorts.length
 up:∀ j,0 < j→j < w.breaks.length→gz w.breaks (j-1) < gz w.breaks j
theorem wErr_ok {f:Fnt} {ws:List PWord} {i:Nat} (h:wErr f ws i=0):WOk f.sorts.length (gw ws i)∧∀ j,j < (gw ws i).sorts.length→spB f (gz (gw ws i).sorts j)=false:=by
 unfold wErr at h
 by_cases h1:(gw ws i).sorts.length=0
 · rw [if_pos h1] at h;omega
 rw [if_neg h1] at h
 by_cases h2:60 < (gw ws i).sorts.length
 · rw [if_pos h2] at h;omega
 rw [if_neg h2] at h
 by_cases h3:(fstE (stErr f (gw ws i).sorts) (gw ws i).sorts.length).2≠0
 · rw [if_pos h3] at h;exact absurd h h3
 rw [if_neg h3] at h
 have hs:=fstE_zero (Decidable.not_not.1 h3)
 have hb:=fstE_zero h
 have hs':∀ j,j < (gw ws i).sorts.length→(0≤gz (gw ws i).sorts j∧gz (gw ws i).sorts j < f.sorts.length)∧spB f (gz (gw ws i).sorts j)=false:=fun j hj=>by
  have:=hs j hj
  unfold stErr at this
  by_cases a:win (gz (gw ws i).sorts j) 0 (f.sorts.length-1)=false
  · rw [if_pos a] at this;omega
  rw [if_neg a] at this
  by_cases b:spB f (gz (gw ws i).sorts j)=true
  · rw [if_pos b] at this;omega
  have a':=win_t.1 (Bool.not_eq_false _ ▸ a)
  exact ⟨by omega,by simpa using b⟩
 have hb':∀ j,j < (gw ws i).breaks.length→(1≤gz (gw ws i).breaks j∧gz (gw ws i).breaks j < (gw ws i).sorts.length)∧(0 < j→gz (gw ws i).breaks (j-1) < gz (gw ws i).breaks j):=fun j hj=>by
  have:=hb j hj
  unfold brErr at this
  by_cases a:win (gz (gw ws i).breaks j) 1 ((gw ws i).sorts.length-1)=false
  · rw [if_pos a] at this;omega
  rw [if_neg a] at this
  have a':=win_t.1 (Bool.not_eq_false _ ▸ a)
  refine ⟨by omega,fun h0=>?_⟩
  by_cases b:0 < j∧gz (gw ws i).breaks j≤gz (gw ws i).breaks (j-1)
  · rw [if_pos b] at this;omega
  · omega
 exact ⟨⟨by omega,by omega,fun j hj=>(hs' j hj).1,fun j hj=>(hb' j hj).1,fun j h0 hj=>(hb' j hj).2 h0⟩,fun j hj=>(hs' j hj).2⟩
end Go.Proofs.YtbnganlfelgogaaGreat
namespace Go.Proofs.YtbnganlfelgogaaGreat
def WsOk (ns:Nat) (ws:List PWord):Prop:=∀ i,i < ws.length→WOk ns (gw ws i)
def lexLt (a b:Nat × Nat):Prop:=a.1 < b.1∨(a.1=b.1∧a.2 < b.2)
theorem br_lt {ns:Nat} {w:PWord} (h:WOk ns w) {i:Nat}:∀ {j:Nat},i < j→j < w.breaks.length→gz w.breaks i < gz w.breaks j:=by
 intro j
 induction j with
 | zero=>intro h1;omega
 | succ j ih=>
  intro h1 h2
  have h3:=h.up (j+1) (by omega) h2
  rw [Nat.add_sub_cancel] at h3
  by_cases e:i=j
  · subst e;exact h3
  · have:=ih (by omega) (by omega);omega
theorem gz_get {l:List Int} {j:Nat} (h:j < l.length):gz l j=l[j]:=by unfold gz;simp [List.getD_eq_getElem?_getD,h]
theorem gpl_get {l:List (Nat × Nat)} {j:Nat} (h:j < l.length):gpl l j=l[j]:=by unfold gpl;simp [List.getD_eq_getElem?_getD,h]
theorem plW_pair {ns:Nat} {w:PWord} (h:WOk ns w) (i:Nat):(plW i w).Pairwise lexLt:=by
 unfold plW
 rw [List.pairwise_cons]
 refine ⟨fun b hb=>?_,?_⟩
 · obtain ⟨x,hx,rfl⟩:=List.mem_map.1 hb
   obtain ⟨j,hj,rfl⟩:=List.getElem_of_mem hx
   have:=h.br j hj
   rw [gz_get hj] at this
   exact Or.inr ⟨rfl,by show 0 < (w.breaks[j]).toNat;omega⟩
 · rw [List.pairwise_map,List.pairwise_iff_getElem]
   intro a b ha hb hab
   have h1:=br_lt h hab hb
   have h2:=h.br a ha
   rw [gz_get ha,gz_get hb] at h1
   rw [gz_get ha] at h2
   exact Or.inr ⟨rfl,by show (w.breaks[a]).toNat < (w.breaks[b]).toNat;omega⟩
theorem plW_mem {ns:Nat} {w:PWord} (h:WOk ns w) {i:Nat} {p:Nat × Nat} (hp:p ∈ plW i w):p.1=i∧p.2 < w.sorts.length:=by
 unfold plW at hp
 rcases List.mem_cons.1 hp with rfl | hp
 · exact ⟨rfl,h.some⟩
 · obtain ⟨x,hx,rfl⟩:=List.mem_map.1 hp
   obtain ⟨j,hj,rfl⟩:=List.getElem_of_mem hx
   have:=h.br j hj
   rw [gz_get hj] at this
   exact ⟨rfl,by show (w.breaks[j]).toNat < _;omega⟩
theorem plTo_mem {ns:Nat} {ws:List PWord} (h:WsOk ns ws):∀ {k:Nat},k≤ws.length→∀ {p:Nat × Nat},p ∈ plTo ws k→p.1 < k∧p.2 < (gw ws p.1).sorts.length:=by
 intro k
 induction k with
 | zero=>intro _ p hp;simp [plTo] at hp
 | succ k ih=>
  intro hk p hp
  rcases List.mem_append.1 hp with hp | hp
  · have:=ih (by omega) hp;exact ⟨by omega,this.2⟩
  · have:=plW_mem (h k (by omega)) hp
    exact ⟨by omega,by rw [this.1];exact this.2⟩
theorem plTo_pair {ns:Nat} {ws:List PWord} (h:WsOk ns ws):∀ {k:Nat},k≤ws.length→(plTo ws k).Pairwise lexLt:=by
 intro k
 induction k with
 | zero=>intro _;exact List.Pairwise.nil
 | succ k ih=>
  intro hk
  show (plTo ws k++plW k (gw ws k)).Pairwise lexLt
  rw [List.pairwise_append]
  exact ⟨ih (by omega),plW_pair (h k (by omega)) k,fun a ha b hb=>Or.inl (by rw [(plW_mem (h k (by omega)) hb).1];exact (plTo_mem h (by omega) ha).1)⟩
theorem places_len (ws:List PWord):(places ws).length=(plTo ws ws.length).length+1:=by simp [places]
theorem places_pos (ws:List PWord):0 < (places ws).length:=by rw [places_len];omega
theorem places_last (ws:List PWord):gpl (places ws) ((places ws).length-1)=(ws.length,0):=by
 rw [places_len,Nat.add_sub_cancel]
 unfold gpl places
 simp [List.getD_eq_getElem?_getD]
theorem places_in {ns:Nat} {ws:List PWord} (h:WsOk ns ws) {j:Nat} (hj:j+1 < (places ws).length):(gpl (places ws) j).1 < ws.length∧(gpl (places ws) j).2 < (gw ws (gpl (places ws) j).1).sorts.length:=by
 have h1:j < (plTo ws ws.length).length:=by rw [places_len] at hj;omega
 have h2:gpl (places ws) j=(plTo ws ws.length)[j]:=by
  rw [gpl_get (by omega)]
  exact List.getElem_append_left h1
 rw [h2]
 exact plTo_mem h (Nat.le_refl _) (List.getElem_mem h1)
theorem places_up {ns:Nat} {ws:List PWord} (h:WsOk ns ws) {i j:Nat} (hij:i < j) (hj:j < (places ws).length):lexLt (gpl (places ws) i) (gpl (places ws) j):=by
 have hp:(places ws).Pairwise lexLt:=by
  unfold places
  rw [List.pairwise_append]
  exact ⟨plTo_pair h (Nat.le_refl _),List.pairwise_singleton _ _,fun a ha b hb=>by
   obtain rfl:=List.mem_singleton.1 hb
   exact Or.inl (plTo_mem h (Nat.le_refl _) ha).1⟩
 rw [gpl_get (by omega),gpl_get hj]
 exact List.pairwise_iff_getElem.1 hp i j (by omega) hj hij
def PlIn (ws:List PWord) (p:Nat × Nat):Prop:=(p.1 < ws.length∧p.2 < (gw ws p.1).sorts.length)∨p=(ws.length,0)
theorem places_ok {ns:Nat} {ws:List PWord} (h:WsOk ns ws) {j:Nat} (hj:j < (places ws).length):PlIn ws (gpl (places ws) j):=by
 by_cases e:j+1 < (places ws).length
 · exact Or.inl (places_in h e)
 · have:j=(places ws).length-1:=by omega
   rw [this,places_last]
   exact Or.inr rfl
theorem rawP_agree {ws:List PWord} {a b b':Nat × Nat} (h:b.1≤b'.1):∀ {k:Nat},a.1+k≤b.1→rawP ws a b k=rawP ws a b' k:=by
 intro k
 induction k with
 | zero=>intro _;rfl
 | succ k ih=>
  intro hk
  have e:cutE ws b (a.1+k)=cutE ws b' (a.1+k):=by unfold cutE;rw [if_neg (by omega),if_neg (by omega)]
  have e2:cutW ws a b (a.1+k)=cutW ws a b' (a.1+k):=by unfold cutW;rw [e]
  simp only [rawP]
  rw [ih (by omega),e,e2]
theorem hyph_snoc (h:Int) (l:List (List Int)) (x:List Int):hyph h (l++[x])=l++[x++[h]]:=by
 unfold hyph
 rw [List.dropLast_concat]
 simp [List.getLastD_eq_getLast?]
theorem lex_cut {a b:Nat × Nat} (hab:lexLt a b):a.1≤b.1∧(0 < b.2→cutB a b.1 < b.2):=by
 rcases hab with h | ⟨h1,h2⟩
 · exact ⟨by omega,fun h0=>by unfold cutB;rw [if_neg (by omega)];exact h0⟩
 · exact ⟨by omega,fun h0=>by unfold cutB;rw [if_pos h1.symm];exact h2⟩
theorem lenS_snoc (l:List (List Int)) (x:List Int):lenS (l++[x])=lenS l+x.length:=by unfold lenS;simp
theorem rawP_mono (ws:List PWord) (a b:Nat × Nat):∀ {k k':Nat},k≤k'→(rawP ws a b k).length≤(rawP ws a b k').length∧lenS (rawP ws a b k)≤lenS (rawP ws a b k'):=by
 intro k k' h
 induction h with
 | refl=>exact ⟨Nat.le_refl _,Nat.le_refl _⟩
 | step h ih=>
  rename_i m
  simp only [rawP]
  split
  · rw [List.length_append,lenS_snoc];omega
  · exact ih
theorem cutW_len {ws:List PWord} {a b:Nat × Nat} {i:Nat} (h:cutE ws b i≤(gw ws i).sorts.length):(cutW ws a b i).length=cutE ws b i-cutB a i:=by
 unfold cutW
 rw [List.length_drop,List.length_take]
 omega
theorem PlIn.cutE {ws:List PWord} {b:Nat × Nat} (h:PlIn ws b) (i:Nat) (hi:i < ws.length):cutE ws b i≤(gw ws i).sorts.length:=by
 unfold YtbnganlfelgogaaGreat.cutE
 by_cases e:i=b.1
 · rw [if_pos e]
   rcases h with ⟨h1,h2⟩ | rfl
   · rw [e];omega
   · have:i=ws.length:=e;omega
 · rw [if_neg e];exact Nat.le_refl _
theorem raw_grow {ws:List PWord} {a b b':Nat × Nat} (hab:lexLt a b) (hb:PlIn ws b) (hb':PlIn ws b') (hbb:lexLt b b'∨b=b') :
 (rawP ws a b (cnt ws a b)).length≤(rawP ws a b' (cnt ws a b')).length∧lenS (rawP ws a b (cnt ws a b))≤lenS (rawP ws a b' (cnt ws a b')):=by
 rcases hbb with hbb | hbb
 rotate_left
 · subst hbb;exact ⟨Nat.le_refl _,Nat.le_refl _⟩
 obtain ⟨h1,h2⟩:=lex_cut hab
 obtain ⟨g1,g2⟩:=lex_cut hbb
 rcases hb with ⟨h3,h4⟩ | rfl
 · have hc:cnt ws a b=(b.1-a.1)+1:=by unfold cnt;omega
   have hc':(b.1-a.1)+1≤cnt ws a b':=by
    unfold cnt
    rcases hb' with ⟨h5,-⟩ | rfl
    · omega
    · show _≤min (ws.length+1) ws.length-a.1
      omega
   have hm:=rawP_mono ws a b' hc'
   have hi:a.1+(b.1-a.1)=b.1:=by omega
   have he:cutE ws b b.1=b.2:=by unfold cutE;rw [if_pos rfl]
   have he':b.2≤cutE ws b' b.1:=by
    unfold cutE
    by_cases e:b.1=b'.1
    · rw [if_pos e]
      rcases hbb with h | ⟨-,h⟩ <;> omega
    · rw [if_neg e];omega
   have hag:=rawP_agree (ws:=ws) (a:=a) g1 (k:=b.1-a.1) (by omega)
   have hl:=cutW_len (a:=a) ((PlIn.cutE (Or.inl ⟨h3,h4⟩) b.1 h3))
   have hl':=cutW_len (a:=a) ((hb'.cutE b.1 h3))
   rw [hc]
   refine ⟨Nat.le_trans ?_ hm.1,Nat.le_trans ?_ hm.2⟩
   · simp only [rawP]
     rw [hi,hag,he]
     split
     · rw [if_pos (by omega)];simp
     · split
       · simp
       · exact Nat.le_refl _
   · simp only [rawP]
     rw [hi,hag,he]
     split
     · rw [if_pos (by omega),lenS_snoc,lenS_snoc,hl,hl',he];omega
     · split
       · rw [lenS_snoc];omega
       · exact Nat.le_refl _
 · exfalso
   rcases hb' with ⟨h5,-⟩ | rfl
   · have:(ws.length,0).1=ws.length:=rfl
     omega
   · rcases hbb with h | ⟨-,h⟩
     · exact absurd h (Nat.lt_irrefl _)
     · exact absurd h (Nat.lt_irrefl _)
theorem raw_pos {ws:List PWord} {a b:Nat × Nat} (hab:lexLt a b) (ha:a.1 < ws.length∧a.2 < (gw ws a.1).sorts.length):0 < (rawP ws a b (cnt ws a b)).length:=by
 obtain ⟨h1,h2⟩:=lex_cut hab
 have hc:1≤cnt ws a b:=by unfold cnt;omega
 refine Nat.lt_of_lt_of_le ?_ (rawP_mono ws a b hc).1
 have e:rawP ws a b 1=if cutB a (a.1+0) < cutE ws b (a.1+0) then rawP ws a b 0++[cutW ws a b (a.1+0)] else rawP ws a b 0:=rfl
 rw [e,Nat.add_zero,if_pos]
 · simp
 · unfold cutB cutE
   rw [if_pos rfl]
   by_cases e:a.1=b.1
   · rw [if_pos e]
     rcases hab with h | ⟨-,h⟩ <;> omega
   · rw [if_neg e];exact ha.2
theorem hyph_len {h:Int} {l:List (List Int)} (hl:0 < l.length):(hyph h l).length=l.length∧lenS (hyph h l)=lenS l+1:=by
 rcases List.eq_nil_or_concat l with rfl | ⟨l',x,rfl⟩
 · simp at hl
 · rw [List.concat_eq_append,hyph_snoc]
   refine ⟨by simp,?_⟩
   rw [lenS_snoc,lenS_snoc,List.length_append]
   simp
   omega
theorem pieces_len {ws:List PWord} {h:Int} {a b:Nat × Nat} (hl:0 < (rawP ws a b (cnt ws a b)).length):(piecesF ws h a b).length=(rawP ws a b (cnt ws a b)).length∧lenS (rawP ws a b (cnt ws a b))≤lenS (piecesF ws h a b)∧lenS (piecesF ws h a b)≤lenS (rawP ws a b (cnt ws a b))+1:=by
 unfold piecesF
 split
 · have:=hyph_len (h:=h) hl;omega
 · omega
theorem wide_all {ns:Nat} {f:Fnt} {r:Rls} {ws:List PWord} (h:WsOk ns ws) {i j j':Nat} (hij:i < j) (hjj:j≤j') (hj:j' < (places ws).length) (hw:wideB (lineF f r ws i j)=true):allowB r (lineF f r ws i j')=false:=by
 have ha:=places_in h (show i+1 < (places ws).length by omega)
 have hab:=places_up h hij (by omega)
 have hab':=places_up h (show i < j' by omega) hj
 have hg:=raw_grow hab (places_ok h (by omega)) (places_ok h hj) (by
  by_cases e:j=j'
  · exact Or.inr (by rw [e])
  · exact Or.inl (places_up h (by omega) hj))
 have hp:=pieces_len (h:=r.hyphen) (raw_pos hab ha)
 have hp':=pieces_len (h:=r.hyphen) (raw_pos hab' ha)
 unfold wideB lineF at hw
 have hw:=of_decide_eq_true hw
 unfold allowB
 split
 · rfl
 · rw [if_pos]
   simp only [lineF]
   simp only at hw
   omega
structure RuOk (f:Fnt) (r:Rls):Prop where
 me:1≤r.measure∧r.measure≤1000000
 ind:0≤r.indent∧r.indent≤20000
 le:1≤r.least
 mo:r.least≤r.most∧r.most≤10000
 gap:0≤r.gap∧r.gap < f.sorts.length
 gsp:spB f r.gap=true
 gw:r.least≤wd f r.gap∧wd f r.gap≤r.most
 hy:0≤r.hyphen∧r.hyphen < f.sorts.length
 hsp:spB f r.hyphen=false
 si:0≤r.single∧r.single≤100000
 db:0≤r.double∧r.double≤100000
theorem ruErr_ok {f:Fnt} {r:Rls} (h:ruErr f r=0):(fnErr f).2=0∧RuOk f r:=by
 unfold ruErr at h
 by_cases h1:(fnErr f).2≠0
 · rw [if_pos h1] at h;exact absurd h h1
 rw [if_neg h1] at h
 by_cases h2:win r.measure 1 1000000=false∨win r.indent 0 20000=false∨win r.least 1 10000=false∨win r.most 1 10000=false
 · rw [if_pos h2] at h;omega
 rw [if_neg h2] at h
 simp only [not_or,Bool.not_eq_false] at h2
 obtain ⟨a1,a2,a3,a4⟩:=h2
 by_cases h3:r.most < r.least
 · rw [if_pos h3] at h;omega
 rw [if_neg h3] at h
 by_cases h4:win r.gap 0 (f.sorts.length-1)=false
 · rw [if_pos h4] at h;omega
 rw [if_neg h4,Bool.not_eq_false] at *
 by_cases h5:spB f r.gap=false
 · rw [if_pos h5] at h;omega
 rw [if_neg h5] at h
 by_cases h6:win (wd f r.gap) r.least r.most=false
 · rw [if_pos h6] at h;omega
 rw [if_neg h6] at h
 by_cases h7:win r.hyphen 0 (f.sorts.length-1)=false
 · rw [if_pos h7] at h;omega
 rw [if_neg h7] at h
 by_cases h8:spB f r.hyphen=true
 · rw [if_pos h8] at h;omega
 rw [if_neg h8] at h
 by_cases h9:win r.single 0 100000=false∨win r.double 0 100000=false
 · rw [if_pos h9] at h;omega
 simp only [not_or,Bool.not_eq_false] at h5 h6 h7 h9
 simp only [Bool.not_eq_true] at h8
 have a1:=win_t.1 a1
 have a2:=win_t.1 a2
 have a3:=win_t.1 a3
 have a4:=win_t.1 a4
 have h4:=win_t.1 h4
 have h6:=win_t.1 h6
 have h7:=win_t.1 h7
 have a9:=win_t.1 h9.1
 have b9:=win_t.1 h9.2
 exact ⟨Decidable.not_not.1 h1,⟨a1,a2,a3.1,by omega,by omega,h5,h6,by omega,h8,a9,b9⟩⟩
def DMX:Nat:=400200000
theorem absI_le {x a:Int} (h1:-a≤x) (h2:x≤a):0≤absI x∧absI x≤a:=by unfold absI;split <;> omega
theorem dem_bound {f:Fnt} {r:Rls} {l:Ln} {da db:Bool} (hr:RuOk f r) (ha:allowB r l=true):0≤demF f r l da db∧demF f r l da db≤DMX:=by
 have hw:=hr.gw
 have hle:=hr.le
 have hmo:=hr.mo
 have hsi:=hr.si
 have hdb:=hr.db
 unfold allowB at ha
 split at ha
 · cases ha
 split at ha
 · cases ha
 rename_i h1 h2
 simp only [not_or,Nat.not_lt,Int.not_lt] at h2
 obtain ⟨h2,h3,h4⟩:=h2
 have h5:0 < l.g→l.g*r.least≤l.room:=fun h0=>by
  split at ha
  · exact of_decide_eq_true ha
  · first | exact (win_t.1 ha).1 | (rw [if_pos h0] at ha;exact (win_t.1 ha).1) | omega
 unfold demF
 have hsd:0≤(if db=true then r.single+(if da=true then r.double else 0) else 0)∧(if db=true then r.single+(if da=true then r.double else 0) else 0)≤200000:=by
  split
  · split <;> omega
  · omega
 generalize (if db=true then r.single+(if da=true then r.double else 0) else 0)=s at *
 split
 · rename_i h6
   have h7:=h6.1
   have h8:=h5 h7
   have h9:0≤l.g*r.least:=Int.mul_nonneg (by omega) (by omega)
   have hg20:20000≤l.g*20000:=by omega
   have hwg:0≤l.g*wd f r.gap∧l.g*wd f r.gap≤l.g*10000:=⟨Int.mul_nonneg (by omega) (by omega),Int.mul_le_mul_of_nonneg_left (by omega) (by omega)⟩
   obtain ⟨b1,b2⟩:=absI_le (x:=l.room-l.g*wd f r.gap) (a:=l.g*20000) (by omega) (by omega)
   generalize absI (l.room-l.g*wd f r.gap)=o at *
   have b3:0≤o / l.g:=Int.ediv_nonneg b1 (by omega)
   have b4:o / l.g≤20000:=by
    have:=Int.ediv_le_ediv (show 0 < l.g by omega) b2
    rwa [Int.mul_ediv_cancel_left _ (by omega)] at this
   generalize o / l.g=q at *
   have b5:q*q≤20000*20000:=Int.mul_le_mul b4 b4 b3 (by omega)
   have b6:0≤q*q:=Int.mul_nonneg b3 b3
   unfold DMX
   omega
 · unfold DMX
   omega
theorem tab_ok {f:Fnt} {r:Rls} {ws:List PWord} (hr:RuOk f r) (hn:(places ws).length≤300):TbOk (tab f r ws) (places ws).length DMX where
 up:=fun {i j d} h=>by
  unfold tab at h
  split at h
  · rename_i h1
    cases h
    have:=dem_bound (da:=divB ws i) (db:=divB ws j) hr h1.2.2
    exact ⟨h1.1,h1.2.1,by omega⟩
  · cases h
 pos:=places_pos ws
 ml:=by
  have:(places ws).length*DMX≤300*DMX:=Nat.mul_le_mul_right _ hn
  unfold DMX ML at *
  omega
theorem wsErr_ok {f:Fnt} {ws:List PWord} (h:(wsErr f ws).2=0):(fnErr f).2=0∧WsOk f.sorts.length ws∧(∀ i j,i < ws.length→j < (gw ws i).sorts.length→spB f (gz (gw ws i).sorts j)=false)∧ws.length≤200∧(places ws).length≤300:=by
 unfold wsErr at h
 by_cases h1:(fnErr f).2≠0
 · rw [if_pos h1] at h;exact absurd h h1
 rw [if_neg h1] at h
 by_cases h2:200 < ws.length
 · rw [if_pos h2] at h;exact absurd h (by decide)
 rw [if_neg h2] at h
 by_cases h3:(fstE (wErr f ws) ws.length).2≠0
 · rw [if_pos h3] at h;exact absurd h h3
 rw [if_neg h3] at h
 by_cases h4:300 < (places ws).length
 · rw [if_pos h4] at h;exact absurd h (by decide)
 have h5:=fstE_zero (Decidable.not_not.1 h3)
 exact ⟨Decidable.not_not.1 h1,fun i hi=>(wErr_ok (h5 i hi)).1,fun i j hi hj=>(wErr_ok (h5 i hi)).2 j hj,by omega,by omega⟩
end Go.Proofs.YtbnganlfelgogaaGreat
