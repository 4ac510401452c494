/- WidthOf. -/
import Derived.Test.YtbnganlfelgogaaGreatVFcf
import Derived.Test.YtbnganlfelgogaaGreatVFtk
import Derived.Test.YtbnganlfelgogaaGreatVXat
set_option linter.unusedSimpArgs false
set_option linter.unusedVariables false
set_option maxRecDepth 100000
set_option maxHeartbeats 40000000
namespace Go.Proofs.YtbnganlfelgogaaGreat
open Go.RowKit
def NePost (n e0:Int) (w:World) (e:Ending) (w':World):Prop:=e=.returned (.tuple #[.int .i64 n,.int .i64 e0])∧Below w.heap.size w w'
end Go.Proofs.YtbnganlfelgogaaGreat
namespace Go.Proofs.YtbnganlfelgogaaGreat
open Go.RowKit
theorem made_one (n:Nat):(madeCells (Value.int IntKind.i64 0).cells (n*1)).toList=zv (List.replicate n 0):=by
 apply List.ext_getElem
 · simp [size_madeCells,zv_len]
 · intro i h1 h2
   simp [madeCells,zv,Value.cells,Nat.mod_one]
theorem make30 (n:Nat) (hn:n≤1000) (W:World):∃ W',(Instr.makeSlice 34 (.int .i64 (n:Int)) (.int .i64 (n:Int))).run Tryz.prog W=.ok (.slice (some ⟨W.heap.size,0,none⟩) n n) W'∧IO W' W.heap.size (List.replicate n 0) (.slice (some ⟨W.heap.size,0,none⟩) n n)∧Below W.heap.size W W':=by
 obtain ⟨i3,hi3,hz3,hy3,hx3⟩:=info_parts info3
 obtain ⟨W',h1,h2,h3⟩:=run_makeSlice_full (P:=Tryz.prog) (w:=W) W.heap.size 34 3 i3 _ 1 Tryz.underlying34 hi3 hz3 hy3 .i64 .i64 n (by omega) (by rw [hx3];omega) (by simp only [maxLen];omega) (Nat.le_refl _)
 refine ⟨W',h1,?_,⟨h3.os,h3.tape,h3.output,h3.size,fun k hk=>h3.block k hk (by simp)⟩⟩
 rw [made_one] at h2
 show World.ownsRow _ _ _ _ _ _ _
 rw [List.length_replicate]
 exact h2
end Go.Proofs.YtbnganlfelgogaaGreat
namespace Go.Proofs.YtbnganlfelgogaaGreat
open Go.RowKit
def nedK (n:Nat) (zs:List Int):Nat→List Int
 | 0=>List.replicate n 0
 | k+1=>(nedK n zs k).set (gz zs k).toNat (gz (nedK n zs k) (gz zs k).toNat+1)
def nedR (n:Nat) (zs:List Int):List Int:=nedK n zs zs.length
theorem gz_rep (n i:Nat):gz (List.replicate n 0) i=0:=by
 unfold gz
 rw [List.getD_eq_getElem?_getD,List.getElem?_replicate]
 split <;> rfl
def NdPost (f:Fnt) (zs:List Int) (w:World) (e:Ending) (w':World):Prop:=Below w.heap.size w w'∧((liErr f zs≠0∧e=.returned (.tuple #[.slice none 0 0,.int .i64 (liErr f zs)]))∨(liErr f zs=0∧∃ v,e=.returned (.tuple #[v,.int .i64 0])∧IO w' w.heap.size (nedR f.sorts.length zs) v))
end Go.Proofs.YtbnganlfelgogaaGreat
namespace Go.Proofs.YtbnganlfelgogaaGreat
open Go.RowKit
def ExPost (w0 W:World) (mb n:Nat) (qs:List (Nat × Nat)) (sp:List Int) (nn s w:Nat) (e:Ending) (W':World):Prop:=
 But2 mb mb W W'∧∃ nn' D',W'.ownsMap Tryz.prog 280 (plainElem Tryz.prog 4) mb nn' D'∧FailM D' qs∧nn≤nn'∧nn'≤nn+cB sp.length∧
  ((exq qs s w=none∧∃ v',e=.returned (.tuple #[v',.bool false]))∨∃ r v',exq qs s w=some r∧e=.returned (.tuple #[v',.bool true])∧IO W' w0.heap.size (putR (List.replicate n 0) sp r) v')
theorem exactly_any {w0:World} {f:Fnt} {v vs vl:Value} {qs:List (Nat × Nat)} {sp lim:List Int} (hP:XP w0 f v vs vl qs sp lim) {mb nn:Nat} {a b:Int} {D:DataW Unit} (s w:Nat) (W:World) (hs:s≤90) (hw:w≤20000)
 (hB:Below w0.heap.size w0 W) (hM:W.ownsMap Tryz.prog 280 (plainElem Tryz.prog 4) mb nn D) (hF:FailM D qs) (hm0:w0.heap.size≤mb) (hm:mb < W.heap.size) (hn:nn+cB sp.length≤1000000000000000000) :
 Calls Tryz.prog 202 #[.agg (ncs f v vs vl a b (.map (some mb))),.int .i64 (w:Int),.int .i64 (s:Int)] W (ExPost w0 W mb f.sorts.length qs sp nn s w):=by
 obtain ⟨W1,hW1⟩:∃ x,x=W.alloc (.cells (ncs f v vs vl a b (.map (some mb))) 258):=⟨_,rfl⟩
 have hb1:Below W.heap.size W W1:=by rw [hW1];exact below_new W _
 have hN1:Blk W1 W.heap.size 258 (ncs f v vs vl a b (.map (some mb))):=by rw [hW1];exact Blk.new W 258 _
 obtain ⟨W2,hmk,hio,hb2⟩:=make30 f.sorts.length (by have:=hP.few;omega) W1
 have hsz1:W1.heap.size=W.heap.size+1:=by rw [hW1];simp
 obtain ⟨Av,cv,rfl⟩:=hP.s.shape
 obtain ⟨As,bs,os,cs,rfl,-,-,-,-⟩:=hP.p.open
 obtain ⟨Al,bl,ol,cl,rfl,-,-,-,-⟩:=hP.l.open
 have n0:=hN1.cell 0
 have n1:=hN1.cell 1
 have n2:=hN1.cell 2
 have n3:=hN1.cell 3
 have n4:=hN1.cell 4
 have n5:=hN1.cell 5
 have n6:=hN1.cell 6
 have n7:=hN1.cell 7
 have hl1:=hN1.lt
 have HN1:=Lib.hid hN1
 have HP:=Lib.hid hP
 have HIO:=Lib.hid hio
 have HB1:=Lib.hid hb1
 have HB2:=Lib.hid hb2
 have HM:=Lib.hid hM
 have HF:=Lib.hid hF
 clear hN1 hio hb1 hb2 hM hF
 generalize hnf:f.sorts.length=n at *
 have HNF:=Lib.hid hnf
 clear hnf
 rw [hsz1] at hmk HIO
 have hrs:∀ (a:Addr) (fn:Fn) (fi ca:Array Value) (w:World),(store a (.func fn fi ca)).run Tryz.prog w=_:=fun a fn fi ca w=>run_store Tryz.prog w a (.func fn fi ca) _ rfl
 go_enter Tryz.func202,Tryz.ntmps202
 go_upto_region 1 with fail
 change Code.wp _ _ _ _ (W.alloc (.cells (ncs f (.slice Av n cv) (.slice As sp.length cs) (.slice Al lim.length cl) a b (.map (some mb))) 258))
 rw [←hW1]
 clear hW1
 go_upto_region 2 with fail
 generalize hW3:W2.alloc (.cells #[.slice (some ⟨W.heap.size+1,0,none⟩) n n] 34)=W3
 have hb3:Below W2.heap.size W2 W3:=by rw [←hW3];exact below_new W2 _
 have hO3:Blk W3 W2.heap.size 34 #[.slice (some ⟨W.heap.size+1,0,none⟩) n n]:=by rw [←hW3];exact Blk.new W2 34 _
 have HSZ3:Hid (W3.heap.size=W2.heap.size+1):=(show _=_ from by rw [←hW3];simp)
 have HSZ1:=Lib.hid hsz1
 clear hsz1
 clear hW3
 go_upto_region 4 with fail
 generalize hW4:W3.alloc (.cells #[.func (.func 206) #[] #[.pointer (some ⟨W.heap.size,0,none⟩),.pointer (some ⟨W2.heap.size,0,none⟩),.pointer (some ⟨W3.heap.size,0,none⟩)]] 278)=W4
 have hb4:Below W3.heap.size W3 W4:=by rw [←hW4];exact below_new W3 _
 have hT4:Blk W4 W3.heap.size 278 #[.func (.func 206) #[] #[.pointer (some ⟨W.heap.size,0,none⟩),.pointer (some ⟨W2.heap.size,0,none⟩),.pointer (some ⟨W3.heap.size,0,none⟩)]]:=by rw [←hW4];exact Blk.new W3 278 _
 clear hW4 hrs
 have s1:=HSZ1.out
 have s3:=HSZ3.out
 have s2:=HB2.out.size
 have hb24:Below W2.heap.size W2 W4:=hb3.trans (hb4.mono hb3.size)
 have hb14:Below W1.heap.size W1 W4:=HB2.out.trans (hb24.mono s2)
 have hb04:Below W.heap.size W W4:=HB1.out.trans (hb14.mono (by omega))
 have hX:XS w0 W4 W.heap.size W2.heap.size W3.heap.size mb (W.heap.size+1) n f (.slice Av n cv) (.slice As sp.length cs) (.slice Al lim.length cl) a b qs (List.replicate n 0) nn D:=by
  refine ⟨hB.trans (hb04.mono hB.size),HN1.out.below hb14 (by omega),?_,hT4,?_,?_,HF.out,?_,hm0,by have:=hB.size;omega,?_⟩
  · rw [HNF.out];exact hO3.below hb4 (by omega)
  · rw [HNF.out];exact (HIO.out.below hb24).base (by have:=hB.size;omega)
  · exact HM.out.kept (grown_of_below hb04 none) (by simp)
  · rw [HNF.out];exact List.length_replicate
  · have:=(World.ownsRow.lt HIO.out (W.heap.size+1) (ownBlock_some ..)).2
    exact ⟨by omega,by omega,by omega,by omega,by omega,by omega,by omega⟩
 have HX:=Lib.hid hX
 have HNN:Hid (nn+cB (sp.length-0)≤1000000000000000000):=hn
 have HZ:Hid (∀ j,0≤j→j < sp.length→gz (List.replicate n 0) (gz sp j).toNat=0):=(show ∀ j,_ from fun j _ _=>gz_rep _ _)
 have hbd:Below W4.heap.size W4 W4.drew:=(Below.refl _ _).drew
 have hcall:=try_any HP.out sp.length 0 (by omega) s w W4.drew _ nn D hs hw (hX.below hbd) HZ.out HNN.out
 rw [show ((0:Nat):Int)=0 from rfl] at hcall
 have HC:=Lib.hid hcall
 clear hcall
 have hS0:(W4.drew.cell? ⟨W2.heap.size,0,none⟩=some (.slice (some ⟨W.heap.size+1,0,none⟩) n n)∧W4.drew.cell? ⟨W3.heap.size,0,none⟩=some (.func (.func 206) #[] #[.pointer (some ⟨W.heap.size,0,none⟩),.pointer (some ⟨W2.heap.size,0,none⟩),.pointer (some ⟨W3.heap.size,0,none⟩)])):=by
  have h1:=hX.O.cell 0
  rw [HNF.out] at h1
  exact ⟨h1,hT4.cell 0⟩
 have HGB:Hid (W.heap.size≤W.heap.size+1):=(show _≤_ by omega)
 have HSW:Hid (W.heap.size≤W4.heap.size):=hb04.size
 have HB04:=Lib.hid hb04
 clear hX hP hb3 hb4 hb24 hb14 hb04 hO3 hT4 n0 n1 n2 n3 n4 n5 n6 n7 s1 s2 s3
 go_region_held3 (fun W'=>W'.cell? ⟨W2.heap.size,0,none⟩=some (.slice (some ⟨W.heap.size+1,0,none⟩) n n)∧W'.cell? ⟨W3.heap.size,0,none⟩=some (.func (.func 206) #[] #[.pointer (some ⟨W.heap.size,0,none⟩),.pointer (some ⟨W2.heap.size,0,none⟩),.pointer (some ⟨W3.heap.size,0,none⟩)]))
  (first | exact hS0 | exact hS5 | go_keep)
  ((with_reducible refine HC.out.mono ?_
    rintro e w5 ⟨hbut,out',nn',D',hX5,hle1,hle2,hans⟩
    have hS5:(w5.cell? ⟨W2.heap.size,0,none⟩=some (.slice (some ⟨W.heap.size+1,0,none⟩) n n)∧w5.cell? ⟨W3.heap.size,0,none⟩=some (.func (.func 206) #[] #[.pointer (some ⟨W.heap.size,0,none⟩),.pointer (some ⟨W2.heap.size,0,none⟩),.pointer (some ⟨W3.heap.size,0,none⟩)])):=by
     have h1:=hX5.O.cell 0
     rw [HNF.out] at h1
     exact ⟨h1,hX5.T.cell 0⟩
    obtain ⟨bb,rfl⟩:∃ bb,e=.returned (.bool bb):=by
     rcases hans with ⟨h1,h2,h3⟩ | ⟨r,h1,h2,h3⟩
     · exact ⟨_,h2⟩
     · exact ⟨_,h2⟩))
 have HANS:Hid (ExPost w0 W mb n qs sp nn s w (.returned (.tuple #[.slice (some ⟨W.heap.size+1,0,none⟩) n n,.bool bb])) w5):=(show ExPost _ _ _ _ _ _ _ _ _ _ _ from by
  refine ⟨⟨?_,?_,?_,?_,?_⟩,nn',D',hX5.M,hX5.F,hle1,hle2,?_⟩
  · exact hbut.os.trans HB04.out.os
  · exact hbut.tape.trans HB04.out.tape
  · exact hbut.output.trans HB04.out.output
  · exact Nat.le_trans HB04.out.size hbut.size
  · intro i hi h1 h2
    exact (hbut.block i (Nat.lt_of_lt_of_le hi HB04.out.size) (by omega) h2).trans (HB04.out.block i hi)
  · rcases hans with ⟨h1,h2,h3⟩ | ⟨r,h1,h2,h3⟩
    · injection h2 with h2
      injection h2 with h2
      subst h2
      exact .inl ⟨h1,_,rfl⟩
    · injection h2 with h2
      injection h2 with h2
      subst h2
      refine .inr ⟨r,_,h1,rfl,?_⟩
      have:=hX5.I
      rw [HNF.out,h3] at this
      exact this)
 clear hbut hX5 hans hle1 hle2 hS0 hS5
 go_wp2_with fail
 refine bodyPost_ret (results_tmp2 rfl _ _ _) rfl ?_
 exact HANS.out
end Go.Proofs.YtbnganlfelgogaaGreat
namespace Go.Proofs.YtbnganlfelgogaaGreat
open Go.RowKit
def FwsPost (W:World) (n:Nat) (qs:List (Nat × Nat)) (sp:List Int) (w least m:Nat) (e:Ending) (W':World):Prop:=
 Below W.heap.size W W'∧((fewS qs w least m=none∧e=.returned (.tuple #[.slice none 0 0,.bool false]))∨
  ∃ r v',fewS qs w least m=some r∧e=.returned (.tuple #[v',.bool true])∧IO W' W.heap.size (putR (List.replicate n 0) sp r) v')
structure FwL (W Wr:World) (f:Fnt) (v vs vl:Value) (a b:Int) (qs:List (Nat × Nat)) (sp:List Int) (w least k nn:Nat) (D:DataW Unit):Prop where
 B:Below W.heap.size W Wr
 N:Blk Wr W.heap.size 258 (ncs f v vs vl a b (.map (some (W.heap.size+1))))
 M:Wr.ownsMap Tryz.prog 280 (plainElem Tryz.prog 4) (W.heap.size+1) nn D
 F:FailM D qs
 le:nn≤k*cB sp.length
 no:∀ j,j < k→exq qs (least+j) w=none
 lt:W.heap.size+1 < Wr.heap.size
theorem fewest94_any {f:Fnt} {v vs vl:Value} {qs:List (Nat × Nat)} {sp lim:List Int} {W:World} (hP:XP W f v vs vl qs sp lim) (least m w:Nat) (hlm:least+m≤91) (hw:w≤20000) :
 Calls Tryz.prog 188 #[.agg (ncs f v vs vl (least:Int) ((least:Int)+(m:Int)-1) (.map none)),.int .i64 (w:Int)] W (FwsPost W f.sorts.length qs sp w least m):=by
 have HP:=Lib.hid hP
 obtain ⟨M1,hM1⟩:∃ x:Int,x=(least:Int)+(m:Int)-1:=⟨_,rfl⟩
 rw [←hM1]
 have hm1:-1≤M1∧M1≤90:=by omega
 have HM1:=Lib.hid hM1
 clear hM1
 have hb1:=below_new W (.cells (ncs f v vs vl (least:Int) M1 (.map (some (W.heap.size+1)))) 258)
 have hN1:=Blk.new W 258 (ncs f v vs vl (least:Int) M1 (.map (some (W.heap.size+1))))
 have hb2:=below_new (W.alloc (.cells (ncs f v vs vl (least:Int) M1 (.map (some (W.heap.size+1)))) 258)) (.map #[] 0)
 have hown:=World.ownsMap_made (H:=Unit) (W.alloc (.cells (ncs f v vs vl (least:Int) M1 (.map (some (W.heap.size+1)))) 258)) Tryz.prog 280 (plainElem Tryz.prog 4)
 rw [World.size_alloc] at hown
 have hL0:FwL W ((W.alloc (.cells (ncs f v vs vl (least:Int) M1 (.map (some (W.heap.size+1)))) 258)).alloc (.map #[] 0)) f v vs vl (least:Int) M1 qs sp w least 0 0 (.map []):=
  ⟨hb1.trans (hb2.mono hb1.size),hN1.below hb2 (by simp),hown,failM_nil _,by omega,fun j hj=>absurd hj (Nat.not_lt_zero _),by simp⟩
 have HL0:=Lib.hid hL0
 have hmm:=@run_makeMap Tryz.prog
 obtain ⟨Av,cv,rfl⟩:=hP.s.shape
 obtain ⟨As,bs,os,cs,rfl,-,-,-,-⟩:=hP.p.open
 obtain ⟨Al,bl,ol,cl,rfl,-,-,-,-⟩:=hP.l.open
 clear hb1 hN1 hb2 hown hL0
 generalize hnf:f.sorts.length=n at *
 have HNF:=Lib.hid hnf
 clear hnf hP
 go_enter Tryz.func188,Tryz.ntmps188
 go_upto_region 2 with fail
 generalize (W.alloc (.cells (ncs f (.slice Av n cv) (.slice As sp.length cs) (.slice Al lim.length cl) (least:Int) M1 (.map (some (W.heap.size+1)))) 258)).alloc (.map #[] 0)=W1 at *
 have x5:=HL0.out.N.cell 5
 have xl:=HL0.out.N.lt
 have hp8:=(HP.out).sp8
 have HFE:Hid (fewS qs w least m=fsome (fun k=>exq qs (least+k) w) m):=rfl
 have H0:Hid (∀ W',fewS qs w least m=none→Below W.heap.size W W'→FwsPost W n qs sp w least m (.returned (.tuple #[.slice none 0 0,.bool false])) W'):=(show ∀ W',_ from fun W' h1 h2=>⟨h2,.inl ⟨h1,rfl⟩⟩)
 have H1:Hid (∀ W' r v',fewS qs w least m=some r→Below W.heap.size W W'→IO W' W.heap.size (putR (List.replicate n 0) sp r) v'→FwsPost W n qs sp w least m (.returned (.tuple #[v',.bool true])) W'):=(show ∀ W' r v',_ from fun W' r v' h1 h2 h3=>⟨h2,.inr ⟨r,v',h1,rfl,h3⟩⟩)
 go_wp2_with fail
 go_loopg [6,7,8] m (fun gg s6 _ _ wr=>∃ (k nn:Nat) (D:DataW Unit),k≤m∧m-k≤gg∧s6=.int .i64 ((least:Int)+(k:Int))∧Hid (FwL W wr f (.slice Av n cv) (.slice As sp.length cs) (.slice Al lim.length cl) (least:Int) M1 qs sp w least k nn D))
 case atStart=>exact ⟨0,0,.map [],by omega,by omega,by simp,HL0.out⟩
 case round=>
  obtain ⟨k,nn,D,hk,hg,rfl,HL⟩:=hrel
  have x6:=HL.out.N.cell 6
  have yl:=HL.out.N.lt
  by_cases hlt:k < m
  · have hlz:(least:Int)+(k:Int)≤M1:=by have:=HM1.out;omega
    have y0:=HL.out.N.cell 0
    have y1:=HL.out.N.cell 1
    have y2:=HL.out.N.cell 2
    have y3:=HL.out.N.cell 3
    have y4:=HL.out.N.cell 4
    have y5:=HL.out.N.cell 5
    have y7:=HL.out.N.cell 7
    have hbz:=HL.out.B.size
    have hmz:=HL.out.lt
    have hcb:=cB_le hp8
    have hnle:=HL.out.le
    have hmul:k*cB sp.length≤90*cB sp.length:=Nat.mul_le_mul_right _ (by omega)
    have hcall:=exactly_any HP.out (a:=(least:Int)) (b:=M1) (least+k) w wr (by omega) hw HL.out.B HL.out.M HL.out.F (by omega) HL.out.lt (by omega)
    rw [HNF.out] at hcall
    rw [show ((least+k:Nat):Int)=(least:Int)+(k:Int) from by omega] at hcall
    have HC:=Lib.hid hcall
    clear hcall hcb hnle hmul
    go_wp2_with fail
    refine HC.out.mono ?_
    rintro e w2 ⟨hbut,nn',D',hM',hF',hle1,hle2,hans⟩
    have HB2:Hid (Below W.heap.size W w2):=(show Below _ _ _ from HL.out.B.trans (hbut.below (by omega) (by omega) HL.out.B.size))
    rcases hans with ⟨hno,v',rfl⟩ | ⟨r,v',hyes,rfl,hio⟩
    · have HL2:Hid (FwL W w2 f (.slice Av n cv) (.slice As sp.length cs) (.slice Al lim.length cl) (least:Int) M1 qs sp w least (k+1) nn' D'):=(show FwL _ _ _ _ _ _ _ _ _ _ _ _ _ _ _ from by
       refine ⟨HB2.out,(hbut.block _ (by omega) (by omega) (by omega)).trans HL.out.N,hM',hF',?_,fun j hj=>?_,Nat.lt_of_lt_of_le hmz hbut.size⟩
       · have:=HL.out.le
         rw [Nat.succ_mul];omega
       · by_cases e:j=k
         · subst e;exact hno
         · exact HL.out.no j (by omega))
      clear hbut hM' hF' hle1 hle2 hno y0 y1 y2 y3 y4 y5 y7
      go_wp2_with fail
      go_roundg (m-(k+1))
      case measure=>omega
      case rel=>exact ⟨k+1,nn',D',by omega,by omega,by go_num,HL2.out⟩
    · have HF2:=Lib.hid (H1.out w2 r v' (HFE.out.trans (fsome_hit (g:=fun k=>exq qs (least+k) w) (k:=k) hyes (fun j hj=>HL.out.no j hj) hlt)) HB2.out hio)
      clear hbut hM' hF' hle1 hle2 hyes hio y0 y1 y2 y3 y4 y5 y7
      go_wp2_with fail
      refine bodyPost_ret (results_tmp2 rfl _ _ _) rfl ?_
      exact HF2.out
  · have hlz:¬(least:Int)+(k:Int)≤M1:=by have:=HM1.out;omega
    have HF2:=Lib.hid (H0.out wr (HFE.out.trans (fsome_none (fun j hj=>HL.out.no j (by omega)))) HL.out.B)
    go_wp2_with fail
    refine bodyPost_ret (results_tmp2 rfl _ _ _) rfl ?_
    exact HF2.out
end Go.Proofs.YtbnganlfelgogaaGreat
namespace Go.Proofs.YtbnganlfelgogaaGreat
open Go.RowKit
@[reducible,go_sem] def tks (t:Tsk) (v vs vc vi vw:Value) (fill gaps:Int) (vl:Value):Array Value:=
  #[.string t.f.name,.int .i64 t.f.body,v,vs,.string t.f.name,.int .i64 t.f.body,v,vc,vi,vw,.int .i64 t.me,.int .i64 fill,.int .i64 gaps,vl]
theorem choose_any (t:Tsk) {v vs vc vi vw vl:Value} {qs:List (Nat × Nat)} {sp lim:List Int} {W:World} (hP:XP W t.f v vs vl qs sp lim) (hc:IV W t.cs vc) (hi:IV W t.ind vi) (hw:LV W t.words vw) (fill gaps:Nat) (hg:gaps≤29) (hf:fill≤20000) :
 Calls Tryz.prog 196 #[.agg (tks t v vs vc vi vw fill gaps vl)] W (FwsPost W t.f.sorts.length qs sp fill gaps (2*gaps+1)):=by
 have hb1:=below_new W (.cells (tks t v vs vc vi vw fill gaps vl) 263)
 have hT:=Blk.new W 263 (tks t v vs vc vi vw fill gaps vl)
 have hP1:XP (W.alloc (.cells (tks t v vs vc vi vw fill gaps vl) 263)) t.f v vs vl qs sp lim:=⟨hP.s.below hb1,hP.p.below hb1,hP.l.below hb1,hP.few,hP.sp8,hP.inF,hP.lok,hP.qlen,hP.qat,hP.wdp,hP.asc⟩
 have hcall:=fewest94_any hP1 gaps (2*gaps+1) fill (by omega) hf
 rw [show (gaps:Int)+((2*gaps+1:Nat):Int)-1=3*(gaps:Int) from by push_cast;omega] at hcall
 obtain ⟨Av,cv,rfl⟩:=hP.s.shape
 obtain ⟨As,bs,os,cs,rfl,-,-,-,-⟩:=hP.p.open
 obtain ⟨Al,bl,ol,cl,rfl,-,-,-,-⟩:=hP.l.open
 obtain ⟨Ac,_,_,cc,rfl,-⟩:=hc.open
 obtain ⟨Ai,_,_,ci,rfl,-⟩:=hi.open
 obtain ⟨Aw,cw,rfl,-,-⟩:=hw.shape
 have HC:=Lib.hid hcall
 have HB1:=Lib.hid hb1
 have HQ:Hid (∀ e W',FwsPost (W.alloc (.cells (tks t (.slice Av t.f.sorts.length cv) (.slice As sp.length cs) (.slice Ac t.cs.length cc) (.slice Ai t.ind.length ci) (.slice Aw t.words.length cw) fill gaps (.slice Al lim.length cl)) 263)) t.f.sorts.length qs sp fill gaps (2*gaps+1) e W'→FwsPost W t.f.sorts.length qs sp fill gaps (2*gaps+1) e W'):=(show ∀ e W',_ from fun e W' h=>by
  obtain ⟨h1,h2⟩:=h
  refine ⟨hb1.trans (h1.mono hb1.size),?_⟩
  rcases h2 with h2 | ⟨r,v',h2,h3,h4⟩
  · exact .inl h2
  · exact .inr ⟨r,v',h2,h3,h4.base hb1.size⟩)
 have c0:=hT.cell 0
 have c1:=hT.cell 1
 have c2:=hT.cell 2
 have c3:=hT.cell 3
 have c11:=hT.cell 11
 have c12:=hT.cell 12
 have c13:=hT.cell 13
 clear hP hP1 hcall hb1 hT hc hi hw
 go_enter Tryz.func196,Tryz.ntmps196
 go_wp2_with fail
 refine HC.out.mono ?_
 intro e W2 hpost
 obtain ⟨vv,bb,rfl⟩:∃ vv bb,e=.returned (.tuple #[vv,.bool bb]):=by
  rcases hpost.2 with ⟨_,h⟩ | ⟨r,v',_,h,_⟩
  · exact ⟨_,_,h⟩
  · exact ⟨_,_,h⟩
 have HR:=Lib.hid (HQ.out _ _ hpost)
 clear hpost
 go_wp2_with fail
 refine bodyPost_ret (results_tmp2 rfl _ _ _) rfl ?_
 exact HR.out
end Go.Proofs.YtbnganlfelgogaaGreat
namespace Go.Proofs.YtbnganlfelgogaaGreat
open Go.RowKit
theorem lst_in {f:Fnt} {zs:List Int} {sp:Bool} (h:lstErr f zs sp=0):InF f zs∧∀ j,j < zs.length→spB f (gz zs j)=sp:=by
 have h0:∀ j,j < zs.length→srtErr f (gz zs j) sp=0:=fstE_zero (g:=fun j=>srtErr f (gz zs j) sp) h
 refine ⟨fun j hj=>?_,fun j hj=>?_⟩
 · have:=h0 j hj
   unfold srtErr at this
   split at this
   · omega
   · rename_i hw
     simp [win] at hw
     omega
 · have:=h0 j hj
   unfold srtErr at this
   split at this
   · omega
   · split at this
     · assumption
     · omega
structure TkOk (t:Tsk):Prop where
 f:(fnErr t.f).2=0
 k:(spl t.f.sorts t.f.sorts.length).length≤8
 c:CsOk t.f.sorts.length t.cs
 i12:t.ind.length≤12
 iIn:InF t.f t.ind
 iSp:∀ j,j < t.ind.length→spB t.f (gz t.ind j)=true
 w30:t.words.length≤30
 wd:∀ k,k < t.words.length→1≤(gl t.words k).length∧(gl t.words k).length≤60∧InF t.f (gl t.words k)∧∀ j,j < (gl t.words k).length→spB t.f (gz (gl t.words k) j)=false
 all:t.ind.length+sumL t.words t.words.length≤200
 me:1≤t.me∧t.me≤1000000
theorem tk_ok {t:Tsk} (h:tkErr t=0):TkOk t:=by
 unfold tkErr at h
 split at h
 · omega
 rename_i hf
 split at h
 · omega
 rename_i hk
 split at h
 · omega
 rename_i hc
 unfold tk1 at h
 split at h
 · omega
 rename_i hi
 split at h
 · omega
 rename_i hl
 unfold tk2 at h
 split at h
 · omega
 rename_i hw
 split at h
 · omega
 rename_i hws
 unfold tk3 at h
 split at h
 · omega
 rename_i hall
 split at h
 · omega
 rename_i hme
 have hl2:=lst_in (Classical.not_not.1 hl)
 have hw2:∀ k,k < t.words.length→wdErr t.f (gl t.words k)=0:=fstE_zero (g:=fun j=>wdErr t.f (gl t.words j)) (Classical.not_not.1 hws)
 refine ⟨Classical.not_not.1 hf,?_,cnt_ok (Classical.not_not.1 hc),by omega,hl2.1,hl2.2,by omega,fun k hk=>?_,by omega,?_⟩
 · have:=Classical.not_not.1 hk
   unfold kiErr at this
   split at this
   · omega
   · omega
 · have:=hw2 k hk
   unfold wdErr at this
   split at this
   · omega
   split at this
   · omega
   obtain ⟨h1,h2⟩:=lst_in this
   exact ⟨by omega,by omega,h1,h2⟩
 · simp [win] at hme
   omega
theorem setRow_size (W:World) (g:Nat) (cs:Array Value):(W.setRow g cs).heap.size=W.heap.size:=by simp [World.setRow]
theorem setRow_ne (W:World) (g:Nat) (cs:Array Value) {k:Nat} (h:k≠g):(W.setRow g cs).heap[k]?=W.heap[k]?:=by
 simp only [World.setRow,Array.getElem?_modify]
 rw [if_neg (fun e=>h e.symm)]
theorem Blk.row {W:World} {g:Nat} {t:TypeId} {old:Array Value} (h:Blk W g t old) (cs:Array Value):Blk (W.setRow g cs) g t cs:=setRow_heap W g old cs t (0,0) h
theorem Below.row {B:Nat} {w W:World} (h:Below B w W) {g:Nat} (hg:B≤g) (cs:Array Value):Below B w (W.setRow g cs):=
 ⟨h.os,h.tape,h.output,by rw [setRow_size];exact h.size,fun k hk=>(setRow_ne W g cs (by omega)).trans (h.block k hk)⟩
theorem grown_row (W:World) (g:Nat) (cs:Array Value):W.grownBy (W.setRow g cs) (some g):=
 ⟨rfl,rfl,rfl,by rw [setRow_size];exact Nat.le_refl _,fun k hk hne=>setRow_ne W g cs (fun e=>hne (by rw [e]))⟩
theorem LV.cons {W:World} {B:Nat} {z:List Int} {vz:Value} {ls:List (List Int)} {hs:Nat→Value} {v:Value} (hz:IV W z vz) (hl:∀ i,i < ls.length→IV W (gl ls i) (hs i))
 (h:W.ownsRow B 34 1 v (1+ls.length) ([vz]++(List.range ls.length).map hs)) (hm:ls.length≤1000):LV W (z :: ls) v:=by
 refine ⟨fun j=>if j=0 then vz else hs (j-1),?_,fun i hi=>?_⟩
 · rcases h.2 with ⟨_,h0⟩ | ⟨g,cap,cur,e,hB,hh,h1,h2,h3,h4⟩
   · omega
   · subst e
     have hb:Blk W g 34 cur:=hh
     refine ⟨some ⟨g,0,none⟩,g,0,cap,by rw [List.length_cons,Nat.add_comm],fun _=>⟨rfl,hb.lt⟩,fun j hj=>?_,by rw [List.length_cons];omega,by simp only [maxLen] at h2;omega⟩
     simp only [List.length_cons,Nat.mul_one] at hj
     rw [hb.cell (0+j),Nat.zero_add]
     have hjl:j < cur.size:=by omega
     have h5:(cur.toList.take ((1+ls.length)*1))[j]?=([vz]++(List.range ls.length).map hs)[j]?:=by rw [h4]
     rw [List.getElem?_take,if_pos (by omega),Array.getElem?_toList] at h5
     rw [h5]
     rcases j with _ | j
     · rfl
     · rw [List.getElem?_append_right (by simp)]
       simp only [List.length_cons,List.length_nil,Nat.zero_add,Nat.add_sub_cancel]
       rw [List.getElem?_map,List.getElem?_range (by omega)]
       simp
 · rcases i with _ | i
   · exact hz
   · have:i < ls.length:=by simp at hi;omega
     have h5:=hl i this
     simp only [Nat.add_sub_cancel,Nat.add_eq_zero_iff,Nat.one_ne_zero,and_false,if_false]
     exact h5
end Go.Proofs.YtbnganlfelgogaaGreat
