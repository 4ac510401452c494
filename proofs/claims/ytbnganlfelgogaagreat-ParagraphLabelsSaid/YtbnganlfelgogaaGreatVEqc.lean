/- slices.Equal of numbers; cut: a list off ahead of another one. -/
import Derived.Test.YtbnganlfelgogaaGreatVOts
import Derived.BigQuiet
set_option linter.unusedSimpArgs false
set_option linter.unusedVariables false
set_option maxRecDepth 100000
set_option maxHeartbeats 40000000
namespace Go.Proofs.YtbnganlfelgogaaGreat
open Go.RowKit
theorem gz_ext {a b:List Int} (h:a.length=b.length) (hg:∀ j,j < a.length→gz a j=gz b j):a=b:=by
 apply List.ext_getElem h
 intro j h1 h2
 have:=hg j h1
 rw [gz_get h1,gz_get h2] at this
 exact this
def cutR (l h:List Int):List Int × Bool:=if l.take h.length=h then (l.drop h.length,true) else ([],false)
def CutPost (W:World) (l h:List Int) (e:Ending) (W':World):Prop:=Below W.heap.size W W'∧∃ A n c,e=.returned (.tuple #[.slice A n c,.bool (cutR l h).2])∧IV W' (cutR l h).1 (.slice A n c)
end Go.Proofs.YtbnganlfelgogaaGreat
namespace Go.Proofs.YtbnganlfelgogaaGreat
open Go.RowKit
def lnsE (f:Fnt) (me:Int) (zs:List Int):Int:=
 if win me 1 1000000=false then 2 else if 300 < zs.length then 8 else if 0≤idx (fun j=>!win (gz zs j) 0 (f.sorts.length-1)) zs.length then 6 else 0
theorem lns_in {f:Fnt} {me:Int} {zs:List Int} (h:lnsE f me zs=0):(1≤me∧me≤1000000)∧zs.length≤300∧InF f zs:=by
 unfold lnsE at h
 split at h
 · omega
 rename_i h1
 split at h
 · omega
 split at h
 · omega
 rename_i h3
 refine ⟨?_,by omega,fun j hj=>?_⟩
 · simp [win] at h1;omega
 · have:=idx_neg h3 j hj
   simp [win] at this
   omega
theorem notHas_any (f:Fnt) (v vs:Value) (s:Int) (xb:Nat) (w:World) (hX:Blk w xb 189 (xfs f v vs)) (hv:SoV w f.sorts v):Calls Tryz.prog 160 (#[.int .i64 s]++#[.pointer (some ⟨xb,0,none⟩)]) w fun e w'=>e=.returned (.bool (!win s 0 (f.sorts.length-1)))∧Below w.heap.size w w':=by
 have HC:=Lib.hid (hasF_any f v vs s w hv)
 have x0:=hX.cell 0
 have x1:=hX.cell 1
 have x2:=hX.cell 2
 have x3:=hX.cell 3
 clear hX hv
 generalize win s 0 (f.sorts.length-1)=b at *
 go_enter Tryz.func160,Tryz.ntmps160
 go_wp2_with fail
 refine HC.out.mono ?_
 rintro e w1 ⟨rfl,hb⟩
 have HB:=Lib.hid hb
 clear hb
 go_wp2_with fail
 go_ret
 exact ⟨rfl,HB.out⟩
theorem enters108:∀ (args:Array Value) (w:World),(callFunc 160 args).run Tryz.prog w=.ok (.enter 160 args) w:=enters_of' Tryz.func160 (by kernel_rfl) rfl
theorem lineErr_any (f:Fnt) (v vs:Value) (me:Int) (zs:List Int) (vz:Value) (w:World) (hv:SoV w f.sorts v) (hz:IV w zs vz) (hm:zs.length≤1000000) :
 Calls Tryz.prog 125 #[.agg (xfs f v vs),.agg #[.int .i64 me,vz]] w (IntPost (lnsE f me zs) w):=by
 have hb0:=below_new w (.cells (xfs f v vs) 189)
 have hb1:=below_new (w.alloc (.cells (xfs f v vs) 189)) (.cells #[.int .i64 me,vz] 83)
 have hX:=(Blk.new w 189 (xfs f v vs)).below hb1 (by simp)
 have hL:=Blk.new (w.alloc (.cells (xfs f v vs) 189)) 83 #[.int .i64 me,vz]
 rw [World.size_alloc] at hL
 have hB:=hb0.trans (hb1.mono hb0.size)
 have hz2:=(hz.below hb0).below hb1
 have hv2:=(hv.below hb0).below hb1
 obtain ⟨A,b,off,c,rfl,hA,hzz,-,-⟩:=hz2.open
 have HP:Hid (∀ W x,x=lnsE f me zs→Below w.heap.size w W→IntPost (lnsE f me zs) w (.returned (.int .i64 x)) W):=(show ∀ W x,_ from fun W x e h=>by subst e;exact ⟨rfl,h⟩)
 have HE:Hid (lnsE f me zs=if win me 1 1000000=false then 2 else if 300 < zs.length then 8 else if 0≤idx (fun j=>!win (gz zs j) 0 (f.sorts.length-1)) zs.length then 6 else 0):=rfl
 have hcall:=containsI_any 160 #[.pointer (some ⟨w.heap.size,0,none⟩)] A b off zs.length c zs (fun z=>!win z 0 (f.sorts.length-1)) _ (fun W j hW hj=>(notHas_any f v vs (gz zs j) w.heap.size W (hX.below hW hX.lt) (hv2.below hW)).mono (by
  rintro e w' ⟨rfl,hb⟩
  exact ⟨rfl,hW.trans (hb.mono hW.size)⟩)) rfl hm hA enters108 hzz
 have HC:=Lib.hid hcall
 have HB:=Lib.hid hB
 have l0:=hL.cell 0
 have l1:=hL.cell 1
 have HW:Hid (∀ W,Calls Tryz.prog 159 #[.int .i64 me,.int .i64 1,.int .i64 1000000] W fun e w'=>e=.returned (.bool (win me 1 1000000))∧W=w'):=(show ∀ W,_ from fun W=>within107_any _ _ _ W)
 clear hb0 hb1 hX hL hB hz hz2 hv hv2 hA hzz hcall
 go_enter Tryz.func125,Tryz.ntmps125
 go_wp2_with fail
 refine (HW.out _).mono ?_
 generalize (w.alloc (.cells (xfs f v vs) 189)).alloc (.cells #[.int .i64 me,.slice A zs.length c] 83)=W0 at *
 rintro e w1 ⟨rfl,hw1⟩
 subst hw1
 cases hw:win me 1 1000000 with
 | false=>
  have HX:=Lib.hid (HE.out.trans (if_pos hw))
  go_wp2_with fail
  go_ret
  exact HP.out _ _ HX.out.symm HB.out
 | true=>
  have HE2:=Lib.hid (HE.out.trans (if_neg (by rw [hw];simp)))
  clear HE hw
  by_cases hl:300 < zs.length
  · have hlz:(300:Int) < (zs.length:Int):=by omega
    have HX:=Lib.hid (HE2.out.trans (if_pos hl))
    go_wp2_with fail
    go_ret
    exact HP.out _ _ HX.out.symm HB.out
  · have hlz:¬(300:Int) < (zs.length:Int):=by omega
    have HE3:=Lib.hid (HE2.out.trans (if_neg hl))
    clear HE2
    go_wp2_with fail
    refine HC.out.mono ?_
    rintro e w2 ⟨rfl,hb2⟩
    have HB2:=Lib.hid (HB.out.trans (hb2.mono HB.out.size))
    clear hb2
    by_cases hi:0≤idx (fun j=>!win (gz zs j) 0 (f.sorts.length-1)) zs.length
    · have HX:=Lib.hid (HE3.out.trans (if_pos hi))
      rw [decide_eq_true hi]
      clear hi
      go_wp2_with fail
      go_ret
      exact HP.out _ _ HX.out.symm HB2.out
    · have HX:=Lib.hid (HE3.out.trans (if_neg hi))
      rw [decide_eq_false hi]
      clear hi
      go_wp2_with fail
      go_ret
      exact HP.out _ _ HX.out.symm HB2.out
end Go.Proofs.YtbnganlfelgogaaGreat
