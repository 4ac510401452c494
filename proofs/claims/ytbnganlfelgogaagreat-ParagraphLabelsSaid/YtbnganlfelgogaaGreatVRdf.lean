/- What is known of the sorts so far (fount.known), by contracts. -/
import Derived.Test.YtbnganlfelgogaaGreatVFna
import Derived.Maps.OwnSet
import Derived.Maps.OwnOps
import Derived.Maps.Views
import Derived.StringKeys
set_option linter.unusedSimpArgs false
set_option linter.unusedVariables false
set_option maxRecDepth 100000
set_option maxHeartbeats 40000000
namespace Go.Proofs.YtbnganlfelgogaaGreat
open Go.RowKit Go.Maps Go.WideMaps
theorem law9:Keyed Tryz.prog 9:=string_keyed Tryz.underlying9
theorem zero3 (w:World):(zeroValue 3).run Tryz.prog w=.ok (.int .i64 0) w:=by kernel_rfl
theorem prints_any (kind:Int) (s:ByteArray) (w:World) (hk:1≤kind∧kind≤3):Calls Tryz.prog 205 #[.int .i64 kind,.string s] w fun e w'=>e=.returned (.bool (prB kind s))∧Below w.heap.size w w':=by
 have hg:prB kind s=(decide (if kind=1 then s.size=1 else if kind=2 then 2≤s.size∧s.size≤4 else s.size=0) && goodB s):=by
  unfold prB goodB;rw [Bool.eq_iff_iff];simp
 have HG:=Lib.hid hg
 clear hg
 generalize prB kind s=pb at *
 have HCF:=Lib.hid (containsFunc_any s)
 generalize goodB s=gb at *
 rcases (show kind=1∨kind=2∨kind=3 by omega) with rfl | rfl | rfl
 · have hix:∀ w,(Instr.index 285 (.agg #[.int .i64 0,.int .i64 0,.int .i64 1,.int .i64 1,.int .i64 2,.int .i64 4,.int .i64 0,.int .i64 0]) (.int .i64 1)).run Tryz.prog w=.ok (.agg #[.int .i64 1,.int .i64 1]) w:=fun _=>by kernel_rfl
   have HW:Hid (pb=(win s.size 1 1 && gb)):=by
    show _=_
    rw [HG.out]
    congr 1
    unfold win
    exact decide_eq_decide.2 (by simp;try omega)
   clear HG hk
   go_enter Tryz.func205,Tryz.ntmps205
   go_wp2_with fail
   refine (within100_any _ _ _ _).mono ?_
   rintro e w' ⟨rfl,rfl⟩
   cases hq:win (s.size:Int) 1 1 with
   | false=>
    have HQ:=Lib.hid hq
    clear hq hix
    go_wp2_with fail
    go_ret
    exact ⟨ret_bool (by rw [HW.out,HQ.out];rfl),below_new _ _⟩
   | true=>
    have HQ:=Lib.hid hq
    clear hq hix
    have hb0:=Lib.hid (below_new w (.cells #[.int .i64 1,.int .i64 1] 284))
    go_wp2_with fail
    refine (HCF.out _).mono ?_
    rintro e w' ⟨rfl,hb⟩
    have HB:=Lib.hid (hb0.out.trans (hb.mono (by simp)))
    clear hb
    go_wp2_with fail
    go_ret
    exact ⟨ret_bool (by rw [HW.out,HQ.out];simp),HB.out⟩
 · have hix:∀ w,(Instr.index 285 (.agg #[.int .i64 0,.int .i64 0,.int .i64 1,.int .i64 1,.int .i64 2,.int .i64 4,.int .i64 0,.int .i64 0]) (.int .i64 2)).run Tryz.prog w=.ok (.agg #[.int .i64 2,.int .i64 4]) w:=fun _=>by kernel_rfl
   have HW:Hid (pb=(win s.size 2 4 && gb)):=by
    show _=_
    rw [HG.out]
    congr 1
    unfold win
    exact decide_eq_decide.2 (by simp;try omega)
   clear HG hk
   go_enter Tryz.func205,Tryz.ntmps205
   go_wp2_with fail
   refine (within100_any _ _ _ _).mono ?_
   rintro e w' ⟨rfl,rfl⟩
   cases hq:win (s.size:Int) 2 4 with
   | false=>
    have HQ:=Lib.hid hq
    clear hq hix
    go_wp2_with fail
    go_ret
    exact ⟨ret_bool (by rw [HW.out,HQ.out];rfl),below_new _ _⟩
   | true=>
    have HQ:=Lib.hid hq
    clear hq hix
    have hb0:=Lib.hid (below_new w (.cells #[.int .i64 2,.int .i64 4] 284))
    go_wp2_with fail
    refine (HCF.out _).mono ?_
    rintro e w' ⟨rfl,hb⟩
    have HB:=Lib.hid (hb0.out.trans (hb.mono (by simp)))
    clear hb
    go_wp2_with fail
    go_ret
    exact ⟨ret_bool (by rw [HW.out,HQ.out];simp),HB.out⟩
 · have hix:∀ w,(Instr.index 285 (.agg #[.int .i64 0,.int .i64 0,.int .i64 1,.int .i64 1,.int .i64 2,.int .i64 4,.int .i64 0,.int .i64 0]) (.int .i64 3)).run Tryz.prog w=.ok (.agg #[.int .i64 0,.int .i64 0]) w:=fun _=>by kernel_rfl
   have HW:Hid (pb=(win s.size 0 0 && gb)):=by
    show _=_
    rw [HG.out]
    congr 1
    unfold win
    exact decide_eq_decide.2 (by simp;try omega)
   clear HG hk
   go_enter Tryz.func205,Tryz.ntmps205
   go_wp2_with fail
   refine (within100_any _ _ _ _).mono ?_
   rintro e w' ⟨rfl,rfl⟩
   cases hq:win (s.size:Int) 0 0 with
   | false=>
    have HQ:=Lib.hid hq
    clear hq hix
    go_wp2_with fail
    go_ret
    exact ⟨ret_bool (by rw [HW.out,HQ.out];rfl),below_new _ _⟩
   | true=>
    have HQ:=Lib.hid hq
    clear hq hix
    have hb0:=Lib.hid (below_new w (.cells #[.int .i64 0,.int .i64 0] 284))
    go_wp2_with fail
    refine (HCF.out _).mono ?_
    rintro e w' ⟨rfl,hb⟩
    have HB:=Lib.hid (hb0.out.trans (hb.mono (by simp)))
    clear hb
    go_wp2_with fail
    go_ret
    exact ⟨ret_bool (by rw [HW.out,HQ.out];simp),HB.out⟩
def KN (W:World) (m1 m2:Nat) (l:List TSort) (i:Nat):Prop:=
 ∃ D1 D2:DataW Unit,W.ownsMap Tryz.prog 9 (plainElem Tryz.prog 3) m1 i D1∧W.ownsMap Tryz.prog 9 (plainElem Tryz.prog 3) m2 i D2∧m1≠m2∧
  (∀ s:ByteArray,Maps.has D1 (.string s.data.toList)=hasNm l i s)∧(∀ s:ByteArray,Maps.has D2 (.string s.data.toList)=hasTx l i s)
theorem KN.below {W W':World} {m1 m2:Nat} {l:List TSort} {i:Nat} (h:KN W m1 m2 l i) (hb:Below W.heap.size W W'):KN W' m1 m2 l i:=by
 obtain ⟨D1,D2,h1,h2,h3⟩:=h
 exact ⟨D1,D2,h1.kept (grown_of_below hb none) (by simp),h2.kept (grown_of_below hb none) (by simp),h3⟩
theorem name_any (m1 m2:Nat) (l:List TSort) (i:Nat) (s:ByteArray) (w:World) (h:KN w m1 m2 l i) (hs:s.size≤9223372036854775807) :
 Calls Tryz.prog 200 #[.agg #[.map (some m1),.map (some m2)],.string s] w fun e w'=>e=.returned (.int .i64 (if isNm s=false then 4 else if hasNm l i s=true then 5 else 0))∧Below w.heap.size w w':=by
 have hkey:keyOf Tryz.prog 9 (.string s)=some (.string s.data.toList):=keyOf_string_mk Tryz.underlying9 (by unfold maxLen;exact hs)
 have hb0:=below_new w (.cells #[.map (some m1),.map (some m2)] 234)
 have HK:=Lib.hid (h.below hb0)
 have HB0:=Lib.hid hb0
 have HN:=Lib.hid (isName_any s (w.alloc (.cells #[.map (some m1),.map (some m2)] 234)) hs)
 clear h hb0
 have c0:=(Blk.new w 234 #[.map (some m1),.map (some m2)]).cell 0
 have c1:=(Blk.new w 234 #[.map (some m1),.map (some m2)]).cell 1
 have HC:=Lib.hid (Blk.new w 234 #[.map (some m1),.map (some m2)])
 generalize isNm s=nb at *
 obtain ⟨hv,hve⟩:∃ b,hasNm l i s=b:=⟨_,rfl⟩
 rw [hve]
 have HV:=Lib.hid hve
 clear hve
 go_enter Tryz.func200,Tryz.ntmps200
 go_wp2_with fail
 refine HN.out.mono ?_
 rintro e w1 ⟨rfl,hb⟩
 have hK1:=HK.out.below hb
 have hC1:=HC.out.below hb HC.out.lt
 have d0:=hC1.cell 0
 have d1:=hC1.cell 1
 have HB1:=Lib.hid (HB0.out.trans (hb.mono (by simp)))
 obtain ⟨D1,D2,o1,-,-,q1,-⟩:=hK1
 have Q1:=Lib.hid ((q1 s).trans HV.out)
 have HKY:=Lib.hid hkey
 clear hb hC1 q1 hkey c0 c1
 cases nb with
 | false=>
  go_wp2_with fail
  go_ret
  exact ⟨rfl,HB1.out⟩
 | true=>
  cases hv with
  | false=>
   go_wp2_with ((at_lookup;refine wpList_lookup_own_ok_int _ rfl _ _ 232 rfl 9 3 .i64 law9 Tryz.underlying232 Tryz.underlying3 (zero3 _) m1 i D1 rfl o1 _ _ rfl HKY.out ?_;intro c hat hwc;rw [Q1.out];clear hat hwc))
   go_ret
   exact ⟨rfl,HB1.out⟩
  | true=>
   go_wp2_with ((at_lookup;refine wpList_lookup_own_ok_int _ rfl _ _ 232 rfl 9 3 .i64 law9 Tryz.underlying232 Tryz.underlying3 (zero3 _) m1 i D1 rfl o1 _ _ rfl HKY.out ?_;intro c hat hwc;rw [Q1.out];clear hat hwc))
   go_ret
   exact ⟨rfl,HB1.out⟩
theorem text_any (m1 m2:Nat) (l:List TSort) (i:Nat) (kind:Int) (s:ByteArray) (w:World) (h:KN w m1 m2 l i) (hk:1≤kind∧kind≤3) (hs:s.size≤9223372036854775807) :
 Calls Tryz.prog 201 #[.agg #[.map (some m1),.map (some m2)],.int .i64 kind,.string s] w fun e w'=>e=.returned (.int .i64 (if prB kind s=false then 3 else if kind≠3∧hasTx l i s=true then 13 else 0))∧Below w.heap.size w w':=by
 have hkey:keyOf Tryz.prog 9 (.string s)=some (.string s.data.toList):=keyOf_string_mk Tryz.underlying9 (by unfold maxLen;exact hs)
 have hb0:=below_new w (.cells #[.map (some m1),.map (some m2)] 234)
 have HK:=Lib.hid (h.below hb0)
 have HB0:=Lib.hid hb0
 have HN:=Lib.hid (prints_any kind s (w.alloc (.cells #[.map (some m1),.map (some m2)] 234)) hk)
 clear h hb0
 have c0:=(Blk.new w 234 #[.map (some m1),.map (some m2)]).cell 0
 have c1:=(Blk.new w 234 #[.map (some m1),.map (some m2)]).cell 1
 have HC:=Lib.hid (Blk.new w 234 #[.map (some m1),.map (some m2)])
 generalize prB kind s=nb at *
 obtain ⟨hv,hve⟩:∃ b,hasTx l i s=b:=⟨_,rfl⟩
 rw [hve]
 have HV:=Lib.hid hve
 clear hve
 obtain ⟨rv,hrv⟩:∃ r:Int,(if nb=false then (3:Int) else if kind≠3∧hv=true then 13 else 0)=r:=⟨_,rfl⟩
 rw [hrv]
 have HR:=Lib.hid hrv
 clear hrv
 go_enter Tryz.func201,Tryz.ntmps201
 go_wp2_with fail
 refine HN.out.mono ?_
 rintro e w1 ⟨rfl,hb⟩
 have hK1:=HK.out.below hb
 have hC1:=HC.out.below hb HC.out.lt
 have d0:=hC1.cell 0
 have d1:=hC1.cell 1
 have HB1:=Lib.hid (HB0.out.trans (hb.mono (by simp)))
 obtain ⟨D1,D2,-,o2,-,-,q2⟩:=hK1
 have Q2:=Lib.hid ((q2 s).trans HV.out)
 have HKY:=Lib.hid hkey
 clear hb hC1 q2 hkey c0 c1
 cases nb with
 | false=>
  go_wp2_with fail
  go_ret
  exact ⟨ret_int (by rw [←HR.out];rfl),HB1.out⟩
 | true=>
  cases hv with
  | false=>
   go_wp2_with ((at_lookup;refine wpList_lookup_own_ok_int _ rfl _ _ 232 rfl 9 3 .i64 law9 Tryz.underlying232 Tryz.underlying3 (zero3 _) m2 i D2 rfl o2 _ _ rfl HKY.out ?_;intro c hat hwc;rw [Q2.out];clear hat hwc))
   go_ret
   exact ⟨ret_int (by rw [←HR.out];simp),HB1.out⟩
  | true=>
   by_cases h3:kind=3
   · have h3b:=bne_f h3
     have H3:=Lib.hid h3
     clear h3
     go_wp2_with ((at_lookup;refine wpList_lookup_own_ok_int _ rfl _ _ 232 rfl 9 3 .i64 law9 Tryz.underlying232 Tryz.underlying3 (zero3 _) m2 i D2 rfl o2 _ _ rfl HKY.out ?_;intro c hat hwc;rw [Q2.out];clear hat hwc))
     go_ret
     exact ⟨ret_int (by rw [←HR.out,if_neg (by decide),if_neg (fun h=>h.1 H3.out)]),HB1.out⟩
   · have h3b:=bne_t h3
     have H3:=Lib.hid h3
     clear h3
     go_wp2_with ((at_lookup;refine wpList_lookup_own_ok_int _ rfl _ _ 232 rfl 9 3 .i64 law9 Tryz.underlying232 Tryz.underlying3 (zero3 _) m2 i D2 rfl o2 _ _ rfl HKY.out ?_;intro c hat hwc;rw [Q2.out];clear hat hwc))
     go_ret
     exact ⟨ret_int (by rw [←HR.out,if_neg (by decide),if_pos (by exact ⟨H3.out,by first | rfl | trivial | simp⟩)]),HB1.out⟩
def soE (l:List TSort) (i:Nat) (x:TSort):Int:=
 if isNm x.name=false then 4
 else if hasNm l i x.name=true then 5
 else if win x.kind 1 3=false then 15
 else if win x.width 1 100000=false then 2
 else if prB x.kind x.text=false then 3
 else if x.kind≠3∧hasTx l i x.text=true then 13
 else 0
theorem soErr_eq (l:List TSort) (i:Nat):soErr l i=soE l i (gs l i):=rfl
@[reducible,go_sem] def scs (x:TSort):Array Value:=#[.string x.name,.string x.text,.int .i64 x.kind,.int .i64 x.width]
theorem sort_any (m1 m2:Nat) (l:List TSort) (i:Nat) (x:TSort) (w:World) (h:KN w m1 m2 l i) (hs:x.name.size≤9223372036854775807) (hs2:x.text.size≤9223372036854775807) :
 Calls Tryz.prog 185 #[.agg #[.map (some m1),.map (some m2)],.agg (scs x)] w fun e w'=>e=.returned (.int .i64 (soE l i x))∧Below w.heap.size w w':=by
 have hb0:=(below_new w (.cells #[.map (some m1),.map (some m2)] 234)).alloc (by simp) (.cells (scs x) 145)
 have HK:=Lib.hid (h.below hb0)
 have HB0:=Lib.hid hb0
 obtain ⟨rv,hrv⟩:∃ r:Int,soE l i x=r:=⟨_,rfl⟩
 have hdef:(if (if isNm x.name=false then (4:Int) else if hasNm l i x.name=true then 5 else 0)≠0 then (if isNm x.name=false then (4:Int) else if hasNm l i x.name=true then 5 else 0) else if win x.kind 1 3=false then 15
  else if win x.width 1 100000=false then 2 else (if prB x.kind x.text=false then 3 else if x.kind≠3∧hasTx l i x.text=true then 13 else 0))=rv:=by
  rw [←hrv]
  unfold soE
  by_cases h1:isNm x.name=false
  · rw [if_pos h1,if_pos (by decide),if_pos h1]
  · rw [if_neg h1,if_neg h1]
    by_cases h2:hasNm l i x.name=true
    · rw [if_pos h2,if_pos (by decide),if_pos h2]
    · rw [if_neg h2,if_neg (by decide),if_neg h2]
 have HN:Hid (∀ W,KN W m1 m2 l i→Calls Tryz.prog 200 #[.agg #[.map (some m1),.map (some m2)],.string x.name] W fun e w'=>e=.returned (.int .i64 (if isNm x.name=false then 4 else if hasNm l i x.name=true then 5 else 0))∧Below W.heap.size W w'):=(show ∀ W,_ from fun W hW=>name_any m1 m2 l i x.name W hW hs)
 have HT:Hid (∀ W,KN W m1 m2 l i→(1≤x.kind∧x.kind≤3)→Calls Tryz.prog 201 #[.agg #[.map (some m1),.map (some m2)],.int .i64 x.kind,.string x.text] W fun e w'=>e=.returned (.int .i64 (if prB x.kind x.text=false then 3 else if x.kind≠3∧hasTx l i x.text=true then 13 else 0))∧Below W.heap.size W w'):=(show ∀ W,_ from fun W hW hk=>text_any m1 m2 l i x.kind x.text W hW hk hs2)
 rw [hrv]
 have hbk1:=(Blk.new w 234 #[.map (some m1),.map (some m2)]).below (below_new _ (.cells (scs x) 145)) (by simp)
 have hbk2:=Blk.new (w.alloc (.cells #[.map (some m1),.map (some m2)] 234)) 145 (scs x)
 have hsz:(w.alloc (.cells #[.map (some m1),.map (some m2)] 234)).heap.size=w.heap.size+1:=by simp
 rw [hsz] at hbk2
 have HC1:=Lib.hid hbk1
 have HC2:=Lib.hid hbk2
 generalize (if isNm x.name=false then (4:Int) else if hasNm l i x.name=true then 5 else 0)=e1 at *
 generalize (if prB x.kind x.text=false then (3:Int) else if x.kind≠3∧hasTx l i x.text=true then 13 else 0)=e2 at *
 have HD:=Lib.hid hdef
 clear hrv hdef hb0 h hbk1 hbk2 hsz hs hs2
 go_enter Tryz.func185,Tryz.ntmps185
 go_wp2_with fail
 generalize (w.alloc (.cells #[.map (some m1),.map (some m2)] 234)).alloc (.cells (scs x) 145)=W0 at *
 refine (HN.out _ HK.out).mono ?_
 rintro e w1 ⟨rfl,hb⟩
 have HK1:=Lib.hid (HK.out.below hb)
 have hc1:=HC1.out.below hb HC1.out.lt
 have hc2:=HC2.out.below hb HC2.out.lt
 have c0:=hc1.cell 0
 have c1:=hc1.cell 1
 have d0:=hc2.cell 0
 have d1:=hc2.cell 1
 have d2:=hc2.cell 2
 have d3:=hc2.cell 3
 have HB1:=Lib.hid (HB0.out.trans (hb.mono HB0.out.size))
 clear hb hc1 hc2 HN HK
 by_cases he:e1=0
 · have heb:=bne_f he
   have HE:=Lib.hid he
   clear he
   go_wp2_with fail
   refine (within100_any _ _ _ _).mono ?_
   rintro e w' ⟨rfl,rfl⟩
   cases hq:win x.kind 1 3 with
   | false=>
    have HQ:=Lib.hid hq
    clear hq
    go_wp2_with fail
    go_ret
    exact ⟨ret_int (by rw [←HD.out,if_neg (fun h=>h HE.out),if_pos HQ.out]),HB1.out⟩
   | true=>
    have HQ:=Lib.hid hq
    clear hq
    go_wp2_with fail
    refine (within100_any _ _ _ _).mono ?_
    rintro e w' ⟨rfl,rfl⟩
    cases hq2:win x.width 1 100000 with
    | false=>
     have HQ2:=Lib.hid hq2
     clear hq2
     go_wp2_with fail
     go_ret
     exact ⟨ret_int (by rw [←HD.out,if_neg (fun h=>h HE.out),if_neg (by rw [HQ.out];decide),if_pos HQ2.out]),HB1.out⟩
    | true=>
     have HQ2:=Lib.hid hq2
     clear hq2
     go_wp2_with fail
     refine (HT.out _ HK1.out (win_t.1 HQ.out)).mono ?_
     rintro e w' ⟨rfl,hb⟩
     have HB2:=Lib.hid (HB1.out.trans (hb.mono HB1.out.size))
     clear hb
     go_wp2_with fail
     go_ret
     exact ⟨ret_int (by rw [←HD.out,if_neg (fun h=>h HE.out),if_neg (by rw [HQ.out];decide),if_neg (by rw [HQ2.out];decide)]),HB2.out⟩
 · have heb:=bne_t he
   have HE:=Lib.hid he
   clear he
   go_wp2_with fail
   go_ret
   exact ⟨ret_int (by rw [←HD.out,if_pos HE.out]),HB1.out⟩
end Go.Proofs.YtbnganlfelgogaaGreat
namespace Go.Proofs.YtbnganlfelgogaaGreat
open Go.RowKit Go.Maps Go.WideMaps
theorem idx_iff (pr:Nat→Bool):∀ n,0≤idx pr n↔∃ j,j < n∧pr j=true
 | 0=>by simp [idx]
 | n+1=>by
  constructor
  · intro h
    by_cases hh:∃ j,j < n+1∧pr j=true
    · exact hh
    · rw [idx_none (fun j hj=>by
       cases hq:pr j with
       | false=>rfl
       | true=>exact absurd ⟨j,hj,hq⟩ hh)] at h
      omega
  · rintro ⟨j,hj,hp⟩
    rcases Int.lt_or_le (idx pr (n+1)) 0 with h | h
    · have:=idx_neg (pr:=pr) (n:=n+1) (by omega) j hj
      rw [this] at hp
      cases hp
    · exact h
theorem idx_dec (pr:Nat→Bool) (n:Nat):decide (0≤idx pr (n+1))=(decide (0≤idx pr n) || pr n):=by
 rw [Bool.eq_iff_iff,Bool.or_eq_true,decide_eq_true_iff,decide_eq_true_iff,idx_iff,idx_iff]
 constructor
 · rintro ⟨j,hj,hp⟩
   by_cases e:j=n
   · subst e;exact Or.inr hp
   · exact Or.inl ⟨j,by omega,hp⟩
 · rintro (⟨j,hj,hp⟩ | h)
   · exact ⟨j,by omega,hp⟩
   · exact ⟨n,by omega,h⟩
theorem hasNm_succ (l:List TSort) (i:Nat) (s:ByteArray):hasNm l (i+1) s=(hasNm l i s || nmEq (gs l i).name s):=idx_dec _ _
theorem hasTx_succ (l:List TSort) (i:Nat) (s:ByteArray):hasTx l (i+1) s=(hasTx l i s || ((gs l i).kind != 3 && nmEq (gs l i).text s)):=idx_dec _ _
theorem nmEq_iff {a b:ByteArray}:nmEq a b=true↔a.data.toList=b.data.toList:=by
 unfold nmEq
 rw [ByteArray.toList_eq,ByteArray.toList_eq,beq_iff_eq]
theorem nmEq_no {a b:ByteArray} (h:nmEq a b=false):(Lit.string b.data.toList)≠Lit.string a.data.toList:=fun e=>by
 injection e with e
 have:nmEq a b=true:=nmEq_iff.2 e.symm
 rw [this] at h
 cases h
structure But2 (m1 m2:Nat) (w w':World):Prop where
 os:w'.os=w.os
 tape:w'.tape=w.tape
 output:w'.output=w.output
 size:w.heap.size≤w'.heap.size
 block:∀ k,k < w.heap.size→k≠m1→k≠m2→w'.heap[k]?=w.heap[k]?
theorem But2.refl (m1 m2:Nat) (w:World):But2 m1 m2 w w:=⟨rfl,rfl,rfl,Nat.le_refl _,fun _ _ _ _=>rfl⟩
theorem But2.trans {m1 m2:Nat} {a b c:World} (h:But2 m1 m2 a b) (k:But2 m1 m2 b c):But2 m1 m2 a c:=
 ⟨k.os.trans h.os,k.tape.trans h.tape,k.output.trans h.output,Nat.le_trans h.size k.size,fun i hi h1 h2=>(k.block i (Nat.lt_of_lt_of_le hi h.size) h1 h2).trans (h.block i hi h1 h2)⟩
theorem But2.of_below {m1 m2:Nat} {a b:World} (h:Below a.heap.size a b):But2 m1 m2 a b:=⟨h.os,h.tape,h.output,h.size,fun i hi _ _=>h.block i hi⟩
theorem But2.below {m1 m2 B:Nat} {a b:World} (h:But2 m1 m2 a b) (h1:B≤m1) (h2:B≤m2) (hB:B≤a.heap.size):Below B a b:=⟨h.os,h.tape,h.output,h.size,fun i hi=>h.block i (by omega) (by omega) (by omega)⟩
theorem But2.of_grown {m1 m2:Nat} {a b:World} {r:Nat} (h:a.grownBy b (some r)) (hr:r=m1∨r=m2):But2 m1 m2 a b:=
 ⟨h.os,h.tape,h.output,h.size,fun i hi h1 h2=>h.block i hi (fun e=>by injection e with e;omega)⟩
theorem blk_map_ne {W:World} {g m n:Nat} {t:TypeId} {cs:Array Value} {k:TypeId} {R:Value→Option (DataW Unit × List MemPlace)} {D:DataW Unit} (h:Blk W g t cs) (o:W.ownsMap Tryz.prog k R m n D):g≠m:=fun e=>by
 subst e
 obtain ⟨es,cl,hh,-⟩:=o
 unfold Blk at h
 rw [h] at hh
 cases hh
def AddPost (m1 m2:Nat) (l:List TSort) (i:Nat) (w:World) (e:Ending) (w':World):Prop:=(∃ v,e=.returned v)∧KN w' m1 m2 l (i+1)∧But2 m1 m2 w w'
theorem add_any (m1 m2:Nat) (l:List TSort) (i:Nat) (x:TSort) (w:World) (h:KN w m1 m2 l i) (hx:gs l i=x) (hs:x.name.size≤9223372036854775807) (hs2:x.text.size≤9223372036854775807) (hi:i≤1000) :
 Calls Tryz.prog 186 #[.agg #[.map (some m1),.map (some m2)],.agg (scs x),.int .i64 (i:Int)] w (AddPost m1 m2 l i w):=by
 have hkey:keyOf Tryz.prog 9 (.string x.name)=some (.string x.name.data.toList):=keyOf_string_mk Tryz.underlying9 (by unfold maxLen;exact hs)
 have hkey2:keyOf Tryz.prog 9 (.string x.text)=some (.string x.text.data.toList):=keyOf_string_mk Tryz.underlying9 (by unfold maxLen;exact hs2)
 have hb0:=(below_new w (.cells #[.map (some m1),.map (some m2)] 234)).alloc (by simp) (.cells (scs x) 145)
 have hK:=h.below hb0
 have hbk1:=(Blk.new w 234 #[.map (some m1),.map (some m2)]).below (below_new _ (.cells (scs x) 145)) (by simp)
 have hbk2:=Blk.new (w.alloc (.cells #[.map (some m1),.map (some m2)] 234)) 145 (scs x)
 have hsz:(w.alloc (.cells #[.map (some m1),.map (some m2)] 234)).heap.size=w.heap.size+1:=by simp
 rw [hsz] at hbk2
 obtain ⟨D1,D2,o1,o2,hne,q1,q2⟩:=hK
 have HB0:=Lib.hid hb0
 have HC1:=Lib.hid hbk1
 have HC2:=Lib.hid hbk2
 have HNE:=Lib.hid hne
 have HK1:=Lib.hid hkey
 have HK2:=Lib.hid hkey2
 have Q1:=Lib.hid q1
 have Q2:=Lib.hid q2
 have HX:=Lib.hid hx
 have c0:=hbk1.cell 0
 have c1:=hbk1.cell 1
 have d0:=hbk2.cell 0
 have d1:=hbk2.cell 1
 have d2:=hbk2.cell 2
 have hm1:=o1.lt
 have hm2:=o2.lt
 have hg1:=blk_map_ne hbk1 o1
 have hg2:=blk_map_ne hbk2 o1
 have HG1:=Lib.hid hg1
 have HG2:=Lib.hid hg2
 have hQ1:∀ s:ByteArray,Maps.has (D1.put (.string x.name.data.toList) (.lit (.int .i64 (i:Int)))) (.string s.data.toList)=hasNm l (i+1) s:=fun s=>by
  rw [hasNm_succ,hx]
  cases hq:nmEq x.name s with
  | true=>rw [nmEq_iff.1 hq,has_put_same o1.isMap (by exact trivial)];simp
  | false=>rw [has_put_other (nmEq_no hq),q1 s];simp
 have HQ1:=Lib.hid hQ1
 clear hkey hkey2 hb0 h hbk1 hbk2 hsz hne q1 q2 hg1 hg2 hQ1 hx
 have hmx:i < maxLen:=by unfold maxLen;omega
 have HWF:Hid ((Lit.int .i64 (i:Int)).wf=true):=WalkArith.wf_i64 (by omega)
 have HBB:=Lib.hid (But2.of_below (m1:=m1) (m2:=m2) HB0.out)
 by_cases h3:x.kind=3
 · have h3b:=bne_f h3
   have HQ2:Hid (∀ s:ByteArray,Maps.has D2 (.string s.data.toList)=hasTx l (i+1) s):=(show ∀ s,_ from fun s=>by rw [hasTx_succ,HX.out,h3];simpa using Q2.out s)
   clear h3
   go_enter Tryz.func186,Tryz.ntmps186
   go_wp2_with ((at_mapUpdate
                 refine wpList_mapUpdate_own _ rfl _ _ _ 232 rfl 9 3 law9 Tryz.underlying232 _ m1 i D1 rfl o1 hmx _ _ _ rfl rfl HK1.out _ [] (plainElem_int Tryz.underlying3 HWF.out) ?_
                 intro w1 hown1 hgrow1
                 have hy1:=HC1.out.grown hgrow1 (fun e=>HG1.out (by injection e))
                 have hy2:=HC2.out.grown hgrow1 (fun e=>HG2.out (by injection e))
                 have e0:w1.cell? ⟨w.heap.size,1,none⟩=some (.map (some m2)):=hy1.cell 1
                 have e1:w1.cell? ⟨w.heap.size+1,1,none⟩=some (.string x.text):=hy2.cell 1
                 have e2:w1.cell? ⟨w.heap.size+1,2,none⟩=some (.int .i64 x.kind):=hy2.cell 2
                 have HN:Hid (w1.ownsMap Tryz.prog 9 (plainElem Tryz.prog 3) m1 (i+1) _):=hown1
                 have O2:Hid (w1.ownsMap Tryz.prog 9 (plainElem Tryz.prog 3) m2 i D2):=o2.kept hgrow1 (by intro e;injection e with e;exact HNE.out e.symm)
                 have HBX:=Lib.hid (HBB.out.trans (But2.of_grown hgrow1 (Or.inl rfl)))
                 clear hown1 hgrow1 c0 c1 d0 d1 d2 o1 o2 hy1 hy2))
   have HO2:=Lib.hid (O2.out.mono (Nat.le_succ _))
   go_end0
   exact ⟨⟨_,rfl⟩,⟨_,D2,HN.out,HO2.out,HNE.out,HQ1.out,HQ2.out⟩,HBX.out⟩
 · have h3b:=bne_t h3
   have HQ2:Hid (∀ s:ByteArray,Maps.has (D2.put (.string x.text.data.toList) (.lit (.int .i64 (i:Int)))) (.string s.data.toList)=hasTx l (i+1) s):=(show ∀ s,_ from fun s=>by
    rw [hasTx_succ,HX.out,h3b]
    cases hq:nmEq x.text s with
    | true=>rw [nmEq_iff.1 hq,has_put_same o2.isMap (by exact trivial)];simp
    | false=>rw [has_put_other (nmEq_no hq),Q2.out s];simp)
   clear h3
   go_enter Tryz.func186,Tryz.ntmps186
   go_wp2_with (first
    | (at_mapUpdate
       refine wpList_mapUpdate_own _ rfl _ _ _ 232 rfl 9 3 law9 Tryz.underlying232 _ m1 i D1 rfl o1 hmx _ _ _ rfl rfl HK1.out _ [] (plainElem_int Tryz.underlying3 HWF.out) ?_
       intro w1 hown1 hgrow1
       have hy1:=HC1.out.grown hgrow1 (fun e=>HG1.out (by injection e))
       have hy2:=HC2.out.grown hgrow1 (fun e=>HG2.out (by injection e))
       have e0:w1.cell? ⟨w.heap.size,1,none⟩=some (.map (some m2)):=hy1.cell 1
       have e1:w1.cell? ⟨w.heap.size+1,1,none⟩=some (.string x.text):=hy2.cell 1
       have e2:w1.cell? ⟨w.heap.size+1,2,none⟩=some (.int .i64 x.kind):=hy2.cell 2
       have HN:Hid (w1.ownsMap Tryz.prog 9 (plainElem Tryz.prog 3) m1 (i+1) _):=hown1
       have O2:Hid (w1.ownsMap Tryz.prog 9 (plainElem Tryz.prog 3) m2 i D2):=o2.kept hgrow1 (by intro e;injection e with e;exact HNE.out e.symm)
       have HBX:=Lib.hid (HBB.out.trans (But2.of_grown hgrow1 (Or.inl rfl)))
       clear hown1 hgrow1 c0 c1 d0 d1 d2 o1 o2 hy1 hy2)
    | (at_mapUpdate
       refine wpList_mapUpdate_own _ rfl _ _ _ 232 rfl 9 3 law9 Tryz.underlying232 _ m2 i D2 rfl O2.out hmx _ _ _ rfl rfl HK2.out _ [] (plainElem_int Tryz.underlying3 HWF.out) ?_
       intro w2 hown2 hgrow2
       have HN2:Hid (w2.ownsMap Tryz.prog 9 (plainElem Tryz.prog 3) m1 (i+1) _):=HN.out.kept hgrow2 (by intro e;injection e with e;exact HNE.out e)
       have HO2:Hid (w2.ownsMap Tryz.prog 9 (plainElem Tryz.prog 3) m2 (i+1) _):=hown2
       have HBY:=Lib.hid (HBX.out.trans (But2.of_grown hgrow2 (Or.inr rfl)))
       clear hown2 hgrow2 e0 e1 e2))
   go_end0
   exact ⟨⟨_,rfl⟩,⟨_,_,HN2.out,HO2.out,HNE.out,HQ1.out,HQ2.out⟩,HBY.out⟩
def SAt (w:World) (b off:Nat) (x:TSort):Prop:=
 w.cell? ⟨b,off,none⟩=some (.string x.name)∧w.cell? ⟨b,off+1,none⟩=some (.string x.text)∧w.cell? ⟨b,off+2,none⟩=some (.int .i64 x.kind)∧w.cell? ⟨b,off+3,none⟩=some (.int .i64 x.width)
theorem SAt.below {B:Nat} {w w':World} {b off:Nat} {x:TSort} (h:SAt w b off x) (hb:Below B w w') (hB:b < B):SAt w' b off x:=by
 obtain ⟨h0,h1,h2,h3⟩:=h
 exact ⟨(hb.cell (p:=⟨b,_,none⟩) hB).trans h0,(hb.cell (p:=⟨b,_,none⟩) hB).trans h1,(hb.cell (p:=⟨b,_,none⟩) hB).trans h2,(hb.cell (p:=⟨b,_,none⟩) hB).trans h3⟩
def SsAt (w:World) (b off:Nat) (l:List TSort):Prop:=∀ j,j < l.length→SAt w b (off+j*4) (gs l j)
def SzOk (l:List TSort):Prop:=∀ j,j < l.length→(gs l j).name.size≤9223372036854775807∧(gs l j).text.size≤9223372036854775807
def SoV (W:World) (l:List TSort) (v:Value):Prop:=
 ∃ A b off c,v=.slice A l.length c∧Lies A l.length W.heap.size b off∧SsAt W b off l∧l.length≤c∧c≤9223372036854775807∧SzOk l
theorem SoV.below {W W':World} {l:List TSort} {v:Value} (h:SoV W l v) (hb:Below W.heap.size W W'):SoV W' l v:=by
 obtain ⟨A,b,off,c,rfl,h1,h2,h3⟩:=h
 exact ⟨A,b,off,c,rfl,h1.mono hb.size,fun j hj=>(h2 j hj).below hb (h1 (by omega)).2,h3⟩
def NkPost (w:World) (e:Ending) (w':World):Prop:=∃ m1 m2,e=.returned (.agg #[.map (some m1),.map (some m2)])∧w.heap.size≤m1∧w.heap.size≤m2∧(∀ l,KN w' m1 m2 l 0)∧Below w.heap.size w w'
theorem newKnown_any (w:World):Calls Tryz.prog 182 #[] w (NkPost w):=by
 have hmm:=@run_makeMap Tryz.prog
 go_enter Tryz.func182,Tryz.ntmps182
 go_wp2_with fail
 have h1:=World.ownsMap_made (H:=Unit) (w.alloc (Obj.cells #[Value.map (some (w.heap.size+1)),Value.map (some (w.heap.size+1+1))] 234)) Tryz.prog 9 (plainElem Tryz.prog 3)
 have h2:=World.ownsMap_made (H:=Unit) ((w.alloc (Obj.cells #[Value.map (some (w.heap.size+1)),Value.map (some (w.heap.size+1+1))] 234)).alloc (Obj.map #[] 0)) Tryz.prog 9 (plainElem Tryz.prog 3)
 have h1':=h1.alloc (Obj.map #[] 0)
 simp only [World.size_alloc] at h1' h2
 refine bodyPost_ret (v:=.agg #[.map (some (w.heap.size+1)),.map (some (w.heap.size+1+1))]) (by simp [results,Tryz.results182,go_sem]) rfl ⟨_,_,rfl,by omega,by omega,fun l=>⟨_,_,h1',h2,by omega,fun s=>rfl,fun s=>rfl⟩,((below_new _ _).alloc (by simp) _).alloc (by simp;omega) _⟩
structure RD (w W:World) (f:Fnt) (v:Value) (m1 m2 kb:Nat):Prop where
 B:Below w.heap.size w W
 F:Blk W w.heap.size 24 #[.string f.name,.int .i64 f.body,v]
 R:Blk W (w.heap.size+1) 234 #[.map none,.map none]
 K:Blk W kb 234 #[.map (some m1),.map (some m2)]
 k:w.heap.size+2≤kb
 h1:w.heap.size≤m1
 h2:w.heap.size≤m2
 n1:w.heap.size≠m1∧w.heap.size≠m2∧w.heap.size+1≠m1∧w.heap.size+1≠m2∧kb≠m1∧kb≠m2
theorem RD.but {w W W':World} {f:Fnt} {v:Value} {m1 m2 kb:Nat} (h:RD w W f v m1 m2 kb) (hb:But2 m1 m2 W W'):RD w W' f v m1 m2 kb:=
 ⟨h.B.trans (hb.below h.h1 h.h2 h.B.size),(hb.block _ h.F.lt h.n1.1 h.n1.2.1).trans h.F,(hb.block _ h.R.lt h.n1.2.2.1 h.n1.2.2.2.1).trans h.R,(hb.block _ h.K.lt h.n1.2.2.2.2.1 h.n1.2.2.2.2.2).trans h.K,h.k,h.h1,h.h2,h.n1⟩
theorem RD.below {w W W':World} {f:Fnt} {v:Value} {m1 m2 kb:Nat} (h:RD w W f v m1 m2 kb) (hb:Below W.heap.size W W'):RD w W' f v m1 m2 kb:=h.but (But2.of_below hb)
theorem RD.start {w w1:World} {f:Fnt} {v:Value} {m1 m2:Nat} (hm1:w.heap.size+2≤m1) (hm2:w.heap.size+2≤m2) (hK:∀ l,KN w1 m1 m2 l 0)
 (hb:Below (w.heap.size+2) ((w.alloc (Obj.cells #[.string f.name,.int .i64 f.body,v] 24)).alloc (Obj.cells #[.map none,.map none] 234)) w1) :
 RD w (w1.alloc (Obj.cells #[.map (some m1),.map (some m2)] 234)) f v m1 m2 w1.heap.size:=by
 have hb0:Below w.heap.size w ((w.alloc (Obj.cells #[.string f.name,.int .i64 f.body,v] 24)).alloc (Obj.cells #[.map none,.map none] 234)):=(below_new _ _).alloc (by simp) _
 have hsz:=hb.size
 simp only [World.size_alloc] at hsz
 obtain ⟨D1,D2,o1,o2,-⟩:=hK []
 have l1:=o1.lt
 have l2:=o2.lt
 have hn:=below_new w1 (Obj.cells #[.map (some m1),.map (some m2)] 234)
 have hF:=(Blk.new w 24 #[.string f.name,.int .i64 f.body,v]).below (below_new _ (Obj.cells #[.map none,.map none] 234)) (by simp)
 have hR:=Blk.new (w.alloc (Obj.cells #[.string f.name,.int .i64 f.body,v] 24)) 234 #[.map none,.map none]
 simp only [World.size_alloc] at hR
 refine ⟨hb0.trans ((hb.mono (by omega)).trans (hn.mono (by omega))),(hF.below hb (by omega)).below hn (by omega),(hR.below hb (by omega)).below hn (by omega),Blk.new w1 234 _,by omega,by omega,by omega,by omega,by omega,by omega,by omega,by omega,by omega⟩
def RdPost (f:Fnt) (w:World) (e:Ending) (w':World):Prop:=∃ m1 m2,e=.returned (.tuple #[.agg #[.map (some m1),.map (some m2)],.int .i64 (fnErr f).1,.int .i64 (fnErr f).2])∧Below w.heap.size w w'
theorem read_any (f:Fnt) (v:Value) (w:World) (hv:SoV w f.sorts v) (hn:f.name.size≤9223372036854775807) :
 Calls Tryz.prog 163 #[.agg #[.string f.name,.int .i64 f.body,v]] w (RdPost f w):=by
 obtain ⟨A,b,off,c,rfl,hA,hss,hc,hc2,hsz⟩:=hv
 have HP:Hid (∀ (W:World) m1 m2 x y,(x,y)=fnErr f→Below w.heap.size w W→RdPost f w (.returned (.tuple #[.agg #[.map (some m1),.map (some m2)],.int .i64 x,.int .i64 y])) W):=(show ∀ W m1 m2 x y,_ from fun W m1 m2 x y h hb=>⟨m1,m2,by rw [←h],hb⟩)
 have HD:Hid (fnErr f=if isNm f.name=false then (0,4) else if win f.body 1 144=false then (0,2) else if f.sorts.length=0 then (0,10) else if 120 < f.sorts.length then (0,8) else fstE (soErr f.sorts) f.sorts.length):=rfl
 have HN:=Lib.hid (fun W=>isName_any f.name W hn)
 clear hn
 generalize isNm f.name=nb at *
 go_enter Tryz.func163,Tryz.ntmps163
 go_wp2_with fail
 refine (newKnown_any _).mono ?_
 rintro e w1 ⟨m1,m2,rfl,hm1,hm2,hK,hb⟩
 simp only [World.size_alloc] at hm1 hm2 hb
 have hR:=RD.start hm1 hm2 hK hb
 have HK:=Lib.hid (fun l=>(hK l).below (below_new w1 (Obj.cells #[.map (some m1),.map (some m2)] 234)))
 have HR:=Lib.hid hR
 have f0:=hR.F.cell 0
 have f1:=hR.F.cell 1
 have f2:=hR.F.cell 2
 have k0:=hR.K.cell 0
 have k1:=hR.K.cell 1
 have r0:=hR.R.frozen 0
 have r1:=hR.R.frozen 1
 have q0:=hR.R.cell 0
 have q1:=hR.R.cell 1
 clear hm1 hm2 hb hR hK
 go_wp2_with fail
 generalize w1.alloc (Obj.cells #[.map (some m1),.map (some m2)] 234)=W2 at *
 generalize w1.heap.size=kb at *
 refine (HN.out _).mono ?_
 rintro e w3 ⟨rfl,hb⟩
 have HR3:=Lib.hid (HR.out.below hb)
 have HK3:=Lib.hid (fun l=>(HK.out l).below hb)
 clear f0 f1 f2 k0 k1 r0 r1 q0 q1 hb HR HK HN
 have f0:=HR3.out.F.cell 0
 have f1:=HR3.out.F.cell 1
 have f2:=HR3.out.F.cell 2
 have k0:=HR3.out.K.cell 0
 have k1:=HR3.out.K.cell 1
 have r0:=HR3.out.R.frozen 0
 have r1:=HR3.out.R.frozen 1
 have q0:=HR3.out.R.cell 0
 have q1:=HR3.out.R.cell 1
 cases nb with
 | false=>
  have ca:(w3.setCell ⟨w.heap.size+1,0,none⟩ (.map (some m1))).cell? ⟨w.heap.size+1,0,none⟩=some (.map (some m1)):=(HR3.out.R.set_ 0 _).cell 0
  have cb:((w3.setCell ⟨w.heap.size+1,0,none⟩ (.map (some m1))).setCell ⟨w.heap.size+1,1,none⟩ (.map (some m2))).cell? ⟨w.heap.size+1,1,none⟩=some (.map (some m2)):=((HR3.out.R.set_ 0 _).set_ 1 _).cell 1
  have CA:=Lib.hid ca
  have CB:=Lib.hid cb
  clear ca cb
  go_wp2_with fail
  refine bodyPost_ret (v:=.tuple #[.agg #[.map (some m1),.map (some m2)],.int .i64 0,.int .i64 4]) (by simp [results,Tryz.results163,go_sem,CA.out,CB.out]) rfl (HP.out _ _ _ _ _ (by rw [HD.out];rfl) ((HR3.out.B.setCell (by simp) _).setCell (by simp) _))
 | true=>
  go_wp2_with fail
  refine (within100_any _ _ _ _).mono ?_
  rintro e w' ⟨rfl,rfl⟩
  cases hq:win f.body 1 144 with
  | false=>
   have HQ:=Lib.hid hq
   clear hq
   have ca:(w3.setCell ⟨w.heap.size+1,0,none⟩ (.map (some m1))).cell? ⟨w.heap.size+1,0,none⟩=some (.map (some m1)):=(HR3.out.R.set_ 0 _).cell 0
   have cb:((w3.setCell ⟨w.heap.size+1,0,none⟩ (.map (some m1))).setCell ⟨w.heap.size+1,1,none⟩ (.map (some m2))).cell? ⟨w.heap.size+1,1,none⟩=some (.map (some m2)):=((HR3.out.R.set_ 0 _).set_ 1 _).cell 1
   have CA:=Lib.hid ca
   have CB:=Lib.hid cb
   clear ca cb
   go_wp2_with fail
   refine bodyPost_ret (v:=.tuple #[.agg #[.map (some m1),.map (some m2)],.int .i64 0,.int .i64 2]) (by simp [results,Tryz.results163,go_sem,CA.out,CB.out]) rfl (HP.out _ _ _ _ _ (by rw [HD.out,if_neg (by decide),if_pos HQ.out]) ((HR3.out.B.setCell (by simp) _).setCell (by simp) _))
  | true=>
   have HQ:=Lib.hid hq
   clear hq
   have HD2:Hid (fnErr f=if f.sorts.length=0 then (0,10) else if 120 < f.sorts.length then (0,8) else fstE (soErr f.sorts) f.sorts.length):=by show _=_;rw [HD.out,if_neg (by decide),if_neg (by rw [HQ.out];decide)]
   clear HD
   by_cases h0:f.sorts.length=0
   · have h0b:decide ((f.sorts.length:Int)=0)=true:=by simpa using h0
     have h0c:((f.sorts.length:Int) == 0)=true:=by simpa using h0
     have HL:=Lib.hid h0
     clear h0
     generalize f.sorts.length=n at *
     have ca:(w3.setCell ⟨w.heap.size+1,0,none⟩ (.map (some m1))).cell? ⟨w.heap.size+1,0,none⟩=some (.map (some m1)):=(HR3.out.R.set_ 0 _).cell 0
     have cb:((w3.setCell ⟨w.heap.size+1,0,none⟩ (.map (some m1))).setCell ⟨w.heap.size+1,1,none⟩ (.map (some m2))).cell? ⟨w.heap.size+1,1,none⟩=some (.map (some m2)):=((HR3.out.R.set_ 0 _).set_ 1 _).cell 1
     have CA:=Lib.hid ca
     have CB:=Lib.hid cb
     clear ca cb
     go_wp2_with fail
     refine bodyPost_ret (v:=.tuple #[.agg #[.map (some m1),.map (some m2)],.int .i64 0,.int .i64 10]) (by simp [results,Tryz.results163,go_sem,CA.out,CB.out]) rfl (HP.out _ _ _ _ _ (by rw [HD2.out,if_pos HL.out]) ((HR3.out.B.setCell (by simp) _).setCell (by simp) _))
   · have h0c:((f.sorts.length:Int) == 0)=false:=beq_eq_false_iff_ne.2 (by omega)
     have hn0:0 < f.sorts.length:=by omega
     have HL:=Lib.hid h0
     clear h0
     by_cases h120:120 < f.sorts.length
     · have h120z:(120:Int) < (f.sorts.length:Int):=by omega
       have HL2:=Lib.hid h120
       clear h120
       have ca:(w3.setCell ⟨w.heap.size+1,0,none⟩ (.map (some m1))).cell? ⟨w.heap.size+1,0,none⟩=some (.map (some m1)):=(HR3.out.R.set_ 0 _).cell 0
       have cb:((w3.setCell ⟨w.heap.size+1,0,none⟩ (.map (some m1))).setCell ⟨w.heap.size+1,1,none⟩ (.map (some m2))).cell? ⟨w.heap.size+1,1,none⟩=some (.map (some m2)):=((HR3.out.R.set_ 0 _).set_ 1 _).cell 1
       have CA:=Lib.hid ca
       have CB:=Lib.hid cb
       clear ca cb
       go_wp2_with fail
       refine bodyPost_ret (v:=.tuple #[.agg #[.map (some m1),.map (some m2)],.int .i64 0,.int .i64 8]) (by simp [results,Tryz.results163,go_sem,CA.out,CB.out]) rfl (HP.out _ _ _ _ _ (by rw [HD2.out,if_neg HL.out,if_pos HL2.out]) ((HR3.out.B.setCell (by simp) _).setCell (by simp) _))
     · have h120z:¬(120:Int) < (f.sorts.length:Int):=by omega
       have hn120:f.sorts.length≤120:=by omega
       have HD3:Hid (fnErr f=fstE (soErr f.sorts) f.sorts.length):=by show _=_;rw [HD2.out,if_neg HL.out,if_neg h120]
       clear HD2 h120
       have HSS:=Lib.hid hss
       have HSZ:=Lib.hid hsz
       obtain ⟨rfl,hbw⟩:=hA (by omega)
       clear hss hsz hA
       generalize hn:f.sorts.length=n at *
       have HNN:=Lib.hid hn
       clear hn
       go_wp2_with fail
       go_loopg [37] n (fun gg s37 wr=>∃ k:Nat,k≤n∧n-k≤gg∧s37=.int .i64 k∧Hid (RD w wr f (.slice (some ⟨b,off,none⟩) n c) m1 m2 kb)∧Hid (KN wr m1 m2 f.sorts k)∧Hid (∀ j,j < k→soErr f.sorts j=0))
       case atStart=>exact ⟨0,by omega,by omega,rfl,HR3.out,HK3.out _,fun j hj=>absurd hj (Nat.not_lt_zero _)⟩
       case round=>
        obtain ⟨k,hk,hg,rfl,HRk,HKk,HE⟩:=hrel
        clear HR3 HK3 f0 f1 f2 k0 k1 r0 r1 q0 q1
        by_cases hlt:k < n
        · have hltz:(k:Int) < (n:Int):=by omega
          obtain ⟨s0,s1,s2,s3⟩:=(HSS.out k (by rw [HNN.out];exact hlt)).below HRk.out.B hbw
          obtain ⟨z0,z1⟩:=HSZ.out k (by rw [HNN.out];exact hlt)
          have hbr:b < wr.heap.size:=by have:=HRk.out.B.size;omega
          obtain ⟨x,hx⟩:∃ x,gs f.sorts k=x:=⟨_,rfl⟩
          rw [hx] at s0 s1 s2 s3 z0 z1
          have HSE:Hid (soErr f.sorts k=soE f.sorts k x):=by show _=_;rw [soErr_eq,hx]
          have hbn:=below_new wr (.cells (scs x) 145)
          have HRn:=Lib.hid (HRk.out.below hbn)
          have HKn:=Lib.hid (HKk.out.below hbn)
          have HXB:=Lib.hid (Blk.new wr 145 (scs x))
          have HCS:=Lib.hid (fun W (hW:KN W m1 m2 f.sorts k)=>sort_any m1 m2 f.sorts k x W hW z0 z1)
          have HCA:=Lib.hid (fun W (hW:KN W m1 m2 f.sorts k)=>add_any m1 m2 f.sorts k x W hW hx z0 z1 (by omega))
          have f0:=HRn.out.F.cell 0
          have f1:=HRn.out.F.cell 1
          have f2:=HRn.out.F.cell 2
          have k0:=HRn.out.K.cell 0
          have k1:=HRn.out.K.cell 1
          have r0:=HRn.out.R.frozen 0
          have r1:=HRn.out.R.frozen 1
          have q0:=HRn.out.R.cell 0
          have q1:=HRn.out.R.cell 1
          have x0:=HXB.out.cell 0
          have x1:=HXB.out.cell 1
          have x2:=HXB.out.cell 2
          have x3:=HXB.out.cell 3
          clear hx hbn z0 z1 HKk HRk
          go_wp2_with fail
          generalize wr.alloc (Obj.cells (scs x) 145)=W4 at *
          refine (HCS.out _ HKn.out).mono ?_
          rintro e w5 ⟨rfl,hb5⟩
          have HR5:=Lib.hid (HRn.out.below hb5)
          have HK5:=Lib.hid (HKn.out.below hb5)
          have hx5:=HXB.out.below hb5 HXB.out.lt
          clear hb5 HRn HKn HXB HCS x0 x1 x2 x3 s0 s1 s2 s3 f0 f1 f2 k0 k1 r0 r1 q0 q1
          have f0:=HR5.out.F.cell 0
          have f1:=HR5.out.F.cell 1
          have f2:=HR5.out.F.cell 2
          have k0:=HR5.out.K.cell 0
          have k1:=HR5.out.K.cell 1
          have r0:=HR5.out.R.frozen 0
          have r1:=HR5.out.R.frozen 1
          have q0:=HR5.out.R.cell 0
          have q1:=HR5.out.R.cell 1
          have x0:=hx5.cell 0
          have x1:=hx5.cell 1
          have x2:=hx5.cell 2
          have x3:=hx5.cell 3
          clear hx5
          generalize soE f.sorts k x=ev at *
          by_cases he:ev=0
          · have heb:=bne_f he
            have HE0:=Lib.hid he
            clear he
            go_wp2_with fail
            refine (HCA.out _ HK5.out).mono ?_
            rintro e w6 ⟨⟨v6,rfl⟩,hK6,hb6⟩
            have HR6:=Lib.hid (HR5.out.but hb6)
            have HK6:=Lib.hid hK6
            clear hb6 hK6 HR5 HK5 HCA x0 x1 x2 x3 f0 f1 f2 k0 k1 r0 r1 q0 q1
            go_wp2_with fail
            go_roundg (n-(k+1))
            case measure=>omega
            case rel=>
             refine ⟨k+1,by omega,by omega,by go_num,HR6.out,HK6.out,(show ∀ j,_ from fun j hj=>?_)⟩
             by_cases e:j=k
             · rw [e,HSE.out];exact HE0.out
             · exact HE.out j (by omega)
          · have heb:=bne_t he
            have HE0:=Lib.hid he
            have HFIN:Hid (((k:Int),ev)=fnErr f):=by show _=_;rw [HD3.out,fstE_hit (k:=k) (by rw [HSE.out];exact HE0.out) HE.out hlt,HSE.out]
            clear he
            have ca:(w5.setCell ⟨w.heap.size+1,0,none⟩ (.map (some m1))).cell? ⟨w.heap.size+1,0,none⟩=some (.map (some m1)):=(HR5.out.R.set_ 0 _).cell 0
            have cb:((w5.setCell ⟨w.heap.size+1,0,none⟩ (.map (some m1))).setCell ⟨w.heap.size+1,1,none⟩ (.map (some m2))).cell? ⟨w.heap.size+1,1,none⟩=some (.map (some m2)):=((HR5.out.R.set_ 0 _).set_ 1 _).cell 1
            have CA:=Lib.hid ca
            have CB:=Lib.hid cb
            clear ca cb
            go_wp2_with fail
            refine bodyPost_ret (v:=.tuple #[.agg #[.map (some m1),.map (some m2)],.int .i64 k,.int .i64 ev]) (by simp [results,Tryz.results163,go_sem,CA.out,CB.out]) rfl (HP.out _ _ _ _ _ HFIN.out ((HR5.out.B.setCell (by simp) _).setCell (by simp) _))
        · have hltz:¬(k:Int) < (n:Int):=by omega
          have hke:k=n:=by omega
          subst hke
          have HFIN:Hid (((0:Int),(0:Int))=fnErr f):=by show _=_;rw [HD3.out,fstE_none HE.out]
          have f0:=HRk.out.F.cell 0
          have f1:=HRk.out.F.cell 1
          have f2:=HRk.out.F.cell 2
          have k0:=HRk.out.K.cell 0
          have k1:=HRk.out.K.cell 1
          have r0:=HRk.out.R.frozen 0
          have r1:=HRk.out.R.frozen 1
          have q0:=HRk.out.R.cell 0
          have q1:=HRk.out.R.cell 1
          have ca:(wr.setCell ⟨w.heap.size+1,0,none⟩ (.map (some m1))).cell? ⟨w.heap.size+1,0,none⟩=some (.map (some m1)):=(HRk.out.R.set_ 0 _).cell 0
          have cb:((wr.setCell ⟨w.heap.size+1,0,none⟩ (.map (some m1))).setCell ⟨w.heap.size+1,1,none⟩ (.map (some m2))).cell? ⟨w.heap.size+1,1,none⟩=some (.map (some m2)):=((HRk.out.R.set_ 0 _).set_ 1 _).cell 1
          have CA:=Lib.hid ca
          have CB:=Lib.hid cb
          clear ca cb
          go_wp2_with fail
          refine bodyPost_ret (v:=.tuple #[.agg #[.map (some m1),.map (some m2)],.int .i64 0,.int .i64 0]) (by simp [results,Tryz.results163,go_sem,CA.out,CB.out]) rfl (HP.out _ _ _ _ _ HFIN.out ((HRk.out.B.setCell (by simp) _).setCell (by simp) _))
def FnPost (f:Fnt) (w:World) (e:Ending) (w':World):Prop:=e=.returned (.tuple #[.int .i64 (fnErr f).1,.int .i64 (fnErr f).2])∧Below w.heap.size w w'
theorem checkFount_any (f:Fnt) (v:Value) (w:World) (hv:SoV w f.sorts v) (hn:f.name.size≤9223372036854775807) :
 Calls Tryz.prog 131 #[.agg #[.string f.name,.int .i64 f.body,v]] w (FnPost f w):=by
 have hb0:=below_new w (.cells #[.string f.name,.int .i64 f.body,v] 24)
 have HC:=Lib.hid (read_any f v _ (hv.below hb0) hn)
 have hF:=Blk.new w 24 #[.string f.name,.int .i64 f.body,v]
 have f0:=hF.cell 0
 have f1:=hF.cell 1
 have f2:=hF.cell 2
 have HB:=Lib.hid hb0
 clear hF hb0 hv hn
 have HP:Hid (∀ W,Below w.heap.size w W→FnPost f w (.returned (.tuple #[.int .i64 (fnErr f).1,.int .i64 (fnErr f).2])) W):=(show ∀ W,_ from fun W h=>⟨rfl,h⟩)
 go_enter Tryz.func131,Tryz.ntmps131
 go_wp2_with fail
 refine HC.out.mono ?_
 rintro e w1 ⟨m1,m2,rfl,hb⟩
 have HB1:=Lib.hid ((HB.out.trans (hb.mono (by simp))).alloc (by have:=hb.size;simp at this;omega) (.cells #[.map (some m1),.map (some m2)] 234))
 clear hb f0 f1 f2
 generalize (fnErr f).1=a1 at *
 generalize (fnErr f).2=a2 at *
 go_wp2_with fail
 go_ret2
 exact HP.out _ HB1.out
theorem founted_any (f:Fnt) (v:Value) (w:World) (hv:SoV w f.sorts v) (hn:f.name.size≤9223372036854775807) :
 Calls Tryz.prog 90 #[.agg #[.string f.name,.int .i64 f.body,v]] w fun e w'=>e=.returned (.int .i64 (fnErr f).2)∧Below w.heap.size w w':=by
 have hb0:=below_new w (.cells #[.string f.name,.int .i64 f.body,v] 24)
 have HC:=Lib.hid (checkFount_any f v _ (hv.below hb0) hn)
 have hF:=Blk.new w 24 #[.string f.name,.int .i64 f.body,v]
 have f0:=hF.cell 0
 have f1:=hF.cell 1
 have f2:=hF.cell 2
 have HB:=Lib.hid hb0
 clear hF hb0 hv hn
 go_enter Tryz.func90,Tryz.ntmps90
 go_wp2_with fail
 refine HC.out.mono ?_
 rintro e w1 ⟨rfl,hb⟩
 have HB1:=Lib.hid (HB.out.trans (hb.mono (by simp)))
 clear hb f0 f1 f2
 go_wp2_with fail
 go_ret
 exact ⟨rfl,HB1.out⟩
end Go.Proofs.YtbnganlfelgogaaGreat
