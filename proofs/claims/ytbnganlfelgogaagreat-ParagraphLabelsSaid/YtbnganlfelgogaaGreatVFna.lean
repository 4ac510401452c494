/- The small functions of founts: within, isName, prints. -/
import Derived.Test.YtbnganlfelgogaaGreatVBas
import Derived.Lib.OthersKept
import Derived.Lib.TrimU
import Derived.Laws.RangeAny
import Derived.Shelf.Abstract
set_option linter.unusedSimpArgs false
set_option linter.unusedVariables false
set_option maxRecDepth 100000
set_option maxHeartbeats 40000000
namespace Go.Proofs.YtbnganlfelgogaaGreat
open Go.RowKit Go.Shelf
theorem within100_any (n lo hi:Int) (w:World):Calls Tryz.prog 184 #[.int .i64 n,.int .i64 lo,.int .i64 hi] w fun e w'=>e=.returned (.bool (win n lo hi))∧w=w':=by
 go_enter Tryz.func184,Tryz.ntmps184
 go_wp2
 all_goals go_ret
 all_goals exact ⟨ret_bool (by unfold win;first | exact decide_eq_decide.2 (by omega) | exact (decide_eq_false (by omega)).symm),rfl⟩
theorem within44_any (n lo hi:Int) (w:World):Calls Tryz.prog 94 #[.int .i64 n,.int .i64 lo,.int .i64 hi] w fun e w'=>e=.returned (.bool (win n lo hi))∧w=w':=by
 go_enter Tryz.func94,Tryz.ntmps94
 go_wp2
 all_goals go_ret
 all_goals exact ⟨ret_bool (by unfold win;first | exact decide_eq_decide.2 (by omega) | exact (decide_eq_false (by omega)).symm),rfl⟩
theorem within13_any (n lo hi:Int) (w:World):Calls Tryz.prog 19 #[.int .i64 n,.int .i64 lo,.int .i64 hi] w fun e w'=>e=.returned (.bool (win n lo hi))∧w=w':=by
 go_enter Tryz.func19,Tryz.ntmps19
 go_wp2
 all_goals go_ret
 all_goals exact ⟨ret_bool (by unfold win;first | exact decide_eq_decide.2 (by omega) | exact (decide_eq_false (by omega)).symm),rfl⟩
def badR (x:Nat):Bool:=decide (x < 33∨126 < x)
theorem print1_any (x:Nat) (hx:x≤1114111) (w:World):Calls Tryz.prog 212 #[.int .i32 (x:Int)] w fun e w'=>e=.returned (.bool (badR x))∧w=w':=by
 go_enter Tryz.func212,Tryz.ntmps212
 go_wp2
 all_goals go_ret
 all_goals exact ⟨ret_bool (by unfold badR;first | exact decide_eq_decide.2 (by omega) | exact (decide_eq_false (by omega)).symm | exact (decide_eq_true (by omega)).symm | (rw [Bool.eq_iff_iff];simp;omega)),rfl⟩
def goodB (s:ByteArray):Bool:=decide (∀ k,k < s.size→33≤nmb s k∧nmb s k≤126)
theorem nmb_get {s:ByteArray} {k:Nat} (h:k < s.size):nmb s k=((s[k]'h).toNat:Int):=by
 unfold nmb
 have h2:k < s.data.toList.length:=by simpa using h
 rw [List.getD_eq_getElem?_getD,List.getElem?_eq_getElem h2]
 rfl
def IxPost (s:ByteArray) (w:World) (e:Ending) (w':World):Prop:=∃ i:Int,e=.returned (.int .i64 i)∧decide (0≤i)=!goodB s∧Below w.heap.size w w'
theorem ix_bad {s:ByteArray} {k:Nat} (h:k < s.size) (hb:nmb s k < 33∨126 < nmb s k):decide (0≤(k:Int))=!goodB s:=by
 have:goodB s=false:=decide_eq_false fun hh=>by have:=hh k h;omega
 rw [this]
 simp
theorem ix_good {s:ByteArray} (h:∀ k,k < s.size→33≤nmb s k∧nmb s k≤126):decide (0≤(-1:Int))=!goodB s:=by
 have:goodB s=true:=decide_eq_true h
 rw [this]
 rfl
theorem indexFunc_any (s:ByteArray) (w:World) :
 Calls Tryz.prog 217 #[.string s,.func (.func 212) #[] #[],.bool true] w (IxPost s w):=by
 have HP:Hid (∀ (W:World) (i:Int),decide (0≤i)=(!goodB s)→Below w.heap.size w W→IxPost s w (.returned (.int .i64 i)) W):=(show ∀ W i,_ from fun W i h hb=>⟨i,rfl,h,hb⟩)
 go_enter Tryz.func217,Tryz.ntmps217
 go_wp2
 go_loopg [] s.size (fun gf wx=>∃ pos:Nat,s.size≤pos+gf∧Hid (wx.heap[w.heap.size]?=some (.stringIter s pos))∧Hid (Below w.heap.size w wx)∧Hid (∀ j,j < pos→j < s.size→33≤nmb s j∧nmb s j≤126))
 case atStart=>exact ⟨0,by omega,World.iter_heap w s 0,(Below.refl _ w).alloc (Nat.le_refl _) _,fun j hj=>absurd hj (Nat.not_lt_zero _)⟩
 case round=>
  obtain ⟨pos,hfu,hit,hbw,hA⟩:=hrel
  by_cases hps:pos < s.size
  · obtain ⟨g',rfl⟩:∃ g',gk=g'+1:=⟨gk-1,by omega⟩
    have hnx:∀ ty,(Instr.next (.pointer (some ⟨w.heap.size,0,none⟩)) true ty).run Tryz.prog wr=_:=fun ty=>Lib.run_next_any_at wr w.heap.size s pos ty hit.out hps
    have hle:=Lib.rune_le s pos
    have hdec:Hid (((33≤nmb s pos∧nmb s pos≤126)∧badR (Utf8.decode s pos).1=false∧(Utf8.decode s pos).2=1)∨((nmb s pos < 33∨126 < nmb s pos)∧badR (Utf8.decode s pos).1=true)):=by
     show _∨_
     rw [nmb_get hps]
     by_cases ha:(s[pos]'hps).toNat < 128
     · rw [decode_ascii s pos hps ha]
       by_cases hb:33≤(s[pos]'hps).toNat∧(s[pos]'hps).toNat≤126
       · exact .inl ⟨by omega,decide_eq_false (by omega),rfl⟩
       · exact .inr ⟨by omega,decide_eq_true (by omega)⟩
     · have:=decode_high s pos hps (by omega)
       exact .inr ⟨by omega,decide_eq_true (by omega)⟩
    have HIT:=Lib.hid (fun K=>Lib.iterAt_heap wr w.heap.size s pos K hit.out)
    have HBW:=Lib.hid (fun K=>Lib.below_iterAt hbw.out (k:=w.heap.size) (Nat.le_refl _) s K)
    have HLT:Hid (∀ K,w.heap.size < (wr.iterAt w.heap.size s K).heap.size):=(show ∀ K,_ from fun K=>(Array.getElem?_eq_some_iff.1 (HIT.out K)).1)
    clear hit hbw
    generalize (Utf8.decode s pos).1=R at *
    generalize (Utf8.decode s pos).2=K at *
    have cS:∀ W,Calls Tryz.prog 212 #[.int .i32 (R:Int)] W _:=fun W=>print1_any R hle W
    rcases hdec.out with ⟨h1,h2,h3⟩ | ⟨h1,h2⟩
    · subst h3
      rw [h2] at cS
      have CS:=Lib.hid cS
      have H1:=Lib.hid h1
      have HIT1:=Lib.hid (HIT.out (pos+1))
      have HBW1:=Lib.hid (HBW.out (pos+1))
      clear h1 h2 cS hdec hle HIT HBW HLT
      generalize wr.iterAt w.heap.size s (pos+1)=W1 at *
      go_wp2_with (go_at_call 212;refine (CS.out _).mono ?_;rintro e W' ⟨rfl,rfl⟩)
      go_roundg g'
      case measure=>omega
      case rel=>
       refine ⟨pos+1,by omega,HIT1.out,HBW1.out,(show ∀ j,_ from fun j hj hj2=>?_)⟩
       by_cases e:j=pos
       · subst e;exact H1.out
       · exact hA.out j (by omega) hj2
    · rw [h2] at cS
      have CS:=Lib.hid cS
      have H1:=Lib.hid (ix_bad hps h1)
      have HBW1:=Lib.hid (HBW.out (pos+K))
      clear h1 h2 cS hdec hle HIT HBW HLT
      generalize wr.iterAt w.heap.size s (pos+K)=W1 at *
      go_wp2_with (go_at_call 212;refine (CS.out _).mono ?_;rintro e W' ⟨rfl,rfl⟩)
      go_ret
      exact HP.out _ _ H1.out HBW1.out
  · have hnx:∀ ty,(Instr.next (.pointer (some ⟨w.heap.size,0,none⟩)) true ty).run Tryz.prog wr=_:=fun ty=>Lib.run_next_end_at wr w.heap.size s pos ty hit.out hps
    have H1:=Lib.hid (ix_good (s:=s) fun k hk=>hA.out k (by omega) hk)
    have HBW1:=Lib.hid hbw.out
    go_wp2
    go_ret
    exact HP.out _ _ H1.out HBW1.out
theorem containsFunc_any (s:ByteArray) (w:World):Calls Tryz.prog 211 #[.string s,.func (.func 212) #[] #[]] w fun e w'=>e=.returned (.bool (!goodB s))∧Below w.heap.size w w':=by
 have h153:Calls Tryz.prog 215 #[.string s,.func (.func 212) #[] #[]] w (IxPost s w):=by
  go_enter Tryz.func215,Tryz.ntmps215
  go_wp2_with fail
  refine (indexFunc_any s _).mono ?_
  rintro e w' ⟨i,rfl,hi,hb⟩
  have HI:=Lib.hid hi
  have HB:=Lib.hid hb
  clear hi hb
  go_wp2_with fail
  go_ret
  exact ⟨i,rfl,HI.out,HB.out⟩
 have H:=Lib.hid h153
 clear h153
 go_enter Tryz.func211,Tryz.ntmps211
 go_wp2_with fail
 refine H.out.mono ?_
 rintro e w' ⟨i,rfl,hi,hb⟩
 have HI:=Lib.hid hi
 have HB:=Lib.hid hb
 clear hi hb
 go_wp2_with fail
 go_ret
 exact ⟨ret_bool HI.out,HB.out⟩
end Go.Proofs.YtbnganlfelgogaaGreat
namespace Go.Proofs.YtbnganlfelgogaaGreat
open Go.RowKit
theorem conv_bytes (s:ByteArray) (w:World):∃ (W:World) (c:Nat),(convert 9 272 (.string s)).run Tryz.prog w=.ok (.slice (some ⟨w.heap.size,0,none⟩) s.size c) W∧Below w.heap.size w W∧w.heap.size < W.heap.size∧
 ∀ j,j < s.size→W.cell? ⟨w.heap.size,j,none⟩=some (.int .u8 (nmb s j)):=by
 refine ⟨_,_,Lib.run_convert_string_bytes w 9 272 5 s Tryz.underlying9 Tryz.underlying272 Tryz.underlying5,⟨?_,?_,?_,?_,?_⟩,?_,?_⟩
 · unfold Lib.bytesWorld World.freeze;split <;> rfl
 · unfold Lib.bytesWorld World.freeze;split <;> rfl
 · unfold Lib.bytesWorld World.freeze;split <;> rfl
 · rw [Lib.bytesWorld_size];omega
 · exact fun k hk=>Lib.bytesWorld_at_old w 5 s k hk
 · rw [Lib.bytesWorld_size];omega
 · intro j hj;rw [Lib.bytesWorld_cell w 5 s j hj];rfl
theorem isName_any (s:ByteArray) (w:World) (hs:s.size≤9223372036854775807):Calls Tryz.prog 183 #[.string s] w fun e w'=>e=.returned (.bool (isNm s))∧Below w.heap.size w w':=by
 obtain ⟨W,c,hconv,hb,hz,hcell⟩:=conv_bytes s w
 go_enter Tryz.func183,Tryz.ntmps183
 go_wp2_with fail
 have HC:=Lib.hid hcell
 clear hcell hconv hz
 go_loopg [9] s.size (fun gg s9 wr=>∃ k:Nat,k≤s.size∧s.size-k≤gg∧s9=.int .i64 k∧W=wr∧Aside (∀ j,j < k→¬badc j (nmb s j)))
 case atStart=>exact ⟨0,Nat.zero_le _,by omega,rfl,rfl,fun j hj=>absurd hj (Nat.not_lt_zero _)⟩
 case round=>
  obtain ⟨k,hk,hg,rfl,rfl,A⟩:=hrel
  by_cases hlt:k < s.size
  · have hltz:(k:Int) < (s.size:Int):=by omega
    have c1:=HC.out k hlt
    have hr:=nmb_range s k
    clear HC
    generalize hch:nmb s k=ch at *
    have HCH:=Lib.hid hch
    clear hch
    go_wp2
    all_goals try simp only [Bool.or_eq_true,Bool.and_eq_true,Bool.or_eq_false_iff,Bool.and_eq_false_iff,beq_iff_eq,beq_eq_false_iff_ne,bne_iff_ne,bne_eq_false_iff_eq,decide_eq_true_eq,decide_eq_false_iff_not,ne_eq,Bool.not_eq_true',Bool.not_eq_false'] at *
    all_goals first
     | (go_ret;exact ⟨ret_bool (isNm_false hlt (by rw [HCH.out];unfold badc;omega)),hb⟩)
     | (go_roundg (s.size-(k+1))
        case measure=>omega
        case rel=>
         refine ⟨k+1,by omega,by omega,by first | go_num | (congr 1;omega),rfl,(show Aside _ from fun j hj=>?_)⟩
         by_cases e:j=k
         · rw [e,HCH.out];unfold badc;omega
         · exact A.out j (by omega))
  · have hltz:¬(k:Int) < (s.size:Int):=by omega
    have he:k=s.size:=by omega
    have hall:Aside (isNm s=decide (0 < s.size∧s.size≤12)):=isNm_all fun j hj=>A.out j (by omega)
    clear A HC hlt hltz hk hg
    subst he
    by_cases h0:s.size=0
    · have h1:s.toList=[]:=bytes_nil.2 h0
      have H0:=Lib.hid h0
      clear h0
      go_wp2
      go_ret
      exact ⟨ret_bool (by rw [hall];symm;rw [decide_eq_false_iff_not,H0.out];omega),hb⟩
    · have h1:s.toList.isEmpty=false:=by rw [Bool.eq_false_iff];intro hh;exact h0 (bytes_nil.1 (List.isEmpty_iff.1 hh))
      have h2:¬s.toList=[]:=fun hh=>h0 (bytes_nil.1 hh)
      go_wp2
      all_goals go_ret
      all_goals exact ⟨ret_bool (by rw [hall];first | exact decide_eq_decide.2 (by omega) | (simp only [h1,Bool.not_false,Bool.true_and];exact decide_eq_decide.2 (by omega))),hb⟩
theorem isNameB_any (s:ByteArray) (w:World) (hs:s.size≤9223372036854775807):Calls Tryz.prog 144 #[.string s] w fun e w'=>e=.returned (.bool (isNm s))∧w=w':=by
 by_cases h1:1≤s.size
 · by_cases h12:s.size≤12
   · have h1z:¬(s.size:Int) < 1:=by omega
     have h12z:¬(12:Int) < (s.size:Int):=by omega
     have HALL:Hid ((∀ j,j < s.size→¬badc j (nmb s j))→isNm s=true):=fun h=>by rw [isNm_all h];exact decide_eq_true ⟨by omega,h12⟩
     go_enter Tryz.func144,Tryz.ntmps144
     go_wp2_with fail
     go_loopg [3,4,5] s.size (fun gg s3 s4 s5 wr=>∃ k:Nat,k≤s.size∧s.size-k≤gg∧s3=.int .i64 k∧w=wr∧Hid (∀ j,j < k→¬badc j (nmb s j)))
     case atStart=>exact ⟨0,Nat.zero_le _,by omega,rfl,rfl,fun j hj=>absurd hj (Nat.not_lt_zero _)⟩
     case round=>
      obtain ⟨k,hk,hg,rfl,rfl,E⟩:=hrel
      by_cases hlt:k < s.size
      · have hltz:(k:Int) < (s.size:Int):=by omega
        have HB:Hid (∀ j,¬badc k (nmb s k)→j < k+1→¬badc j (nmb s j)):=(show ∀ j,_ from fun j h0 hj=>by
         by_cases e:j=k
         · rw [e];exact h0
         · exact E.out j (by omega))
        have HF:Hid (badc k (nmb s k)→isNm s=false):=fun h=>(isNm_false hlt h).symm
        have HN:=Lib.hid (nmb_get hlt)
        by_cases hk0:k=0
        · have hkz:((k:Int) == 0)=true:=by simp [hk0]
          have HK:=Lib.hid hk0
          clear hk0
          go_wp2_with fail
          all_goals try simp only [Bool.or_eq_true,Bool.and_eq_true,Bool.or_eq_false_iff,Bool.and_eq_false_iff,beq_iff_eq,beq_eq_false_iff_ne,bne_iff_ne,bne_eq_false_iff_eq,decide_eq_true_eq,decide_eq_false_iff_not,ne_eq,Bool.not_eq_true',Bool.not_eq_false'] at *
          all_goals first
           | (go_ret;exact ⟨ret_bool (HF.out (by rw [HN.out];unfold badc;have:=HK.out;omega)).symm,rfl⟩)
           | (go_roundg (s.size-(k+1))
              case measure=>omega
              case rel=>exact ⟨k+1,by omega,by omega,by first | go_num | (congr 1;omega),rfl,(show ∀ j,_ from fun j hj=>HB.out j (by rw [HN.out];unfold badc;have:=HK.out;omega) hj)⟩)
        · have hkz:((k:Int) == 0)=false:=by simp [hk0]
          have HK:=Lib.hid hk0
          clear hk0
          go_wp2_with fail
          all_goals try simp only [Bool.or_eq_true,Bool.and_eq_true,Bool.or_eq_false_iff,Bool.and_eq_false_iff,beq_iff_eq,beq_eq_false_iff_ne,bne_iff_ne,bne_eq_false_iff_eq,decide_eq_true_eq,decide_eq_false_iff_not,ne_eq,Bool.not_eq_true',Bool.not_eq_false'] at *
          all_goals first
           | (go_ret;exact ⟨ret_bool (HF.out (by rw [HN.out];unfold badc;have:=HK.out;omega)).symm,rfl⟩)
           | (go_roundg (s.size-(k+1))
              case measure=>omega
              case rel=>exact ⟨k+1,by omega,by omega,by first | go_num | (congr 1;omega),rfl,(show ∀ j,_ from fun j hj=>HB.out j (by rw [HN.out];unfold badc;have:=HK.out;omega) hj)⟩)
      · have hltz:¬(k:Int) < (s.size:Int):=by omega
        have he:k=s.size:=by omega
        subst he
        go_wp2_with fail
        go_ret
        exact ⟨ret_bool (HALL.out E.out).symm,rfl⟩
   · have h1z:¬(s.size:Int) < 1:=by omega
     have h12z:(12:Int) < (s.size:Int):=by omega
     have HF:Hid (isNm s=false):=decide_eq_false fun h=>h12 h.2.2
     go_enter Tryz.func144,Tryz.ntmps144
     go_wp2_with fail
     go_ret
     exact ⟨ret_bool HF.out.symm,rfl⟩
 · have h1z:(s.size:Int) < 1:=by omega
   have HF:Hid (isNm s=false):=decide_eq_false fun h=>h1 (by omega)
   go_enter Tryz.func144,Tryz.ntmps144
   go_wp2_with fail
   go_ret
   exact ⟨ret_bool HF.out.symm,rfl⟩
end Go.Proofs.YtbnganlfelgogaaGreat
