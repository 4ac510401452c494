/- ref.CheckFount computes what fount.CheckFount computes. -/
import Derived.Test.YtbnganlfelgogaaGreatVRdf
import Derived.Deep.QuietTactic
import Derived.BigQuiet
set_option linter.unusedSimpArgs false
set_option linter.unusedVariables false
set_option maxRecDepth 100000
set_option maxHeartbeats 40000000
namespace Go.Proofs.YtbnganlfelgogaaGreat
open Go.RowKit
theorem below_drewN (w:World):∀ n,Below w.heap.size w (w.drewN n)
 | 0=>Below.refl _ _
 | n+1=>(below_drewN w n).drew
theorem SsAt.below {B:Nat} {w w':World} {b off:Nat} {l:List TSort} (h:SsAt w b off l) (hb:Below B w w') (hB:b < B):SsAt w' b off l:=fun j hj=>(h j hj).below hb hB
theorem named_any (l:List TSort) (s:ByteArray) (i b off c:Nat) (w:World) (hss:SsAt w b off l) (hi:i≤l.length) (hm:i≤1000) :
 Calls Tryz.prog 145 #[.slice (some ⟨b,off,none⟩) i c,.string s] w fun e w'=>e=.returned (.int .i64 (idx (fun j=>nmEq (gs l j).name s) i))∧w=w':=by
 have HSS:=Lib.hid hss
 clear hss
 go_enter Tryz.func145,Tryz.ntmps145
 go_wp2_with fail
 go_loopg [5] i (fun gg s5 wr=>∃ k:Nat,k≤i∧i-k≤gg∧s5=.int .i64 k∧w=wr∧Hid (∀ j,j < k→nmEq (gs l j).name s=false))
 case atStart=>exact ⟨0,by omega,by omega,rfl,rfl,fun j hj=>absurd hj (Nat.not_lt_zero _)⟩
 case round=>
  obtain ⟨k,hk,hg,rfl,rfl,E⟩:=hrel
  by_cases hlt:k < i
  · have hltz:(k:Int) < (i:Int):=by omega
    obtain ⟨c0,-,-,-⟩:=HSS.out k (by omega)
    have HG:Hid (∀ j,j=k→nmEq (gs l j).name s=nmEq (gs l k).name s):=(show ∀ j,_ from fun j e=>by rw [e])
    have HG2:Hid (nmEq (gs l k).name s=((gs l k).name.toList == s.toList)):=rfl
    generalize hq:((gs l k).name.toList == s.toList)=q at *
    generalize hy:nmEq (gs l k).name s=v at *
    generalize (gs l k).name=nm at *
    have HV:=Lib.hid hy
    clear hy
    cases q with
    | true=>
     go_wp2_with fail
     go_ret
     exact ⟨ret_int (by rw [idx_hit (k:=k) ((HG.out k rfl).trans HG2.out) E.out hlt]),rfl⟩
    | false=>
     go_wp2_with fail
     go_roundg (i-(k+1))
     case measure=>omega
     case rel=>
      refine ⟨k+1,by omega,by omega,by go_num,rfl,(show ∀ j,_ from fun j hj=>?_)⟩
      by_cases e:j=k
      · exact (HG.out j e).trans HG2.out
      · exact E.out j (by omega)
  · have hltz:¬(k:Int) < (i:Int):=by omega
    have he:k=i:=by omega
    subst he
    go_wp2_with fail
    go_ret
    exact ⟨ret_int (by rw [idx_none E.out]),rfl⟩
def peF (l:List TSort) (i:Nat) (kind:Int) (s:ByteArray):Int:=if prB kind s=false then 3 else if kind≠3∧hasTx l i s=true then 13 else 0
theorem peF_bad {l:List TSort} {i:Nat} {kind:Int} {s:ByteArray} (h:prB kind s=false):peF l i kind s=3:=by unfold peF;rw [if_pos h]
theorem peF_good {l:List TSort} {i:Nat} {kind:Int} {s:ByteArray} (h:prB kind s=true):peF l i kind s=if kind≠3∧hasTx l i s=true then 13 else 0:=by unfold peF;rw [if_neg (by rw [h];decide)]
theorem prB_byte {kind:Int} {s:ByteArray} {k:Nat} (h:k < s.size) (hb:nmb s k < 33∨126 < nmb s k):prB kind s=false:=decide_eq_false fun hh=>by have:=hh.2 k h;omega
theorem prB_true {kind:Int} {s:ByteArray} {lo hi:Int} (hk:(kind=1∧lo=1∧hi=1)∨(kind=2∧lo=2∧hi=4)∨(kind=3∧lo=0∧hi=0)) (hw:win s.size lo hi=true) (h:∀ k,k < s.size→33≤nmb s k∧nmb s k≤126):prB kind s=true:=by
 have:=win_t.1 hw
 refine decide_eq_true ⟨?_,h⟩
 rcases hk with ⟨rfl,rfl,rfl⟩ | ⟨rfl,rfl,rfl⟩ | ⟨rfl,rfl,rfl⟩
 · rw [if_pos rfl];omega
 · rw [if_neg (by decide),if_pos rfl];omega
 · rw [if_neg (by decide),if_neg (by decide)];omega
theorem prB_len {kind:Int} {s:ByteArray} {lo hi:Int} (hk:(kind=1∧lo=1∧hi=1)∨(kind=2∧lo=2∧hi=4)∨(kind=3∧lo=0∧hi=0)) (hw:win s.size lo hi=false):prB kind s=false:=by
 have:=win_f.1 hw
 refine decide_eq_false fun hh=>?_
 have h1:=hh.1
 rcases hk with ⟨rfl,rfl,rfl⟩ | ⟨rfl,rfl,rfl⟩ | ⟨rfl,rfl,rfl⟩
 · rw [if_pos rfl] at h1;omega
 · rw [if_neg (by decide),if_pos rfl] at h1;omega
 · rw [if_neg (by decide),if_neg (by decide)] at h1;omega
theorem hasTx_hit {l:List TSort} {i k:Nat} {s:ByteArray} (h:k < i) (hk:(gs l k).kind≠3) (hs:nmEq (gs l k).text s=true):hasTx l i s=true:=by
 refine decide_eq_true ((idx_iff _ _).2 ⟨k,h,?_⟩)
 rw [Bool.and_eq_true,bne_iff_ne]
 exact ⟨hk,hs⟩
theorem hasTx_none {l:List TSort} {i:Nat} {s:ByteArray} (h:∀ j,j < i→(gs l j).kind=3∨nmEq (gs l j).text s=false):hasTx l i s=false:=by
 refine decide_eq_false fun hh=>?_
 obtain ⟨j,hj,hp⟩:=(idx_iff _ _).1 hh
 rw [Bool.and_eq_true,bne_iff_ne] at hp
 rcases h j hj with h1 | h1
 · exact hp.1 h1
 · rw [h1] at hp;cases hp.2
theorem printsErr_any (l:List TSort) (kind:Int) (s:ByteArray) (i b off c:Nat) (w:World) (hss:SsAt w b off l) (hi:i≤l.length) (hm:i≤1000) (hk:1≤kind∧kind≤3) (hs:s.size≤9223372036854775807) :
 Calls Tryz.prog 146 #[.slice (some ⟨b,off,none⟩) i c,.int .i64 kind,.string s] w fun e w'=>e=.returned (.int .i64 (peF l i kind s))∧w=w':=by
 have HSS:=Lib.hid hss
 have HNM:=Lib.hid (fun (k:Nat) (h:k < s.size)=>nmb_get (s:=s) (k:=k) h)
 clear hss
 rcases (show kind=1∨kind=2∨kind=3 by omega) with rfl | rfl | rfl
 · skip
   clear hk
   go_enter Tryz.func146,Tryz.ntmps146
   go_wp2_with fail
   refine (within13_any _ _ _ _).mono ?_
   rintro e w' ⟨rfl,rfl⟩
   cases hq:win (s.size:Int) 1 1 with
   | false=>
    have HQ:=Lib.hid hq
    clear hq
    go_wp2_with fail
    go_ret
    exact ⟨ret_int (peF_bad (prB_len (kind:=1) (lo:=1) (hi:=1) (by omega) HQ.out)).symm,rfl⟩
   | true=>
    have HQ:=Lib.hid hq
    clear hq
    go_wp2_with fail
    go_loopg [9] s.size (fun gg s9 wr=>∃ k:Nat,k≤s.size∧s.size-k≤gg∧s9=.int .i64 k∧w=wr∧Hid (∀ j,j < k→33≤nmb s j∧nmb s j≤126))
    case atStart=>exact ⟨0,by omega,by omega,rfl,rfl,fun j hj=>absurd hj (Nat.not_lt_zero _)⟩
    case round=>
     obtain ⟨k,hkk,hg,rfl,rfl,E⟩:=hrel
     by_cases hlt:k < s.size
     · have hltz:(k:Int) < (s.size:Int):=by omega
       have HN:=Lib.hid (HNM.out k hlt)
       have HFB:Hid ((nmb s k < 33∨126 < nmb s k)→peF l i 1 s=3):=fun h=>peF_bad (prB_byte hlt h)
       have HGB:Hid (∀ j,j=k→nmb s j=nmb s k):=fun j e=>by rw [e]
       by_cases h1:((s[k]'hlt).toNat:Int) < 33
       · have HB:Hid (nmb s k < 33):=by show _ < _;rw [HN.out];exact h1
         go_wp2_with fail
         go_ret
         exact ⟨ret_int (HFB.out (Or.inl HB.out)).symm,rfl⟩
       · by_cases h2:126 < ((s[k]'hlt).toNat:Int)
         · have HB:Hid (126 < nmb s k):=by show _ < _;rw [HN.out];exact h2
           go_wp2_with fail
           go_ret
           exact ⟨ret_int (HFB.out (Or.inr HB.out)).symm,rfl⟩
         · have HB:Hid (33≤nmb s k∧nmb s k≤126):=by show _∧_;rw [HN.out];omega
           go_wp2_with fail
           go_roundg (s.size-(k+1))
           case measure=>omega
           case rel=>
            refine ⟨k+1,by omega,by omega,by go_num,rfl,(show ∀ j,_ from fun j hj=>?_)⟩
            by_cases e:j=k
            · rw [HGB.out j e];exact HB.out
            · exact E.out j (by omega)
     · have hltz:¬(k:Int) < (s.size:Int):=by omega
       have hke:k=s.size:=by omega
       have HP:=Lib.hid (prB_true (kind:=1) (lo:=1) (hi:=1) (by omega) HQ.out (fun j hj=>E.out j (by omega)))
       have HPE:=Lib.hid (peF_good (l:=l) (i:=i) HP.out)
       clear hke hlt
       go_wp2_with fail
       go_loopg [10] i (fun gg s10 wr=>∃ k:Nat,k≤i∧i-k≤gg∧s10=.int .i64 k∧w=wr∧Hid (∀ j,j < k→(gs l j).kind=3∨nmEq (gs l j).text s=false))
       case atStart=>exact ⟨0,by omega,by omega,rfl,rfl,fun j hj=>absurd hj (Nat.not_lt_zero _)⟩
       case round=>
        obtain ⟨q,hqk,hqg,rfl,rfl,F⟩:=hrel
        by_cases hlt2:q < i
        · have hltz2:(q:Int) < (i:Int):=by omega
          obtain ⟨-,c1,c2,-⟩:=HSS.out q (by omega)
          have HG:Hid (∀ j,j=q→(gs l j).kind=(gs l q).kind∧nmEq (gs l j).text s=nmEq (gs l q).text s):=(show ∀ j,_ from fun j e=>by rw [e];exact ⟨rfl,rfl⟩)
          have HG2:Hid (nmEq (gs l q).text s=((gs l q).text.toList == s.toList)):=rfl
          have HH:Hid ((gs l q).kind≠3→nmEq (gs l q).text s=true→peF l i 1 s=13):=fun h3 h4=>by rw [HPE.out,if_pos ⟨by decide,hasTx_hit hlt2 h3 h4⟩]
          generalize hcc:((gs l q).text.toList == s.toList)=cc at *
          generalize hyy:nmEq (gs l q).text s=v at *
          generalize hkk2:(gs l q).kind=kq at *
          generalize (gs l q).text=nm at *
          have HV:=Lib.hid hyy
          have HKQ:=Lib.hid hkk2
          clear hyy hkk2
          by_cases h3:kq=3
          · have h3b:=bne_f h3
            have H3:=Lib.hid h3
            clear h3
            go_wp2_with fail
            go_roundg (i-(q+1))
            case measure=>omega
            case rel=>
             refine ⟨q+1,by omega,by omega,by go_num,rfl,(show ∀ j,_ from fun j hj=>?_)⟩
             by_cases e:j=q
             · left;rw [(HG.out j e).1];exact H3.out
             · exact F.out j (by omega)
          · have h3b:=bne_t h3
            have H3:=Lib.hid h3
            clear h3
            cases cc with
            | true=>
             go_wp2_with fail
             go_ret
             exact ⟨ret_int (HH.out H3.out HG2.out).symm,rfl⟩
            | false=>
             go_wp2_with fail
             go_roundg (i-(q+1))
             case measure=>omega
             case rel=>
              refine ⟨q+1,by omega,by omega,by go_num,rfl,(show ∀ j,_ from fun j hj=>?_)⟩
              by_cases e:j=q
              · right;rw [(HG.out j e).2];exact HG2.out
              · exact F.out j (by omega)
        · have hltz2:¬(q:Int) < (i:Int):=by omega
          have hqe:q=i:=by omega
          have HFIN:Hid (peF l i 1 s=0):=by show _=_;rw [HPE.out,if_neg (fun h=>by rw [hasTx_none (fun j hj=>F.out j (by omega))] at h;exact absurd h.2 (by decide))]
          clear hqe hlt2
          go_wp2_with fail
          go_ret
          exact ⟨ret_int HFIN.out.symm,rfl⟩
 · skip
   clear hk
   go_enter Tryz.func146,Tryz.ntmps146
   go_wp2_with fail
   refine (within13_any _ _ _ _).mono ?_
   rintro e w' ⟨rfl,rfl⟩
   cases hq:win (s.size:Int) 2 4 with
   | false=>
    have HQ:=Lib.hid hq
    clear hq
    go_wp2_with fail
    go_ret
    exact ⟨ret_int (peF_bad (prB_len (kind:=2) (lo:=2) (hi:=4) (by omega) HQ.out)).symm,rfl⟩
   | true=>
    have HQ:=Lib.hid hq
    clear hq
    go_wp2_with fail
    go_loopg [9] s.size (fun gg s9 wr=>∃ k:Nat,k≤s.size∧s.size-k≤gg∧s9=.int .i64 k∧w=wr∧Hid (∀ j,j < k→33≤nmb s j∧nmb s j≤126))
    case atStart=>exact ⟨0,by omega,by omega,rfl,rfl,fun j hj=>absurd hj (Nat.not_lt_zero _)⟩
    case round=>
     obtain ⟨k,hkk,hg,rfl,rfl,E⟩:=hrel
     by_cases hlt:k < s.size
     · have hltz:(k:Int) < (s.size:Int):=by omega
       have HN:=Lib.hid (HNM.out k hlt)
       have HFB:Hid ((nmb s k < 33∨126 < nmb s k)→peF l i 2 s=3):=fun h=>peF_bad (prB_byte hlt h)
       have HGB:Hid (∀ j,j=k→nmb s j=nmb s k):=fun j e=>by rw [e]
       by_cases h1:((s[k]'hlt).toNat:Int) < 33
       · have HB:Hid (nmb s k < 33):=by show _ < _;rw [HN.out];exact h1
         go_wp2_with fail
         go_ret
         exact ⟨ret_int (HFB.out (Or.inl HB.out)).symm,rfl⟩
       · by_cases h2:126 < ((s[k]'hlt).toNat:Int)
         · have HB:Hid (126 < nmb s k):=by show _ < _;rw [HN.out];exact h2
           go_wp2_with fail
           go_ret
           exact ⟨ret_int (HFB.out (Or.inr HB.out)).symm,rfl⟩
         · have HB:Hid (33≤nmb s k∧nmb s k≤126):=by show _∧_;rw [HN.out];omega
           go_wp2_with fail
           go_roundg (s.size-(k+1))
           case measure=>omega
           case rel=>
            refine ⟨k+1,by omega,by omega,by go_num,rfl,(show ∀ j,_ from fun j hj=>?_)⟩
            by_cases e:j=k
            · rw [HGB.out j e];exact HB.out
            · exact E.out j (by omega)
     · have hltz:¬(k:Int) < (s.size:Int):=by omega
       have hke:k=s.size:=by omega
       have HP:=Lib.hid (prB_true (kind:=2) (lo:=2) (hi:=4) (by omega) HQ.out (fun j hj=>E.out j (by omega)))
       have HPE:=Lib.hid (peF_good (l:=l) (i:=i) HP.out)
       clear hke hlt
       go_wp2_with fail
       go_loopg [10] i (fun gg s10 wr=>∃ k:Nat,k≤i∧i-k≤gg∧s10=.int .i64 k∧w=wr∧Hid (∀ j,j < k→(gs l j).kind=3∨nmEq (gs l j).text s=false))
       case atStart=>exact ⟨0,by omega,by omega,rfl,rfl,fun j hj=>absurd hj (Nat.not_lt_zero _)⟩
       case round=>
        obtain ⟨q,hqk,hqg,rfl,rfl,F⟩:=hrel
        by_cases hlt2:q < i
        · have hltz2:(q:Int) < (i:Int):=by omega
          obtain ⟨-,c1,c2,-⟩:=HSS.out q (by omega)
          have HG:Hid (∀ j,j=q→(gs l j).kind=(gs l q).kind∧nmEq (gs l j).text s=nmEq (gs l q).text s):=(show ∀ j,_ from fun j e=>by rw [e];exact ⟨rfl,rfl⟩)
          have HG2:Hid (nmEq (gs l q).text s=((gs l q).text.toList == s.toList)):=rfl
          have HH:Hid ((gs l q).kind≠3→nmEq (gs l q).text s=true→peF l i 2 s=13):=fun h3 h4=>by rw [HPE.out,if_pos ⟨by decide,hasTx_hit hlt2 h3 h4⟩]
          generalize hcc:((gs l q).text.toList == s.toList)=cc at *
          generalize hyy:nmEq (gs l q).text s=v at *
          generalize hkk2:(gs l q).kind=kq at *
          generalize (gs l q).text=nm at *
          have HV:=Lib.hid hyy
          have HKQ:=Lib.hid hkk2
          clear hyy hkk2
          by_cases h3:kq=3
          · have h3b:=bne_f h3
            have H3:=Lib.hid h3
            clear h3
            go_wp2_with fail
            go_roundg (i-(q+1))
            case measure=>omega
            case rel=>
             refine ⟨q+1,by omega,by omega,by go_num,rfl,(show ∀ j,_ from fun j hj=>?_)⟩
             by_cases e:j=q
             · left;rw [(HG.out j e).1];exact H3.out
             · exact F.out j (by omega)
          · have h3b:=bne_t h3
            have H3:=Lib.hid h3
            clear h3
            cases cc with
            | true=>
             go_wp2_with fail
             go_ret
             exact ⟨ret_int (HH.out H3.out HG2.out).symm,rfl⟩
            | false=>
             go_wp2_with fail
             go_roundg (i-(q+1))
             case measure=>omega
             case rel=>
              refine ⟨q+1,by omega,by omega,by go_num,rfl,(show ∀ j,_ from fun j hj=>?_)⟩
              by_cases e:j=q
              · right;rw [(HG.out j e).2];exact HG2.out
              · exact F.out j (by omega)
        · have hltz2:¬(q:Int) < (i:Int):=by omega
          have hqe:q=i:=by omega
          have HFIN:Hid (peF l i 2 s=0):=by show _=_;rw [HPE.out,if_neg (fun h=>by rw [hasTx_none (fun j hj=>F.out j (by omega))] at h;exact absurd h.2 (by decide))]
          clear hqe hlt2
          go_wp2_with fail
          go_ret
          exact ⟨ret_int HFIN.out.symm,rfl⟩
 · skip
   clear hk
   go_enter Tryz.func146,Tryz.ntmps146
   go_wp2_with fail
   refine (within13_any _ _ _ _).mono ?_
   rintro e w' ⟨rfl,rfl⟩
   cases hq:win (s.size:Int) 0 0 with
   | false=>
    have HQ:=Lib.hid hq
    clear hq
    go_wp2_with fail
    go_ret
    exact ⟨ret_int (peF_bad (prB_len (kind:=3) (lo:=0) (hi:=0) (by omega) HQ.out)).symm,rfl⟩
   | true=>
    have HQ:=Lib.hid hq
    clear hq
    go_wp2_with fail
    go_loopg [9] s.size (fun gg s9 wr=>∃ k:Nat,k≤s.size∧s.size-k≤gg∧s9=.int .i64 k∧w=wr∧Hid (∀ j,j < k→33≤nmb s j∧nmb s j≤126))
    case atStart=>exact ⟨0,by omega,by omega,rfl,rfl,fun j hj=>absurd hj (Nat.not_lt_zero _)⟩
    case round=>
     obtain ⟨k,hkk,hg,rfl,rfl,E⟩:=hrel
     by_cases hlt:k < s.size
     · have hltz:(k:Int) < (s.size:Int):=by omega
       have HN:=Lib.hid (HNM.out k hlt)
       have HFB:Hid ((nmb s k < 33∨126 < nmb s k)→peF l i 3 s=3):=fun h=>peF_bad (prB_byte hlt h)
       have HGB:Hid (∀ j,j=k→nmb s j=nmb s k):=fun j e=>by rw [e]
       by_cases h1:((s[k]'hlt).toNat:Int) < 33
       · have HB:Hid (nmb s k < 33):=by show _ < _;rw [HN.out];exact h1
         go_wp2_with fail
         go_ret
         exact ⟨ret_int (HFB.out (Or.inl HB.out)).symm,rfl⟩
       · by_cases h2:126 < ((s[k]'hlt).toNat:Int)
         · have HB:Hid (126 < nmb s k):=by show _ < _;rw [HN.out];exact h2
           go_wp2_with fail
           go_ret
           exact ⟨ret_int (HFB.out (Or.inr HB.out)).symm,rfl⟩
         · have HB:Hid (33≤nmb s k∧nmb s k≤126):=by show _∧_;rw [HN.out];omega
           go_wp2_with fail
           go_roundg (s.size-(k+1))
           case measure=>omega
           case rel=>
            refine ⟨k+1,by omega,by omega,by go_num,rfl,(show ∀ j,_ from fun j hj=>?_)⟩
            by_cases e:j=k
            · rw [HGB.out j e];exact HB.out
            · exact E.out j (by omega)
     · have hltz:¬(k:Int) < (s.size:Int):=by omega
       have hke:k=s.size:=by omega
       have HP:=Lib.hid (prB_true (kind:=3) (lo:=0) (hi:=0) (by omega) HQ.out (fun j hj=>E.out j (by omega)))
       have HPE:=Lib.hid (peF_good (l:=l) (i:=i) HP.out)
       clear hke hlt
       have HFIN:Hid (peF l i 3 s=0):=by show _=_;rw [HPE.out,if_neg (fun h=>h.1 rfl)]
       go_wp2_with fail
       refine wp_loop_rounds 1 ?_
       rw [rounds_succ]
       go_wp2_with fail
       all_goals go_ret
       all_goals exact ⟨ret_int HFIN.out.symm,rfl⟩
structure FB (w W:World) (f:Fnt) (v:Value):Prop where
 B:Below w.heap.size w W
 F:Blk W w.heap.size 24 #[.string f.name,.int .i64 f.body,v]
theorem FB.step {w W W':World} {f:Fnt} {v:Value} (h:FB w W f v) (hb:Below W.heap.size W W'):FB w W' f v:=⟨h.B.trans (hb.mono h.B.size),h.F.below hb h.F.lt⟩
theorem FB.start (w:World) (f:Fnt) (v:Value):FB w (w.alloc (.cells #[.string f.name,.int .i64 f.body,v] 24)) f v:=⟨below_new _ _,Blk.new _ _ _⟩
def ErPost (x:Int × Int) (w:World) (e:Ending) (w':World):Prop:=e=.returned (.tuple #[.int .i64 x.1,.int .i64 x.2])∧Below w.heap.size w w'
theorem erPost_of {x:Int × Int} {a b:Int} {w W:World} (h:x=(a,b)) (hb:Below w.heap.size w W):ErPost x w (.returned (.tuple #[.int .i64 a,.int .i64 b])) W:=by subst h;exact ⟨rfl,hb⟩
theorem refFount_any (f:Fnt) (v:Value) (w:World) (hv:SoV w f.sorts v) (hn:f.name.size≤9223372036854775807) :
 Calls Tryz.prog 105 #[.agg #[.string f.name,.int .i64 f.body,v]] w (ErPost (fnErr f) w):=by
 obtain ⟨A,b,off,c,rfl,hA,hss,hc,hc2,hsz⟩:=hv
 have HD:Hid (fnErr f=if isNm f.name=false then (0,4) else if win f.body 1 144=false then (0,2) else if f.sorts.length=0 then (0,10) else if 120 < f.sorts.length then (0,8) else fstE (soErr f.sorts) f.sorts.length):=rfl
 generalize fnErr f=er at *
 have HN:=Lib.hid (fun W=>isNameB_any f.name W hn)
 clear hn
 generalize isNm f.name=nb at *
 have HP:Hid (∀ W x y,er=(x,y)→Below w.heap.size w W→ErPost er w (.returned (.tuple #[.int .i64 x,.int .i64 y])) W):=(show ∀ W x y,_ from fun W x y h hb=>erPost_of h hb)
 have hR:=FB.start w f (.slice A f.sorts.length c)
 have f0:=hR.F.cell 0
 have f1:=hR.F.cell 1
 have f2:=hR.F.cell 2
 have HR:=Lib.hid hR
 clear hR
 go_enter Tryz.func105,Tryz.ntmps105
 go_wp2_with fail
 generalize w.alloc (.cells #[.string f.name,.int .i64 f.body,.slice A f.sorts.length c] 24)=W0 at *
 refine (HN.out _).mono ?_
 rintro e w' ⟨rfl,rfl⟩
 cases nb with
 | false=>
  go_wp2_with fail
  go_ret2
  exact HP.out _ _ _ (by rw [HD.out];rfl) HR.out.B
 | true=>
  go_wp2_with fail
  refine (within13_any _ _ _ _).mono ?_
  rintro e w' ⟨rfl,rfl⟩
  cases hq:win f.body 1 144 with
  | false=>
   have HQ:=Lib.hid hq
   clear hq
   go_wp2_with fail
   go_ret2
   exact HP.out _ _ _ (by rw [HD.out,if_neg (by decide),if_pos HQ.out]) HR.out.B
  | true=>
   have HQ:=Lib.hid hq
   clear hq
   have HD2:Hid (er=if f.sorts.length=0 then (0,10) else if 120 < f.sorts.length then (0,8) else fstE (soErr f.sorts) f.sorts.length):=by show _=_;rw [HD.out,if_neg (by decide),if_neg (by rw [HQ.out];decide)]
   clear HD
   by_cases h0:f.sorts.length=0
   · have h0c:((f.sorts.length:Int) == 0)=true:=by simpa using h0
     have HL:=Lib.hid h0
     clear h0
     generalize f.sorts.length=n at *
     go_wp2_with fail
     go_ret2
     exact HP.out _ _ _ (by rw [HD2.out,if_pos HL.out]) HR.out.B
   · have h0c:((f.sorts.length:Int) == 0)=false:=beq_eq_false_iff_ne.2 (by omega)
     have hn0:0 < f.sorts.length:=by omega
     have HL:=Lib.hid h0
     clear h0
     by_cases h120:120 < f.sorts.length
     · have h120z:(120:Int) < (f.sorts.length:Int):=by omega
       have HL2:=Lib.hid h120
       clear h120
       go_wp2_with fail
       go_ret2
       exact HP.out _ _ _ (by rw [HD2.out,if_neg HL.out,if_pos HL2.out]) HR.out.B
     · have h120z:¬(120:Int) < (f.sorts.length:Int):=by omega
       have hn120:f.sorts.length≤120:=by omega
       have HD3:Hid (er=fstE (soErr f.sorts) f.sorts.length):=by show _=_;rw [HD2.out,if_neg HL.out,if_neg h120]
       clear HD2 h120
       have HSS:=Lib.hid hss
       have HSZ:=Lib.hid hsz
       obtain ⟨rfl,hbw⟩:=hA (by omega)
       clear hss hsz hA
       generalize hn:f.sorts.length=n at *
       have HNN:=Lib.hid hn
       clear hn
       go_wp2_with fail
       go_loopg [4,5,6] n (fun gg s4 _ _ wr=>∃ k:Nat,k≤n∧n-k≤gg∧s4=.int .i64 k∧Hid (FB w wr f (.slice (some ⟨b,off,none⟩) n c))∧Hid (∀ j,j < k→soErr f.sorts j=0))
       case atStart=>exact ⟨0,by omega,by omega,rfl,HR.out,fun j hj=>absurd hj (Nat.not_lt_zero _)⟩
       case round=>
        obtain ⟨k,hk,hg,rfl,HRk,HE⟩:=hrel
        clear HR f0 f1 f2
        have hwr:=HRk.out.F.lt
        by_cases hlt:k < n
        · have hltz:(k:Int) < (n:Int):=by omega
          obtain ⟨s0,s1,s2,s3⟩:=(HSS.out k (by rw [HNN.out];exact hlt)).below HRk.out.B hbw
          obtain ⟨z0,z1⟩:=HSZ.out k (by rw [HNN.out];exact hlt)
          have hbr:b < wr.heap.size:=by have:=HRk.out.B.size;omega
          obtain ⟨x,hx⟩:∃ x,gs f.sorts k=x:=⟨_,rfl⟩
          rw [hx] at s0 s1 s2 s3 z0 z1
          have HSE:Hid (soErr f.sorts k=soE f.sorts k x):=by show _=_;rw [soErr_eq,hx]
          have ERR:Hid (∀ e:Int,soE f.sorts k x=e→e≠0→er=((k:Int),e)):=(show ∀ e,_ from fun e h he=>by rw [HD3.out,fstE_hit (k:=k) (by rw [HSE.out,h];exact he) HE.out hlt,HSE.out,h])
          have hbn:=below_new wr (.cells (scs x) 145)
          have HRn:=Lib.hid (HRk.out.step hbn)
          have HXB:=Lib.hid (Blk.new wr 145 (scs x))
          have r0:=HRk.out.F.cell 0
          have r1:=HRk.out.F.cell 1
          have r2:=HRk.out.F.cell 2
          have HNX:=Lib.hid (fun W=>isNameB_any x.name W z0)
          have HSW:=Lib.hid (fun W (hW:Below w.heap.size w W)=>SsAt.below HSS.out hW hbw)
          have HNM:Hid (∀ W,Below w.heap.size w W→Calls Tryz.prog 145 #[.slice (some ⟨b,off,none⟩) k c,.string x.name] W fun e w'=>e=.returned (.int .i64 (idx (fun j=>nmEq (gs f.sorts j).name x.name) k))∧w'=W):=(show ∀ W,_ from fun W hW=>(named_any f.sorts x.name k b off c W (HSW.out W hW) (by rw [HNN.out];omega) (by omega)).mono fun _ _ ⟨h1,h2⟩=>⟨h1,h2.symm⟩)
          have HPE:Hid (∀ W,Below w.heap.size w W→win x.kind 1 3=true→Calls Tryz.prog 146 #[.slice (some ⟨b,off,none⟩) k c,.int .i64 x.kind,.string x.text] W fun e w'=>e=.returned (.int .i64 (peF f.sorts k x.kind x.text))∧w'=W):=(show ∀ W,_ from fun W hW hk=>(printsErr_any f.sorts x.kind x.text k b off c W (HSW.out W hW) (by rw [HNN.out];omega) (by omega) (win_t.1 hk) z1).mono fun _ _ ⟨h1,h2⟩=>⟨h1,h2.symm⟩)
          have HDE:Hid (soE f.sorts k x=if isNm x.name=false then 4 else if hasNm f.sorts k x.name=true then 5 else if win x.kind 1 3=false then 15 else if win x.width 1 100000=false then 2 else peF f.sorts k x.kind x.text):=by
           show _=_
           unfold soE peF
           rfl
          have HIX:Hid (hasNm f.sorts k x.name=decide (0≤idx (fun j=>nmEq (gs f.sorts j).name x.name) k)):=rfl
          clear hx hbn z0 z1 HSW
          generalize soE f.sorts k x=ev at *
          generalize idx (fun j=>nmEq (gs f.sorts j).name x.name) k=ix at *
          generalize peF f.sorts k x.kind x.text=pe at *
          generalize hasNm f.sorts k x.name=hnm at *
          generalize isNm x.name=nx at *
          go_wp2_with fail
          have hw4:w.heap.size < (wr.alloc (Obj.cells (scs x) 145)).heap.size:=by simp;omega
          have hw5:wr.heap.size < (wr.alloc (Obj.cells (scs x) 145)).heap.size:=by simp
          generalize wr.alloc (Obj.cells (scs x) 145)=W4 at *
          refine (HNX.out _).mono ?_
          rintro e w' ⟨rfl,rfl⟩
          have f0:=HRn.out.F.cell 0
          have f1:=HRn.out.F.cell 1
          have f2:=HRn.out.F.cell 2
          have x0:=HXB.out.cell 0
          have x1:=HXB.out.cell 1
          have x2:=HXB.out.cell 2
          have x3:=HXB.out.cell 3
          clear r0 r1 r2 s0 s1 s2 s3 HNX
          cases nx with
          | false=>
           have HFIN:=Lib.hid (ERR.out 4 (by rw [HDE.out];rfl) (by decide))
           go_wp2_with fail
           go_ret2
           exact HP.out _ _ _ HFIN.out HRn.out.B
          | true=>
           have hB4:=HRn.out.B
           have HB4:=Lib.hid hB4
           clear hB4
           have HNM4:Hid (∀ nq,Calls Tryz.prog 145 #[.slice (some ⟨b,off,none⟩) k c,.string x.name] (W4.drewN nq) fun e w'=>e=.returned (.int .i64 ix)∧w'=W4.drewN nq):=(show ∀ nq,_ from fun nq=>HNM.out _ (HB4.out.trans ((below_drewN _ _).mono HB4.out.size)))
           have kc:(k:Int)≤(c:Int):=by omega
           have kz:(0:Int)≤(k:Int):=by omega
           go_wp2_with fail
           go_quiet ((go_at_call 145;exact Calls.quiet_of_same (HNM4.out _)))
           by_cases hix:0≤ix
           · have HFIN:=Lib.hid (ERR.out 5 (by rw [HDE.out,if_neg (by decide),if_pos (by rw [HIX.out];exact decide_eq_true hix)]) (by decide))
             go_wp2_with fail
             go_ret2
             exact HP.out _ _ _ HFIN.out (HB4.out.trans ((below_drewN _ _).mono HB4.out.size))
           · have HDE2:Hid (ev=if win x.kind 1 3=false then 15 else if win x.width 1 100000=false then 2 else pe):=by show _=_;rw [HDE.out,if_neg (by decide),if_neg (by rw [HIX.out];simpa using hix)]
             clear HDE HIX
             go_wp2_with fail
             have hdn:=below_drewN W4 nq
             have HR5:=Lib.hid (HRn.out.step hdn)
             have HX5:=Lib.hid (HXB.out.below hdn HXB.out.lt)
             have hw6:w.heap.size < (W4.drewN nq).heap.size:=by have:=hdn.size;omega
             have hw7:wr.heap.size < (W4.drewN nq).heap.size:=by have:=hdn.size;omega
             have g0:=HR5.out.F.cell 0
             have g1:=HR5.out.F.cell 1
             have g2:=HR5.out.F.cell 2
             have y0:=HX5.out.cell 0
             have y1:=HX5.out.cell 1
             have y2:=HX5.out.cell 2
             have y3:=HX5.out.cell 3
             clear hdn f0 f1 f2 x0 x1 x2 x3
             generalize W4.drewN nq=W5 at *
             refine (within13_any _ _ _ _).mono ?_
             rintro e w' ⟨rfl,rfl⟩
             cases hq3:win x.kind 1 3 with
             | false=>
              have HFIN:=Lib.hid (ERR.out 15 (by rw [HDE2.out,if_pos hq3]) (by decide))
              clear hq3
              go_wp2_with fail
              go_ret2
              exact HP.out _ _ _ HFIN.out HR5.out.B
             | true=>
              have HQ3:=Lib.hid hq3
              clear hq3
              go_wp2_with fail
              refine (within13_any _ _ _ _).mono ?_
              rintro e w' ⟨rfl,rfl⟩
              cases hq4:win x.width 1 100000 with
              | false=>
               have HFIN:=Lib.hid (ERR.out 2 (by rw [HDE2.out,if_neg (by rw [HQ3.out];decide),if_pos hq4]) (by decide))
               clear hq4
               go_wp2_with fail
               go_ret2
               exact HP.out _ _ _ HFIN.out HR5.out.B
              | true=>
               have HDE3:Hid (ev=pe):=by show _=_;rw [HDE2.out,if_neg (by rw [HQ3.out];decide),if_neg (by rw [hq4];decide)]
               clear hq4 HDE2
               have HPE5:Hid (∀ nq,Calls Tryz.prog 146 #[.slice (some ⟨b,off,none⟩) k c,.int .i64 x.kind,.string x.text] (W5.drewN nq) fun e w'=>e=.returned (.int .i64 pe)∧w'=W5.drewN nq):=(show ∀ nq,_ from fun nq=>HPE.out _ (HR5.out.B.trans ((below_drewN _ _).mono HR5.out.B.size)) HQ3.out)
               go_wp2_with fail
               go_quiet ((go_at_call 146;exact Calls.quiet_of_same (HPE5.out _)))
               by_cases hpe:pe=0
               · have hpb:=bne_f hpe
                 have HZ:=Lib.hid hpe
                 clear hpe
                 go_wp2_with fail
                 have hdn:=below_drewN W5 nq
                 have HR6:=Lib.hid (HR5.out.step hdn)
                 clear hdn
                 go_roundg (n-(k+1))
                 case measure=>omega
                 case rel=>
                  refine ⟨k+1,by omega,by omega,by go_num,HR6.out,(show ∀ j,_ from fun j hj=>?_)⟩
                  by_cases e:j=k
                  · rw [e,HSE.out,HDE3.out];exact HZ.out
                  · exact HE.out j (by omega)
               · have hpb:=bne_t hpe
                 have HFIN:=Lib.hid (ERR.out pe HDE3.out hpe)
                 clear hpe
                 go_wp2_with fail
                 go_ret2
                 exact HP.out _ _ _ HFIN.out (HR5.out.B.trans ((below_drewN _ _).mono HR5.out.B.size))
        · have hltz:¬(k:Int) < (n:Int):=by omega
          have hke:k=n:=by omega
          subst hke
          have HFIN:Hid (er=((0:Int),(0:Int))):=by show _=_;rw [HD3.out,fstE_none HE.out]
          have f0:=HRk.out.F.cell 0
          have f1:=HRk.out.F.cell 1
          have f2:=HRk.out.F.cell 2
          go_wp2_with fail
          go_ret2
          exact HP.out _ _ _ HFIN.out HRk.out.B
theorem refErr_any (f:Fnt) (v:Value) (w:World) (hv:SoV w f.sorts v) (hn:f.name.size≤9223372036854775807) :
 Calls Tryz.prog 42 #[.agg #[.string f.name,.int .i64 f.body,v]] w fun e w'=>e=.returned (.int .i64 (fnErr f).2)∧Below w.heap.size w w':=by
 have hb0:=below_new w (.cells #[.string f.name,.int .i64 f.body,v] 24)
 have HC:=Lib.hid (refFount_any f v _ (hv.below hb0) hn)
 have hF:=Blk.new w 24 #[.string f.name,.int .i64 f.body,v]
 have f0:=hF.cell 0
 have f1:=hF.cell 1
 have f2:=hF.cell 2
 have HB:=Lib.hid hb0
 clear hF hb0 hv hn
 go_enter Tryz.func42,Tryz.ntmps42
 go_wp2_with fail
 refine HC.out.mono ?_
 rintro e w1 ⟨rfl,hb⟩
 have HB1:=Lib.hid (HB.out.trans (hb.mono (by simp)))
 clear hb f0 f1 f2
 go_wp2_with fail
 go_ret
 exact ⟨rfl,HB1.out⟩
theorem isSpaceR_any (f:Fnt) (v:Value) (s:Int) (w:World) (hv:SoV w f.sorts v) (hs:0≤s∧s < f.sorts.length) (hm:f.sorts.length≤1000) :
 Calls Tryz.prog 77 #[.agg #[.string f.name,.int .i64 f.body,v],.int .i64 s] w fun e w'=>e=.returned (.bool (spB f s))∧Below w.heap.size w w':=by
 obtain ⟨A,b,off,c,rfl,hA,hss,hc,hc2,hsz⟩:=hv
 obtain ⟨k,rfl⟩:=Int.eq_ofNat_of_zero_le hs.1
 have hk:k < f.sorts.length:=by omega
 obtain ⟨rfl,hbw⟩:=hA (by omega)
 obtain ⟨-,-,s2,-⟩:=hss k hk
 have HSP:Hid (spB f (k:Int)=((gs f.sorts k).kind == 3)):=rfl
 have hF:=Blk.new w 24 #[.string f.name,.int .i64 f.body,.slice (some ⟨b,off,none⟩) f.sorts.length c]
 have f2:=hF.cell 2
 have hkz:(k:Int) < (f.sorts.length:Int):=by omega
 clear hss hsz hA hs hF
 generalize f.sorts.length=n at *
 generalize (gs f.sorts k).kind=kd at *
 go_enter Tryz.func77,Tryz.ntmps77
 go_wp2_with fail
 go_ret
 exact ⟨ret_bool HSP.out.symm,below_new _ _⟩
theorem isSpaceP_any (f:Fnt) (v:Value) (s:Int) (w:World) (hv:SoV w f.sorts v) (hs:0≤s∧s < f.sorts.length) (hm:f.sorts.length≤1000) :
 Calls Tryz.prog 96 #[.agg #[.string f.name,.int .i64 f.body,v],.int .i64 s] w fun e w'=>e=.returned (.bool (spB f s))∧Below w.heap.size w w':=by
 obtain ⟨A,b,off,c,rfl,hA,hss,hc,hc2,hsz⟩:=hv
 obtain ⟨k,rfl⟩:=Int.eq_ofNat_of_zero_le hs.1
 have hk:k < f.sorts.length:=by omega
 obtain ⟨rfl,hbw⟩:=hA (by omega)
 obtain ⟨-,-,s2,-⟩:=hss k hk
 have HSP:Hid (spB f (k:Int)=((gs f.sorts k).kind == 3)):=rfl
 have hF:=Blk.new w 24 #[.string f.name,.int .i64 f.body,.slice (some ⟨b,off,none⟩) f.sorts.length c]
 have f2:=hF.cell 2
 have hkz:(k:Int) < (f.sorts.length:Int):=by omega
 clear hss hsz hA hs hF
 generalize f.sorts.length=n at *
 generalize (gs f.sorts k).kind=kd at *
 go_enter Tryz.func96,Tryz.ntmps96
 go_wp2_with fail
 go_ret
 exact ⟨ret_bool HSP.out.symm,below_new _ _⟩
theorem has_any (f:Fnt) (v:Value) (s:Int) (w:World) (hv:SoV w f.sorts v) :
 Calls Tryz.prog 95 #[.agg #[.string f.name,.int .i64 f.body,v],.int .i64 s] w fun e w'=>e=.returned (.bool (win s 0 (f.sorts.length-1)))∧Below w.heap.size w w':=by
 obtain ⟨A,b,off,c,rfl,hA,hss,hc,hc2,hsz⟩:=hv
 have hF:=Blk.new w 24 #[.string f.name,.int .i64 f.body,.slice A f.sorts.length c]
 have f2:=hF.cell 2
 have HB:=Lib.hid (below_new w (.cells #[.string f.name,.int .i64 f.body,.slice A f.sorts.length c] 24))
 clear hss hsz hA hF
 generalize f.sorts.length=n at *
 go_enter Tryz.func95,Tryz.ntmps95
 go_wp2_with fail
 refine (within44_any _ _ _ _).mono ?_
 rintro e w' ⟨rfl,rfl⟩
 go_wp2_with fail
 go_ret
 exact ⟨rfl,HB.out⟩
end Go.Proofs.YtbnganlfelgogaaGreat
