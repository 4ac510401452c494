/- awake of chapter 4: answers true. -/
import Derived.Test.YtbnganlfelgogaaGreatVAwp
set_option linter.unusedSimpArgs false
set_option linter.unusedVariables false
set_option maxRecDepth 100000
set_option maxHeartbeats 40000000
namespace Go.Proofs.YtbnganlfelgogaaGreat
open Go.RowKit
theorem bov_blk {W:World} {g:Nat} {a b:Bool} (h:Blk W g 4 #[.bool a,.bool b]):BoV W [a,b] (.slice (some ⟨g,0,none⟩) 2 2):=
 ⟨some ⟨g,0,none⟩,g,0,2,rfl,fun _=>⟨rfl,h.lt⟩,fun j hj=>by
  have:j=0∨j=1:=by have:[a,b].length=2:=rfl;omega
  rcases this with rfl | rfl
  · exact h.cell 0
  · exact h.cell 1,Nat.le_refl _,by simp⟩
theorem awl_blk {W:World} {g g1 g2:Nat} (h:Blk W g 83 #[.int .i64 1400,.slice (some ⟨g1,0,none⟩) 6 6,.int .i64 1400,.slice (some ⟨g2,0,none⟩) 6 6]) (h1:IV W [0,3,0,3,0,5] (.slice (some ⟨g1,0,none⟩) 6 6)) (h2:IV W [0,3,0,3,3,3] (.slice (some ⟨g2,0,none⟩) 6 6)):LnV W awL (.slice (some ⟨g,0,none⟩) 2 2):=
 ⟨fun i=>if i=0 then .slice (some ⟨g1,0,none⟩) 6 6 else .slice (some ⟨g2,0,none⟩) 6 6,⟨some ⟨g,0,none⟩,g,0,2,rfl,fun _=>⟨rfl,h.lt⟩,fun j hj=>by
  have:j=0∨j=1∨j=2∨j=3:=by have:awL.length=2:=rfl;omega
  rcases this with rfl | rfl | rfl | rfl
  · exact h.cell 0
  · exact h.cell 1
  · exact h.cell 2
  · exact h.cell 3,by decide,by decide⟩,fun i hi=>by
  have:i=0∨i=1:=by have:awL.length=2:=rfl;omega
  rcases this with rfl | rfl
  · exact h1
  · exact h2⟩
theorem awq_blk {W:World} {g g1 g2 g3 g4:Nat} (h:Blk W g 34 #[.slice (some ⟨g1,0,none⟩) 1 1,.slice (some ⟨g2,0,none⟩) 1 1,.slice (some ⟨g3,0,none⟩) 2 2,.slice (some ⟨g4,0,none⟩) 1 1]) (h1:IV W [0] (.slice (some ⟨g1,0,none⟩) 1 1)) (h2:IV W [0] (.slice (some ⟨g2,0,none⟩) 1 1)) (h3:IV W [0,0] (.slice (some ⟨g3,0,none⟩) 2 2)) (h4:IV W [0] (.slice (some ⟨g4,0,none⟩) 1 1)):LV W [[0],[0],[0,0],[0]] (.slice (some ⟨g,0,none⟩) 4 4):=
 ⟨fun i=>if i=0 then .slice (some ⟨g1,0,none⟩) 1 1 else if i=1 then .slice (some ⟨g2,0,none⟩) 1 1 else if i=2 then .slice (some ⟨g3,0,none⟩) 2 2 else .slice (some ⟨g4,0,none⟩) 1 1,⟨some ⟨g,0,none⟩,g,0,4,rfl,fun _=>⟨rfl,h.lt⟩,fun j hj=>by
  have:j=0∨j=1∨j=2∨j=3:=by have:([[0],[0],[0,0],[0]]:List (List Int)).length=4:=rfl;omega
  rcases this with rfl | rfl | rfl | rfl
  · exact h.cell 0
  · exact h.cell 1
  · exact h.cell 2
  · exact h.cell 3,by decide,by decide⟩,fun i hi=>by
  have:i=0∨i=1∨i=2∨i=3:=by have:([[0],[0],[0,0],[0]]:List (List Int)).length=4:=rfl;omega
  rcases this with rfl | rfl | rfl | rfl
  · exact h1
  · exact h2
  · exact h3
  · exact h4⟩
theorem BoV.below {W W':World} {bs:List Bool} {v:Value} (h:BoV W bs v) (hb:Below W.heap.size W W'):BoV W' bs v:=RV.below h hb
theorem aw_sz:∀ k,(g2 awL k).2.length≤1000000:=fun k=>by
 rcases k with _ | _ | k <;> exact of_decide_eq_true rfl
theorem aw_qz:∀ k,(gl [[0],[0],[0,0],[0]] k).length≤1000000:=fun k=>by
 rcases k with _ | _ | _ | _ | k <;> exact of_decide_eq_true rfl
theorem awake4_any (w:World):Calls Tryz.prog 17 #[] w fun e w'=>e=.returned (.bool true)∧Below w.heap.size w w':=by
 have hd:dist (tab rom4 rul4 div4) ((places div4).length-1)=50:=by rw [ex_pl];exact ex_d
 have HB0:=Lib.hid (Below.refl w.heap.size w)
 go_enter Tryz.func17,Tryz.ntmps17
 go_wp2_with fail
 refine (roman4_any w).mono ?_
 rintro e w1 ⟨v1,rfl,hv1,hb1⟩
 obtain ⟨A1,c1,rfl⟩:=hv1.shape
 have HB1:=Lib.hid (HB0.out.trans (hb1.mono HB0.out.size))
 have HV1x0:=Lib.hid hv1
 clear hv1 hb1
 go_wp2_with fail
 refine (rules4_any w1).mono ?_
 rintro e w2 ⟨rfl,hb2⟩
 have HV1x1:=Lib.hid (HV1x0.out.below hb2)
 have HB2:=Lib.hid (HB1.out.trans (hb2.mono HB1.out.size))
 clear hb2
 go_wp2_with fail
 refine (divided_any w2).mono ?_
 rintro e w3 ⟨vw3,rfl,hw3,hb3⟩
 obtain ⟨Aw3,cw3,rfl,-⟩:=hw3.shape
 have HV1x2:=Lib.hid (HV1x1.out.below hb3)
 have HB3:=Lib.hid (HB2.out.trans (hb3.mono HB2.out.size))
 have HW3x0:=Lib.hid hw3
 clear hw3 hb3
 go_wp2_with fail
 refine (bestO_any rom4 _ rul4 div4 _ w3 HV1x2.out (by decide) HW3x0.out).mono ?_
 rintro e w4 ⟨hb4,⟨h,-⟩ | ⟨-,h,-⟩ | ⟨-,-,b,vb,vl,rfl,-,-,-⟩⟩
 · exact absurd ex_pa h
 · rw [hd] at h
   exact absurd h (by decide)
 rw [hd]
 have HB4:=Lib.hid (HB3.out.trans (hb4.mono HB3.out.size))
 clear hb4 hd
 go_wp2_with fail
 refine (roman4_any w4).mono ?_
 rintro e w5 ⟨v5,rfl,hv5,hb5⟩
 obtain ⟨A5,c5,rfl⟩:=hv5.shape
 have HB5:=Lib.hid (HB4.out.trans (hb5.mono HB4.out.size))
 have HV5x0:=Lib.hid hv5
 clear hv5 hb5
 go_wp2_with fail
 have hb6:=below_new w5 (.cells #[.int .i64 9,.int .i64 9,.int .i64 9,.int .i64 9,.int .i64 9,.int .i64 9] 3)
 have HV5x1:=Lib.hid (HV5x0.out.below hb6)
 have HB6:=Lib.hid (HB5.out.trans (hb6.mono HB5.out.size))
 have HNx0:Hid (IV (w5.alloc (.cells #[.int .i64 9,.int .i64 9,.int .i64 9,.int .i64 9,.int .i64 9,.int .i64 9] 3)) [9,9,9,9,9,9] (.slice (some ⟨w5.heap.size,0,none⟩) 6 6)):=iv_of_blk (zs:=[9,9,9,9,9,9]) (Blk.new w5 3 #[.int .i64 9,.int .i64 9,.int .i64 9,.int .i64 9,.int .i64 9,.int .i64 9]) (by decide)
 have HS6:Hid ((w5.alloc (.cells #[.int .i64 9,.int .i64 9,.int .i64 9,.int .i64 9,.int .i64 9,.int .i64 9] 3)).heap.size=w5.heap.size+1):=(show _=_ by simp)
 clear hb6
 generalize w5.alloc (.cells #[.int .i64 9,.int .i64 9,.int .i64 9,.int .i64 9,.int .i64 9,.int .i64 9] 3)=w6 at *
 generalize w5.heap.size=g6 at *
 refine (rules4_any w6).mono ?_
 rintro e w7 ⟨rfl,hb7⟩
 have HV5x2:=Lib.hid (HV5x1.out.below hb7)
 have HNx1:=Lib.hid (HNx0.out.below hb7)
 have HB7:=Lib.hid (HB6.out.trans (hb7.mono HB6.out.size))
 clear hb7
 go_wp2_with fail
 refine (divided_any w7).mono ?_
 rintro e w8 ⟨vw8,rfl,hw8,hb8⟩
 obtain ⟨Aw8,cw8,rfl,-⟩:=hw8.shape
 have HV5x3:=Lib.hid (HV5x2.out.below hb8)
 have HNx2:=Lib.hid (HNx1.out.below hb8)
 have HB8:=Lib.hid (HB7.out.trans (hb8.mono HB7.out.size))
 have HW8x0:=Lib.hid hw8
 clear hw8 hb8
 go_wp2_with fail
 refine (set_any rom4 _ rul4 div4 _ nin6 _ w8 HV5x3.out (by decide) HW8x0.out HNx2.out rfl).mono ?_
 rintro e w9 (⟨h,-,-⟩ | ⟨-,h,-,-⟩ | ⟨-,-,bs,hbb,⟨h,-,-⟩ | ⟨-,hb9,⟨h,-⟩ | ⟨-,vs,rfl,hls⟩⟩⟩)
 · exact absurd aw_ca h
 · exact absurd ex_pa h
 · rw [ex_pl] at hbb
   obtain rfl:=aw_bb hbb
   exact absurd aw_ln h
 · rw [ex_pl] at hbb
   obtain rfl:=aw_bb hbb
   exact absurd aw_sa h
 rw [ex_pl] at hbb
 obtain rfl:=aw_bb hbb
 have HLx0:Hid (LnV w9 awL vs):=(show LnV _ _ _ from by rw [←aw_k];exact hls)
 clear hls hbb
 obtain ⟨As,cs,rfl⟩:=HLx0.out.shape
 have HB9:=Lib.hid (HB8.out.trans (hb9.mono HB8.out.size))
 clear hb9
 go_wp2_with fail
 refine (roman4_any w9).mono ?_
 rintro e w10 ⟨v10,rfl,hv10,hb10⟩
 obtain ⟨A10,c10,rfl⟩:=hv10.shape
 have HLx1:=Lib.hid (HLx0.out.below hb10)
 have HB10:=Lib.hid (HB9.out.trans (hb10.mono HB9.out.size))
 have HV10x0:=Lib.hid hv10
 clear hv10 hb10
 go_wp2_with fail
 have hb11:=below_new w10 (.cells #[.bool true,.bool false] 4)
 have HLx2:=Lib.hid (HLx1.out.below hb11)
 have HV10x1:=Lib.hid (HV10x0.out.below hb11)
 have HB11:=Lib.hid (HB10.out.trans (hb11.mono HB10.out.size))
 have HBBx0:Hid (BoV (w10.alloc (.cells #[.bool true,.bool false] 4)) [true,false] (.slice (some ⟨w10.heap.size,0,none⟩) 2 2)):=bov_blk (Blk.new w10 4 #[.bool true,.bool false])
 have HS11:Hid ((w10.alloc (.cells #[.bool true,.bool false] 4)).heap.size=w10.heap.size+1):=(show _=_ by simp)
 clear hb11
 generalize w10.alloc (.cells #[.bool true,.bool false] 4)=w11 at *
 generalize w10.heap.size=g11 at *
 refine (joined_any rom4 _ awL [true,false] _ _ w11 HV10x1.out (by decide) HLx2.out HBBx0.out (by decide) (by decide) aw_sz (by decide)).mono ?_
 rintro e w12 ⟨hb12,⟨h,-⟩ | ⟨-,vj,rfl,hj⟩⟩
 · exact absurd aw_jf h
 have HJx0:Hid (LV w12 [[0],[0],[0,0],[0]] vj):=(show LV _ _ _ from by rw [←aw_jk];exact hj)
 clear hj
 obtain ⟨Aj,cj,rfl,-,-⟩:=HJx0.out.shape
 have HLx3:=Lib.hid (HLx2.out.below hb12)
 have HB12:=Lib.hid (HB11.out.trans (hb12.mono HB11.out.size))
 clear hb12
 go_wp2_with fail
 refine (roman4_any w12).mono ?_
 rintro e w13 ⟨v13,rfl,hv13,hb13⟩
 obtain ⟨A13,c13,rfl⟩:=hv13.shape
 have HLx4:=Lib.hid (HLx3.out.below hb13)
 have HJx1:=Lib.hid (HJx0.out.below hb13)
 have HB13:=Lib.hid (HB12.out.trans (hb13.mono HB12.out.size))
 have HV13x0:=Lib.hid hv13
 clear hv13 hb13
 go_wp2_with fail
 refine (rules4_any w13).mono ?_
 rintro e w14 ⟨rfl,hb14⟩
 have HLx5:=Lib.hid (HLx4.out.below hb14)
 have HJx2:=Lib.hid (HJx1.out.below hb14)
 have HV13x1:=Lib.hid (HV13x0.out.below hb14)
 have HB14:=Lib.hid (HB13.out.trans (hb14.mono HB13.out.size))
 clear hb14
 go_wp2_with fail
 refine (divided_any w14).mono ?_
 rintro e w15 ⟨vw15,rfl,hw15,hb15⟩
 obtain ⟨Aw15,cw15,rfl,-⟩:=hw15.shape
 have HLx6:=Lib.hid (HLx5.out.below hb15)
 have HJx3:=Lib.hid (HJx2.out.below hb15)
 have HV13x2:=Lib.hid (HV13x1.out.below hb15)
 have HB15:=Lib.hid (HB14.out.trans (hb15.mono HB14.out.size))
 have HW15x0:=Lib.hid hw15
 clear hw15 hb15
 go_wp2_with fail
 refine (fewest_any rom4 _ rul4 div4 _ w15 HV13x2.out (by decide) HW15x0.out).mono ?_
 rintro e w16 ⟨rfl,hb16⟩
 rw [aw_fw]
 dsimp only
 have HLx7:=Lib.hid (HLx6.out.below hb16)
 have HJx4:=Lib.hid (HJx3.out.below hb16)
 have HB16:=Lib.hid (HB15.out.trans (hb16.mono HB15.out.size))
 clear hb16
 go_wp2_with fail
 have hb17:=below_new w16 (.cells #[.int .i64 0,.int .i64 3,.int .i64 0,.int .i64 3,.int .i64 0,.int .i64 5] 3)
 have HLx8:=Lib.hid (HLx7.out.below hb17)
 have HJx5:=Lib.hid (HJx4.out.below hb17)
 have HB17:=Lib.hid (HB16.out.trans (hb17.mono HB16.out.size))
 have HP1x0:Hid (IV (w16.alloc (.cells #[.int .i64 0,.int .i64 3,.int .i64 0,.int .i64 3,.int .i64 0,.int .i64 5] 3)) [0,3,0,3,0,5] (.slice (some ⟨w16.heap.size,0,none⟩) 6 6)):=iv_of_blk (zs:=[0,3,0,3,0,5]) (Blk.new w16 3 #[.int .i64 0,.int .i64 3,.int .i64 0,.int .i64 3,.int .i64 0,.int .i64 5]) (by decide)
 have HS17:Hid ((w16.alloc (.cells #[.int .i64 0,.int .i64 3,.int .i64 0,.int .i64 3,.int .i64 0,.int .i64 5] 3)).heap.size=w16.heap.size+1):=(show _=_ by simp)
 clear hb17
 generalize w16.alloc (.cells #[.int .i64 0,.int .i64 3,.int .i64 0,.int .i64 3,.int .i64 0,.int .i64 5] 3)=w17 at *
 generalize w16.heap.size=g17 at *
 have hb18:=below_new w17 (.cells #[.int .i64 0,.int .i64 3,.int .i64 0,.int .i64 3,.int .i64 3,.int .i64 3] 3)
 have HLx9:=Lib.hid (HLx8.out.below hb18)
 have HJx6:=Lib.hid (HJx5.out.below hb18)
 have HP1x1:=Lib.hid (HP1x0.out.below hb18)
 have HB18:=Lib.hid (HB17.out.trans (hb18.mono HB17.out.size))
 have HP2x0:Hid (IV (w17.alloc (.cells #[.int .i64 0,.int .i64 3,.int .i64 0,.int .i64 3,.int .i64 3,.int .i64 3] 3)) [0,3,0,3,3,3] (.slice (some ⟨g17+1,0,none⟩) 6 6)):=(show IV (w17.alloc (.cells #[.int .i64 0,.int .i64 3,.int .i64 0,.int .i64 3,.int .i64 3,.int .i64 3] 3)) [0,3,0,3,3,3] (.slice (some ⟨g17+1,0,none⟩) 6 6) from by rw [←HS17.out];exact iv_of_blk (zs:=[0,3,0,3,3,3]) (Blk.new w17 3 #[.int .i64 0,.int .i64 3,.int .i64 0,.int .i64 3,.int .i64 3,.int .i64 3]) (by decide))
 have HS18:Hid ((w17.alloc (.cells #[.int .i64 0,.int .i64 3,.int .i64 0,.int .i64 3,.int .i64 3,.int .i64 3] 3)).heap.size=g17+1+1):=(show _=_ by rw [World.size_alloc,HS17.out])
 clear hb18
 generalize w17.alloc (.cells #[.int .i64 0,.int .i64 3,.int .i64 0,.int .i64 3,.int .i64 3,.int .i64 3] 3)=w18 at *
 have hb19:=below_new w18 (.cells #[.int .i64 1400,.slice (some ⟨g17,0,none⟩) 6 6,.int .i64 1400,.slice (some ⟨g17+1,0,none⟩) 6 6] 83)
 have HLx10:=Lib.hid (HLx9.out.below hb19)
 have HJx7:=Lib.hid (HJx6.out.below hb19)
 have HP1x2:=Lib.hid (HP1x1.out.below hb19)
 have HP2x1:=Lib.hid (HP2x0.out.below hb19)
 have HB19:=Lib.hid (HB18.out.trans (hb19.mono HB18.out.size))
 have HQx0:Hid (LnV (w18.alloc (.cells #[.int .i64 1400,.slice (some ⟨g17,0,none⟩) 6 6,.int .i64 1400,.slice (some ⟨g17+1,0,none⟩) 6 6] 83)) awL (.slice (some ⟨g17+1+1,0,none⟩) 2 2)):=(show LnV (w18.alloc (.cells #[.int .i64 1400,.slice (some ⟨g17,0,none⟩) 6 6,.int .i64 1400,.slice (some ⟨g17+1,0,none⟩) 6 6] 83)) awL (.slice (some ⟨g17+1+1,0,none⟩) 2 2) from by rw [←HS18.out];exact awl_blk (Blk.new w18 83 #[.int .i64 1400,.slice (some ⟨g17,0,none⟩) 6 6,.int .i64 1400,.slice (some ⟨g17+1,0,none⟩) 6 6]) HP1x2.out HP2x1.out)
 have HS19:Hid ((w18.alloc (.cells #[.int .i64 1400,.slice (some ⟨g17,0,none⟩) 6 6,.int .i64 1400,.slice (some ⟨g17+1,0,none⟩) 6 6] 83)).heap.size=g17+1+1+1):=(show _=_ by rw [World.size_alloc,HS18.out])
 clear hb19
 generalize w18.alloc (.cells #[.int .i64 1400,.slice (some ⟨g17,0,none⟩) 6 6,.int .i64 1400,.slice (some ⟨g17+1,0,none⟩) 6 6] 83)=w19 at *
 refine (lines37_any awL awL _ _ w19 HLx10.out HQx0.out (by decide) aw_sz aw_sz).mono ?_
 rintro e w20 ⟨rfl,hb20⟩
 rw [decide_eq_true (rfl:awL=awL)]
 have HJx8:=Lib.hid (HJx7.out.below hb20)
 have HB20:=Lib.hid (HB19.out.trans (hb20.mono HB19.out.size))
 clear hb20
 go_wp2_with fail
 have hb21:=below_new w20 (.cells #[.int .i64 0] 3)
 have HJx9:=Lib.hid (HJx8.out.below hb21)
 have HB21:=Lib.hid (HB20.out.trans (hb21.mono HB20.out.size))
 have HR0x0:Hid (IV (w20.alloc (.cells #[.int .i64 0] 3)) [0] (.slice (some ⟨w20.heap.size,0,none⟩) 1 1)):=iv_of_blk (zs:=[0]) (Blk.new w20 3 #[.int .i64 0]) (by decide)
 have HS21:Hid ((w20.alloc (.cells #[.int .i64 0] 3)).heap.size=w20.heap.size+1):=(show _=_ by simp)
 clear hb21
 generalize w20.alloc (.cells #[.int .i64 0] 3)=w21 at *
 generalize w20.heap.size=g21 at *
 have hb22:=below_new w21 (.cells #[.int .i64 0] 3)
 have HJx10:=Lib.hid (HJx9.out.below hb22)
 have HR0x1:=Lib.hid (HR0x0.out.below hb22)
 have HB22:=Lib.hid (HB21.out.trans (hb22.mono HB21.out.size))
 have HR1x0:Hid (IV (w21.alloc (.cells #[.int .i64 0] 3)) [0] (.slice (some ⟨g21+1,0,none⟩) 1 1)):=(show IV (w21.alloc (.cells #[.int .i64 0] 3)) [0] (.slice (some ⟨g21+1,0,none⟩) 1 1) from by rw [←HS21.out];exact iv_of_blk (zs:=[0]) (Blk.new w21 3 #[.int .i64 0]) (by decide))
 have HS22:Hid ((w21.alloc (.cells #[.int .i64 0] 3)).heap.size=g21+1+1):=(show _=_ by rw [World.size_alloc,HS21.out])
 clear hb22
 generalize w21.alloc (.cells #[.int .i64 0] 3)=w22 at *
 have hb23:=below_new w22 (.cells #[.int .i64 0,.int .i64 0] 3)
 have HJx11:=Lib.hid (HJx10.out.below hb23)
 have HR0x2:=Lib.hid (HR0x1.out.below hb23)
 have HR1x1:=Lib.hid (HR1x0.out.below hb23)
 have HB23:=Lib.hid (HB22.out.trans (hb23.mono HB22.out.size))
 have HR2x0:Hid (IV (w22.alloc (.cells #[.int .i64 0,.int .i64 0] 3)) [0,0] (.slice (some ⟨g21+1+1,0,none⟩) 2 2)):=(show IV (w22.alloc (.cells #[.int .i64 0,.int .i64 0] 3)) [0,0] (.slice (some ⟨g21+1+1,0,none⟩) 2 2) from by rw [←HS22.out];exact iv_of_blk (zs:=[0,0]) (Blk.new w22 3 #[.int .i64 0,.int .i64 0]) (by decide))
 have HS23:Hid ((w22.alloc (.cells #[.int .i64 0,.int .i64 0] 3)).heap.size=g21+1+1+1):=(show _=_ by rw [World.size_alloc,HS22.out])
 clear hb23
 generalize w22.alloc (.cells #[.int .i64 0,.int .i64 0] 3)=w23 at *
 have hb24:=below_new w23 (.cells #[.int .i64 0] 3)
 have HJx12:=Lib.hid (HJx11.out.below hb24)
 have HR0x3:=Lib.hid (HR0x2.out.below hb24)
 have HR1x2:=Lib.hid (HR1x1.out.below hb24)
 have HR2x1:=Lib.hid (HR2x0.out.below hb24)
 have HB24:=Lib.hid (HB23.out.trans (hb24.mono HB23.out.size))
 have HR3x0:Hid (IV (w23.alloc (.cells #[.int .i64 0] 3)) [0] (.slice (some ⟨g21+1+1+1,0,none⟩) 1 1)):=(show IV (w23.alloc (.cells #[.int .i64 0] 3)) [0] (.slice (some ⟨g21+1+1+1,0,none⟩) 1 1) from by rw [←HS23.out];exact iv_of_blk (zs:=[0]) (Blk.new w23 3 #[.int .i64 0]) (by decide))
 have HS24:Hid ((w23.alloc (.cells #[.int .i64 0] 3)).heap.size=g21+1+1+1+1):=(show _=_ by rw [World.size_alloc,HS23.out])
 clear hb24
 generalize w23.alloc (.cells #[.int .i64 0] 3)=w24 at *
 have hb25:=below_new w24 (.cells #[.slice (some ⟨g21,0,none⟩) 1 1,.slice (some ⟨g21+1,0,none⟩) 1 1,.slice (some ⟨g21+1+1,0,none⟩) 2 2,.slice (some ⟨g21+1+1+1,0,none⟩) 1 1] 34)
 have HJx13:=Lib.hid (HJx12.out.below hb25)
 have HR0x4:=Lib.hid (HR0x3.out.below hb25)
 have HR1x3:=Lib.hid (HR1x2.out.below hb25)
 have HR2x2:=Lib.hid (HR2x1.out.below hb25)
 have HR3x1:=Lib.hid (HR3x0.out.below hb25)
 have HB25:=Lib.hid (HB24.out.trans (hb25.mono HB24.out.size))
 have HSx0:Hid (LV (w24.alloc (.cells #[.slice (some ⟨g21,0,none⟩) 1 1,.slice (some ⟨g21+1,0,none⟩) 1 1,.slice (some ⟨g21+1+1,0,none⟩) 2 2,.slice (some ⟨g21+1+1+1,0,none⟩) 1 1] 34)) [[0],[0],[0,0],[0]] (.slice (some ⟨g21+1+1+1+1,0,none⟩) 4 4)):=(show LV (w24.alloc (.cells #[.slice (some ⟨g21,0,none⟩) 1 1,.slice (some ⟨g21+1,0,none⟩) 1 1,.slice (some ⟨g21+1+1,0,none⟩) 2 2,.slice (some ⟨g21+1+1+1,0,none⟩) 1 1] 34)) [[0],[0],[0,0],[0]] (.slice (some ⟨g21+1+1+1+1,0,none⟩) 4 4) from by rw [←HS24.out];exact awq_blk (Blk.new w24 34 #[.slice (some ⟨g21,0,none⟩) 1 1,.slice (some ⟨g21+1,0,none⟩) 1 1,.slice (some ⟨g21+1+1,0,none⟩) 2 2,.slice (some ⟨g21+1+1+1,0,none⟩) 1 1]) HR0x4.out HR1x3.out HR2x2.out HR3x1.out)
 have HS25:Hid ((w24.alloc (.cells #[.slice (some ⟨g21,0,none⟩) 1 1,.slice (some ⟨g21+1,0,none⟩) 1 1,.slice (some ⟨g21+1+1,0,none⟩) 2 2,.slice (some ⟨g21+1+1+1,0,none⟩) 1 1] 34)).heap.size=g21+1+1+1+1+1):=(show _=_ by rw [World.size_alloc,HS24.out])
 clear hb25
 generalize w24.alloc (.cells #[.slice (some ⟨g21,0,none⟩) 1 1,.slice (some ⟨g21+1,0,none⟩) 1 1,.slice (some ⟨g21+1+1,0,none⟩) 2 2,.slice (some ⟨g21+1+1+1,0,none⟩) 1 1] 34)=w25 at *
 refine (lists_any [[0],[0],[0,0],[0]] [[0],[0],[0,0],[0]] _ _ w25 HJx13.out HSx0.out (by decide) aw_qz aw_qz).mono ?_
 rintro e w26 ⟨rfl,hb26⟩
 rw [decide_eq_true (rfl:([[0],[0],[0,0],[0]]:List (List Int))=_)]
 have HB26:=Lib.hid (HB25.out.trans (hb26.mono HB25.out.size))
 clear hb26
 go_wp2_with fail
 go_ret
 exact ⟨rfl,HB26.out⟩
end Go.Proofs.YtbnganlfelgogaaGreat
