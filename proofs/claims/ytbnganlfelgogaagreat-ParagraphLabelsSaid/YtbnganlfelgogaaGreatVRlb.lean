/- ParagraphLabels returns true for every input; the arguments read as they did. -/
import Derived.Test.YtbnganlfelgogaaGreatVOpq
import Derived.Test.YtbnganlfelgogaaGreatVLbl
set_option linter.unusedSimpArgs false
set_option linter.unusedVariables false
set_option maxRecDepth 100000
set_option maxHeartbeats 40000000
namespace Go.Proofs.YtbnganlfelgogaaGreat
open Go.ChangeShapes Go.WideShapes Go.ChangeAt Go.RowKit Go.Deep Go.Joins
theorem paragraphLabels_lifted (os:Os) (started:os.Started) (H:Type) (enc:TypeId × Value→H) :
 ReturnsInHanded {} Tryz.checked os 10 .any (Rows.paragraphLabelsSpec.pre6 enc Tryz.prog Tryz.f10 Rows.paragraphLabelsRow.domain false) (Rows.paragraphLabelsSpec.post enc Tryz.prog Tryz.f10 false true false false):=by
 refine returnsInHanded_of_change (C:=Tryz.checked) Tryz.own started (by kernel_rfl) Tryz.func10
  (ChangeSpec.witness6 (enc:=enc) (C:=Tryz.checked) false ⟨#[],#[.agg #[.string ⟨#[]⟩,.int .i64 0,.slice none 0 0,.int .i64 0,.int .i64 0,.int .i64 0,.int .i64 0,.int .i64 0,.int .i64 0,.int .i64 0,.int .i64 0,.slice none 0 0],.slice none 0 0],[]⟩ 8 (by kernel_rfl) (by kernel_rfl) (by kernel_rfl) (by kernel_rfl)) ?_
 intro W base args ds gs before hval0 hW hcnd _
 have hval:∀ (j:Nat) t v,Tryz.f10.params[j]?=some t→args[j]?=some v→Value.okWide Tryz.prog W .any base t v:=hval0
 have hW':=hW
 obtain ⟨p,q,hA0,hV,rfl,hfz,hnd⟩:=hW
 have hA:DataW.TrodAll enc Tryz.prog W 0 (fun _=>true) true Tryz.f10.params.toList args.toList ds p:=hA0
 rw [Tryz.params10] at hA hval
 obtain ⟨v0,v1,d0,d1,p0,p1,rfl,rfl,rfl,h0,h1⟩:=trodAll_two hA
 obtain ⟨rfl,rfl⟩:=trodVars_none hV
 obtain ⟨f,vs,r,ws,vw,rfl,x0,x1,x2⟩:=open_text (hval 0 29 v0 rfl rfl) h0
 obtain ⟨l1,y1⟩:=open_l (hval 1 34 v1 rfl rfl) h1
 clear hA0 hval0
 refine (labels_any f vs r ws vw l1 v1 W x0 x1 x2 y1).mono fun e W' ⟨he,hw⟩=>?_
 subst he
 exact ⟨_,rfl,law_post Tryz.laidOut rfl (by kernel_rfl) Tryz.underlying4 (by kernel_rfl) rfl hW' hw⟩
theorem paragraphLabels_closed:joinedFacts Tryz.pinned.checked.prog 10 Tryz.f10 Rows.paragraphLabelsSpec Rows.paragraphLabelsRow=true:=by
 unfold joinedFacts
 refine band (band (band (band (band (band (band (band (band (band (band (band (band (band (band (band (band (band (band (band (band (band (band (band (band (band (band (band (band (band (band ?_ jf_laid) jf_maps) ?_) ?_) ?_) ?_) ?_) ?_) ?_) ?_) ?_) ?_) ?_) ?_) ?_) ?_) ?_) ?_) ?_) ?_) ?_) ?_) ?_) jf_heard) jf_enter) ?_) ?_) ?_) ?_) ?_) ?_
 all_goals (as_aux_lemma=>kernel_rfl)
theorem paragraphLabels_holds:Rows.ParagraphLabelsSaid:=
 OpenClaim.holds_of_wide 10 Tryz.f10 rfl rfl rfl rfl rfl rfl rfl ⟨rfl,rfl,rfl,rfl,rfl⟩ rfl rfl rfl rfl rfl (by kernel_rfl) Tryz.func10 paragraphLabels_closed
  (of_decide_eq_true (by kernel_rfl)) (by unfold Func.isWrapper;first | (rw [if_pos (by decide +kernel)];kernel_rfl) | (rw [if_neg (by decide +kernel)];exact ⟨rfl,rfl⟩))
  (fun os started H enc _=>paragraphLabels_lifted os started H enc)
#print axioms paragraphLabels_holds
end Go.Proofs.YtbnganlfelgogaaGreat
