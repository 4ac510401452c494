/- ParagraphCounts returns true for every input; the arguments read as they did. -/
import Derived.Test.YtbnganlfelgogaaGreatVOpq
import Derived.Test.YtbnganlfelgogaaGreatVCts
set_option linter.unusedSimpArgs false
set_option linter.unusedVariables false
set_option maxRecDepth 100000
set_option maxHeartbeats 40000000
namespace Go.Proofs.YtbnganlfelgogaaGreat
open Go.ChangeShapes Go.WideShapes Go.ChangeAt Go.RowKit Go.Deep Go.Joins
theorem paragraphCounts_lifted (os:Os) (started:os.Started) (H:Type) (enc:TypeId × Value→H) :
 ReturnsInHanded {} Tryz.checked os 15 .any (Rows.paragraphCountsSpec.pre6 enc Tryz.prog Tryz.f15 Rows.paragraphCountsRow.domain false) (Rows.paragraphCountsSpec.post enc Tryz.prog Tryz.f15 false true false false):=by
 refine returnsInHanded_of_change (C:=Tryz.checked) Tryz.own started (by kernel_rfl) Tryz.func15
  (ChangeSpec.witness6 (enc:=enc) (C:=Tryz.checked) false ⟨#[],#[.agg #[.string ⟨#[]⟩,.int .i64 0,.slice none 0 0,.int .i64 0,.int .i64 0,.int .i64 0,.int .i64 0,.int .i64 0,.int .i64 0,.int .i64 0,.int .i64 0,.slice none 0 0],.int .i64 0],[]⟩ 8 (by kernel_rfl) (by kernel_rfl) (by kernel_rfl) (by kernel_rfl)) ?_
 intro W base args ds gs before hval0 hW hcnd _
 have hval:∀ (j:Nat) t v,Tryz.f15.params[j]?=some t→args[j]?=some v→Value.okWide Tryz.prog W .any base t v:=hval0
 have hW':=hW
 obtain ⟨p,q,hA0,hV,rfl,hfz,hnd⟩:=hW
 have hA:DataW.TrodAll enc Tryz.prog W 0 (fun _=>true) true Tryz.f15.params.toList args.toList ds p:=hA0
 rw [Tryz.params15] at hA hval
 obtain ⟨v0,v1,d0,d1,p0,p1,rfl,rfl,rfl,h0,h1⟩:=trodAll_two hA
 obtain ⟨rfl,rfl⟩:=trodVars_none hV
 obtain ⟨f,vs,r,ws,vw,rfl,x0,x1,x2⟩:=open_text (hval 0 29 v0 rfl rfl) h0
 obtain ⟨s1,hs1⟩:∃ s,v1=.int .i64 s:=okWide_int Tryz.underlying3 (hval 1 3 v1 rfl rfl)
 subst hs1
 clear hA0 hval0
 refine (counts_any f vs r ws vw s1  W x0 x1 x2).mono fun e W' ⟨he,hw⟩=>?_
 subst he
 exact ⟨_,rfl,law_post Tryz.laidOut rfl (by kernel_rfl) Tryz.underlying4 (by kernel_rfl) rfl hW' hw⟩
theorem paragraphCounts_closed:joinedFacts Tryz.pinned.checked.prog 15 Tryz.f15 Rows.paragraphCountsSpec Rows.paragraphCountsRow=true:=by
 unfold joinedFacts
 refine band (band (band (band (band (band (band (band (band (band (band (band (band (band (band (band (band (band (band (band (band (band (band (band (band (band (band (band (band (band (band ?_ jf_laid) jf_maps) ?_) ?_) ?_) ?_) ?_) ?_) ?_) ?_) ?_) ?_) ?_) ?_) ?_) ?_) ?_) ?_) ?_) ?_) ?_) ?_) ?_) jf_heard) jf_enter) ?_) ?_) ?_) ?_) ?_) ?_
 all_goals (as_aux_lemma=>kernel_rfl)
theorem paragraphCounts_holds:Rows.ParagraphCountsSaid:=
 OpenClaim.holds_of_wide 15 Tryz.f15 rfl rfl rfl rfl rfl rfl rfl ⟨rfl,rfl,rfl,rfl,rfl⟩ rfl rfl rfl rfl rfl (by kernel_rfl) Tryz.func15 paragraphCounts_closed
  (of_decide_eq_true (by kernel_rfl)) (by unfold Func.isWrapper;first | (rw [if_pos (by decide +kernel)];kernel_rfl) | (rw [if_neg (by decide +kernel)];exact ⟨rfl,rfl⟩))
  (fun os started H enc _=>paragraphCounts_lifted os started H enc)
#print axioms paragraphCounts_holds
end Go.Proofs.YtbnganlfelgogaaGreat
