/- The facts of the program that every row of this seat asks for, one by one. -/
import Derived.Test.YtbnganlfelgogaaGreatRows
import Derived.Test.YtbnganlfelgogaaGreatChecked
import Derived.JoinedOf
import Derived.ProofKit
import Derived.ChangeOld
namespace Go.Proofs.YtbnganlfelgogaaGreat
set_option linter.unusedSimpArgs false
set_option linter.unusedVariables false
open Go.ChangeShapes Go.WideShapes Go.ChangeAt
theorem band {a b : Bool} (h1 : a = true) (h2 : b = true) : (a && b) = true := by rw [h1, h2]; rfl
theorem jf_laid : laidOutB Tryz.pinned.checked.prog = true := by kernel_rfl
theorem jf_maps : mapsRowed Tryz.pinned.checked.prog = true := by kernel_rfl
theorem jf_heard : Tryz.pinned.checked.prog.stopsHeard = true := by kernel_rfl
theorem jf_enter : Tryz.pinned.checked.prog.mayEnter = true := by kernel_rfl
set_option maxRecDepth 100000 in
set_option maxHeartbeats 40000000 in
theorem paragraphDearer_closed : joinedFacts Tryz.pinned.checked.prog 3 Tryz.f3 Rows.paragraphDearerSpec Rows.paragraphDearerRow = true := by
  unfold joinedFacts
  refine band (band (band (band (band (band (band (band (band (band (band (band (band (band (band (band (band (band (band (band (band (band (band (band (band (band (band (band (band (band (band ?_ jf_laid) jf_maps) ?_) ?_) ?_) ?_) ?_) ?_) ?_) ?_) ?_) ?_) ?_) ?_) ?_) ?_) ?_) ?_) ?_) ?_) ?_) ?_) ?_) jf_heard) jf_enter) ?_) ?_) ?_) ?_) ?_) ?_
  all_goals (as_aux_lemma => kernel_rfl)
end Go.Proofs.YtbnganlfelgogaaGreat
