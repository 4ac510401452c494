/-
  No cell of these rows narrows 'for every input' (looked for: loops, veiled, ifaces, maps, wideKeys, modest, calm, conditions, laid).
  DERIVED. THE GIVEN ROWS OF THIS SEAT. 15 by the template 'for every input the law returns true; each argument reads behind the call as it read before'; 0 by the template 'total and deterministic' (their statements: YtlfeoofchebbkaaTotals.lean).
  GIVEN WITH THE SEED: the statements are not yours to turn. If you find one false, say at which input.
  Laid BY PROGRAM, IN A SANDBOX (cutbox-rows.mjs): the forced cells as the released guide's own fill.sh prints them over the translation 24622960ffb6ad6a… (all of the seat's roots in one cut). By AI agents, Wed Nov 11 2026. No macro, syntax, notation, axiom, sorry.
-/
import Derived.Test.YtlfeoofchebbkaaChecked
import GoSem.Claim
import GoSem.ClaimJoined
import GoSem.ClaimMapViews
import Derived.JoinedTies
import Derived.KernelRfl
namespace Go.Proofs.Ytlfeoofchebbkaa
/- THE CELL 'sum', in the pinned program and in every row, IS THE sha256 OF THE DUMP (.gsa) THAT YtlfeoofchebbkaaProg.lean LOADS. Nothing in Lean hashes anything: it is a label: what it is worth is what the hold of that sum in a sandbox is worth. -/
noncomputable def Try.pinned : Pinned := { name := "ytlfeoofchebbkaa", sum := "24622960ffb6ad6a3ba9c27404e9af702bdf6ab22a5523c3e6f856da2731be74", checked := Try.checked }
namespace Rows
def none {H : Type} : Left H := { results := [], args := [] }

/-- 'tympanlaw07.FormeFillings': WHATEVER THE INPUT: true; the input reads as it did. -/
def formeFillingsSpec : ChangeSpec := { name := "formeFillings", fn := fun _ => fun
  | [d1, d2, d3] => { results := [.lit (.bool true)], args := [d1, d2, d3] }
  | _ => none }
def formeFillingsRow : OpenClaim := { program := "ytlfeoofchebbkaa", sum := "24622960ffb6ad6a3ba9c27404e9af702bdf6ab22a5523c3e6f856da2731be74", func := "tympan/tympanlaw07.FormeFillings", spec := "formeFillings", unfollowed := true, recurses := true, plainKeys := false, apart := false }
def FormeFillingsSaid : Prop := formeFillingsRow.holds Try.pinned (OpenSpec.ofChange formeFillingsSpec)

/-- ITS FALSE NEIGHBOUR: 'it returns false'. Refute it at one input. -/
def formeFillingsWrong : ChangeSpec := { name := "formeFillings", fn := fun _ => fun
  | [d1, d2, d3] => { results := [.lit (.bool false)], args := [d1, d2, d3] }
  | _ => none }
def FormeFillingsWrongFalsely : Prop := formeFillingsRow.holds Try.pinned (OpenSpec.ofChange formeFillingsWrong)

/-- 'tympanlaw07.FormeReals': WHATEVER THE INPUT: true; the input reads as it did. -/
def formeRealsSpec : ChangeSpec := { name := "formeReals", fn := fun _ => fun
  | [d1, d2] => { results := [.lit (.bool true)], args := [d1, d2] }
  | _ => none }
def formeRealsRow : OpenClaim := { program := "ytlfeoofchebbkaa", sum := "24622960ffb6ad6a3ba9c27404e9af702bdf6ab22a5523c3e6f856da2731be74", func := "tympan/tympanlaw07.FormeReals", spec := "formeReals", unfollowed := true, recurses := true, plainKeys := false, apart := false }
def FormeRealsSaid : Prop := formeRealsRow.holds Try.pinned (OpenSpec.ofChange formeRealsSpec)

/-- ITS FALSE NEIGHBOUR: 'it returns false'. Refute it at one input. -/
def formeRealsWrong : ChangeSpec := { name := "formeReals", fn := fun _ => fun
  | [d1, d2] => { results := [.lit (.bool false)], args := [d1, d2] }
  | _ => none }
def FormeRealsWrongFalsely : Prop := formeRealsRow.holds Try.pinned (OpenSpec.ofChange formeRealsWrong)

/-- 'tympanlaw07.FormeHolds': WHATEVER THE INPUT: true; the input reads as it did. -/
def formeHoldsSpec : ChangeSpec := { name := "formeHolds", fn := fun _ => fun
  | [d1, d2] => { results := [.lit (.bool true)], args := [d1, d2] }
  | _ => none }
def formeHoldsRow : OpenClaim := { program := "ytlfeoofchebbkaa", sum := "24622960ffb6ad6a3ba9c27404e9af702bdf6ab22a5523c3e6f856da2731be74", func := "tympan/tympanlaw07.FormeHolds", spec := "formeHolds", unfollowed := true, recurses := true, plainKeys := false, apart := false }
def FormeHoldsSaid : Prop := formeHoldsRow.holds Try.pinned (OpenSpec.ofChange formeHoldsSpec)

/-- ITS FALSE NEIGHBOUR: 'it returns false'. Refute it at one input. -/
def formeHoldsWrong : ChangeSpec := { name := "formeHolds", fn := fun _ => fun
  | [d1, d2] => { results := [.lit (.bool false)], args := [d1, d2] }
  | _ => none }
def FormeHoldsWrongFalsely : Prop := formeHoldsRow.holds Try.pinned (OpenSpec.ofChange formeHoldsWrong)

/-- 'tympanlaw07.FormeChecks': WHATEVER THE INPUT: true; the input reads as it did. -/
def formeChecksSpec : ChangeSpec := { name := "formeChecks", fn := fun _ => fun
  | [d] => { results := [.lit (.bool true)], args := [d] }
  | _ => none }
def formeChecksRow : OpenClaim := { program := "ytlfeoofchebbkaa", sum := "24622960ffb6ad6a3ba9c27404e9af702bdf6ab22a5523c3e6f856da2731be74", func := "tympan/tympanlaw07.FormeChecks", spec := "formeChecks", unfollowed := true, recurses := true, plainKeys := false, apart := false }
def FormeChecksSaid : Prop := formeChecksRow.holds Try.pinned (OpenSpec.ofChange formeChecksSpec)

/-- ITS FALSE NEIGHBOUR: 'it returns false'. Refute it at one input. -/
def formeChecksWrong : ChangeSpec := { name := "formeChecks", fn := fun _ => fun
  | [d] => { results := [.lit (.bool false)], args := [d] }
  | _ => none }
def FormeChecksWrongFalsely : Prop := formeChecksRow.holds Try.pinned (OpenSpec.ofChange formeChecksWrong)

/-- 'tympanlaw07.FormeDrives': WHATEVER THE INPUT: true; the input reads as it did. -/
def formeDrivesSpec : ChangeSpec := { name := "formeDrives", fn := fun _ => fun
  | [d1, d2] => { results := [.lit (.bool true)], args := [d1, d2] }
  | _ => none }
def formeDrivesRow : OpenClaim := { program := "ytlfeoofchebbkaa", sum := "24622960ffb6ad6a3ba9c27404e9af702bdf6ab22a5523c3e6f856da2731be74", func := "tympan/tympanlaw07.FormeDrives", spec := "formeDrives", unfollowed := true, recurses := true, plainKeys := false, apart := false }
def FormeDrivesSaid : Prop := formeDrivesRow.holds Try.pinned (OpenSpec.ofChange formeDrivesSpec)

/-- ITS FALSE NEIGHBOUR: 'it returns false'. Refute it at one input. -/
def formeDrivesWrong : ChangeSpec := { name := "formeDrives", fn := fun _ => fun
  | [d1, d2] => { results := [.lit (.bool false)], args := [d1, d2] }
  | _ => none }
def FormeDrivesWrongFalsely : Prop := formeDrivesRow.holds Try.pinned (OpenSpec.ofChange formeDrivesWrong)

/-- 'tympanlaw07.FormeLocked': WHATEVER THE INPUT: true; the input reads as it did. -/
def formeLockedSpec : ChangeSpec := { name := "formeLocked", fn := fun _ => fun
  | [d1, d2] => { results := [.lit (.bool true)], args := [d1, d2] }
  | _ => none }
def formeLockedRow : OpenClaim := { program := "ytlfeoofchebbkaa", sum := "24622960ffb6ad6a3ba9c27404e9af702bdf6ab22a5523c3e6f856da2731be74", func := "tympan/tympanlaw07.FormeLocked", spec := "formeLocked", unfollowed := true, recurses := true, plainKeys := false, apart := false }
def FormeLockedSaid : Prop := formeLockedRow.holds Try.pinned (OpenSpec.ofChange formeLockedSpec)

/-- ITS FALSE NEIGHBOUR: 'it returns false'. Refute it at one input. -/
def formeLockedWrong : ChangeSpec := { name := "formeLocked", fn := fun _ => fun
  | [d1, d2] => { results := [.lit (.bool false)], args := [d1, d2] }
  | _ => none }
def FormeLockedWrongFalsely : Prop := formeLockedRow.holds Try.pinned (OpenSpec.ofChange formeLockedWrong)

/-- 'tympanlaw07.FormeChains': WHATEVER THE INPUT: true; the input reads as it did. -/
def formeChainsSpec : ChangeSpec := { name := "formeChains", fn := fun _ => fun
  | [d1, d2, d3] => { results := [.lit (.bool true)], args := [d1, d2, d3] }
  | _ => none }
def formeChainsRow : OpenClaim := { program := "ytlfeoofchebbkaa", sum := "24622960ffb6ad6a3ba9c27404e9af702bdf6ab22a5523c3e6f856da2731be74", func := "tympan/tympanlaw07.FormeChains", spec := "formeChains", unfollowed := true, recurses := true, plainKeys := false, apart := false }
def FormeChainsSaid : Prop := formeChainsRow.holds Try.pinned (OpenSpec.ofChange formeChainsSpec)

/-- ITS FALSE NEIGHBOUR: 'it returns false'. Refute it at one input. -/
def formeChainsWrong : ChangeSpec := { name := "formeChains", fn := fun _ => fun
  | [d1, d2, d3] => { results := [.lit (.bool false)], args := [d1, d2, d3] }
  | _ => none }
def FormeChainsWrongFalsely : Prop := formeChainsRow.holds Try.pinned (OpenSpec.ofChange formeChainsWrong)

/-- 'tympanlaw07.FormeFillLabels': WHATEVER THE INPUT: true; the input reads as it did. -/
def formeFillLabelsSpec : ChangeSpec := { name := "formeFillLabels", fn := fun _ => fun
  | [d1, d2, d3] => { results := [.lit (.bool true)], args := [d1, d2, d3] }
  | _ => none }
def formeFillLabelsRow : OpenClaim := { program := "ytlfeoofchebbkaa", sum := "24622960ffb6ad6a3ba9c27404e9af702bdf6ab22a5523c3e6f856da2731be74", func := "tympan/tympanlaw07.FormeFillLabels", spec := "formeFillLabels", unfollowed := true, recurses := true, plainKeys := false, apart := false }
def FormeFillLabelsSaid : Prop := formeFillLabelsRow.holds Try.pinned (OpenSpec.ofChange formeFillLabelsSpec)

/-- ITS FALSE NEIGHBOUR: 'it returns false'. Refute it at one input. -/
def formeFillLabelsWrong : ChangeSpec := { name := "formeFillLabels", fn := fun _ => fun
  | [d1, d2, d3] => { results := [.lit (.bool false)], args := [d1, d2, d3] }
  | _ => none }
def FormeFillLabelsWrongFalsely : Prop := formeFillLabelsRow.holds Try.pinned (OpenSpec.ofChange formeFillLabelsWrong)

/-- 'tympanlaw07.FormeFewer': WHATEVER THE INPUT: true; the input reads as it did. -/
def formeFewerSpec : ChangeSpec := { name := "formeFewer", fn := fun _ => fun
  | [d1, d2, d3] => { results := [.lit (.bool true)], args := [d1, d2, d3] }
  | _ => none }
def formeFewerRow : OpenClaim := { program := "ytlfeoofchebbkaa", sum := "24622960ffb6ad6a3ba9c27404e9af702bdf6ab22a5523c3e6f856da2731be74", func := "tympan/tympanlaw07.FormeFewer", spec := "formeFewer", unfollowed := true, recurses := true, plainKeys := false, apart := false }
def FormeFewerSaid : Prop := formeFewerRow.holds Try.pinned (OpenSpec.ofChange formeFewerSpec)

/-- ITS FALSE NEIGHBOUR: 'it returns false'. Refute it at one input. -/
def formeFewerWrong : ChangeSpec := { name := "formeFewer", fn := fun _ => fun
  | [d1, d2, d3] => { results := [.lit (.bool false)], args := [d1, d2, d3] }
  | _ => none }
def FormeFewerWrongFalsely : Prop := formeFewerRow.holds Try.pinned (OpenSpec.ofChange formeFewerWrong)

/-- 'tympanlaw07.FormeFills': WHATEVER THE INPUT: true; the input reads as it did. -/
def formeFillsSpec : ChangeSpec := { name := "formeFills", fn := fun _ => fun
  | [d1, d2] => { results := [.lit (.bool true)], args := [d1, d2] }
  | _ => none }
def formeFillsRow : OpenClaim := { program := "ytlfeoofchebbkaa", sum := "24622960ffb6ad6a3ba9c27404e9af702bdf6ab22a5523c3e6f856da2731be74", func := "tympan/tympanlaw07.FormeFills", spec := "formeFills", unfollowed := true, recurses := true, plainKeys := false, apart := false }
def FormeFillsSaid : Prop := formeFillsRow.holds Try.pinned (OpenSpec.ofChange formeFillsSpec)

/-- ITS FALSE NEIGHBOUR: 'it returns false'. Refute it at one input. -/
def formeFillsWrong : ChangeSpec := { name := "formeFills", fn := fun _ => fun
  | [d1, d2] => { results := [.lit (.bool false)], args := [d1, d2] }
  | _ => none }
def FormeFillsWrongFalsely : Prop := formeFillsRow.holds Try.pinned (OpenSpec.ofChange formeFillsWrong)

/-- 'tympanlaw07.FormePoints': WHATEVER THE INPUT: true; the input reads as it did. -/
def formePointsSpec : ChangeSpec := { name := "formePoints", fn := fun _ => fun
  | [d1, d2, d3] => { results := [.lit (.bool true)], args := [d1, d2, d3] }
  | _ => none }
def formePointsRow : OpenClaim := { program := "ytlfeoofchebbkaa", sum := "24622960ffb6ad6a3ba9c27404e9af702bdf6ab22a5523c3e6f856da2731be74", func := "tympan/tympanlaw07.FormePoints", spec := "formePoints", unfollowed := true, recurses := true, plainKeys := false, apart := false }
def FormePointsSaid : Prop := formePointsRow.holds Try.pinned (OpenSpec.ofChange formePointsSpec)

/-- ITS FALSE NEIGHBOUR: 'it returns false'. Refute it at one input. -/
def formePointsWrong : ChangeSpec := { name := "formePoints", fn := fun _ => fun
  | [d1, d2, d3] => { results := [.lit (.bool false)], args := [d1, d2, d3] }
  | _ => none }
def FormePointsWrongFalsely : Prop := formePointsRow.holds Try.pinned (OpenSpec.ofChange formePointsWrong)

/-- 'tympanlaw07.FormeFull': WHATEVER THE INPUT: true; the input reads as it did. -/
def formeFullSpec : ChangeSpec := { name := "formeFull", fn := fun _ => fun
  | [d] => { results := [.lit (.bool true)], args := [d] }
  | _ => none }
def formeFullRow : OpenClaim := { program := "ytlfeoofchebbkaa", sum := "24622960ffb6ad6a3ba9c27404e9af702bdf6ab22a5523c3e6f856da2731be74", func := "tympan/tympanlaw07.FormeFull", spec := "formeFull", unfollowed := true, recurses := true, plainKeys := false, apart := false }
def FormeFullSaid : Prop := formeFullRow.holds Try.pinned (OpenSpec.ofChange formeFullSpec)

/-- ITS FALSE NEIGHBOUR: 'it returns false'. Refute it at one input. -/
def formeFullWrong : ChangeSpec := { name := "formeFull", fn := fun _ => fun
  | [d] => { results := [.lit (.bool false)], args := [d] }
  | _ => none }
def FormeFullWrongFalsely : Prop := formeFullRow.holds Try.pinned (OpenSpec.ofChange formeFullWrong)

/-- 'tympanlaw07.FormeTurns': WHATEVER THE INPUT: true; the input reads as it did. -/
def formeTurnsSpec : ChangeSpec := { name := "formeTurns", fn := fun _ => fun
  | [d] => { results := [.lit (.bool true)], args := [d] }
  | _ => none }
def formeTurnsRow : OpenClaim := { program := "ytlfeoofchebbkaa", sum := "24622960ffb6ad6a3ba9c27404e9af702bdf6ab22a5523c3e6f856da2731be74", func := "tympan/tympanlaw07.FormeTurns", spec := "formeTurns", unfollowed := true, recurses := true, plainKeys := false, apart := false }
def FormeTurnsSaid : Prop := formeTurnsRow.holds Try.pinned (OpenSpec.ofChange formeTurnsSpec)

/-- ITS FALSE NEIGHBOUR: 'it returns false'. Refute it at one input. -/
def formeTurnsWrong : ChangeSpec := { name := "formeTurns", fn := fun _ => fun
  | [d] => { results := [.lit (.bool false)], args := [d] }
  | _ => none }
def FormeTurnsWrongFalsely : Prop := formeTurnsRow.holds Try.pinned (OpenSpec.ofChange formeTurnsWrong)

/-- 'tympantop.TopLocked': WHATEVER THE INPUT: true; the input reads as it did. -/
def topLockedSpec : ChangeSpec := { name := "topLocked", fn := fun _ => fun
  | [d1, d2] => { results := [.lit (.bool true)], args := [d1, d2] }
  | _ => none }
def topLockedRow : OpenClaim := { program := "ytlfeoofchebbkaa", sum := "24622960ffb6ad6a3ba9c27404e9af702bdf6ab22a5523c3e6f856da2731be74", func := "tympan/tympantop.TopLocked", spec := "topLocked", unfollowed := true, recurses := true, plainKeys := false, apart := false }
def TopLockedSaid : Prop := topLockedRow.holds Try.pinned (OpenSpec.ofChange topLockedSpec)

/-- ITS FALSE NEIGHBOUR: 'it returns false'. Refute it at one input. -/
def topLockedWrong : ChangeSpec := { name := "topLocked", fn := fun _ => fun
  | [d1, d2] => { results := [.lit (.bool false)], args := [d1, d2] }
  | _ => none }
def TopLockedWrongFalsely : Prop := topLockedRow.holds Try.pinned (OpenSpec.ofChange topLockedWrong)

/-- 'tympantop.TopGapFilled': WHATEVER THE INPUT: true; the input reads as it did. -/
def topGapFilledSpec : ChangeSpec := { name := "topGapFilled", fn := fun _ => fun
  | [d1, d2, d3] => { results := [.lit (.bool true)], args := [d1, d2, d3] }
  | _ => none }
def topGapFilledRow : OpenClaim := { program := "ytlfeoofchebbkaa", sum := "24622960ffb6ad6a3ba9c27404e9af702bdf6ab22a5523c3e6f856da2731be74", func := "tympan/tympantop.TopGapFilled", spec := "topGapFilled", unfollowed := true, recurses := true, plainKeys := false, apart := false }
def TopGapFilledSaid : Prop := topGapFilledRow.holds Try.pinned (OpenSpec.ofChange topGapFilledSpec)

/-- ITS FALSE NEIGHBOUR: 'it returns false'. Refute it at one input. -/
def topGapFilledWrong : ChangeSpec := { name := "topGapFilled", fn := fun _ => fun
  | [d1, d2, d3] => { results := [.lit (.bool false)], args := [d1, d2, d3] }
  | _ => none }
def TopGapFilledWrongFalsely : Prop := topGapFilledRow.holds Try.pinned (OpenSpec.ofChange topGapFilledWrong)

/- THE SECOND FORM. 'bulk': how many values and letters a reading holds, each counted each time it is reached (what is shared counts as often as it is met; a slice's spare places count too). A statement '..UptoSaid' is the law's where the arguments, and the package variables that the reading takes, are together of bulk at most 1048576: NARROWER than '..Said'. Prove '..Said' where nothing that the law and all that it calls make is longer than what came in: it says more and counts as full. Else prove '..UptoSaid'. A law counts once. -/
mutual
def uptoBulk {H : Type} : DataW H → Nat
  | .lit (.string bytes) => bytes.length + 1
  | .lit _ => 1
  | .nil => 1
  | .ptr d => uptoBulk d + 1
  | .slice elems spare => uptoBulkAll elems + uptoBulkAll spare + 1
  | .agg parts => uptoBulkAll parts + 1
  | .iface _ d => uptoBulk d + 1
  | .map entries => uptoBulkEntries entries + 1
  | .held _ => 1
def uptoBulkAll {H : Type} : List (DataW H) → Nat
  | [] => 0
  | d :: r => uptoBulk d + uptoBulkAll r
def uptoBulkEntries {H : Type} : List (Lit × DataW H) → Nat
  | [] => 0
  | x :: r => uptoBulkEntry x + uptoBulkEntries r
def uptoBulkEntry {H : Type} : Lit × DataW H → Nat
  | (.string bytes, d) => bytes.length + uptoBulk d + 1
  | (_, d) => uptoBulk d + 1
 end
def uptoSmall : (H : Type) → List (DataW H) → Bool := fun _ ds => decide (uptoBulkAll ds ≤ 1048576)
def OpenSpec.upto (s : _root_.Go.ChangeSpec) : _root_.Go.OpenSpec := { _root_.Go.OpenSpec.ofChange s with cond := some uptoSmall }

/-- 'tympanlaw07.FormeFillings', WHERE WHAT IT READS IS OF BULK AT MOST 1048576: true; the input reads as it did. -/
def formeFillingsUptoRow : OpenClaim := { program := "ytlfeoofchebbkaa", sum := "24622960ffb6ad6a3ba9c27404e9af702bdf6ab22a5523c3e6f856da2731be74", func := "tympan/tympanlaw07.FormeFillings", spec := "formeFillings", unfollowed := true, recurses := true, plainKeys := false, apart := false, narrowed := true }
def FormeFillingsUptoSaid : Prop := formeFillingsUptoRow.holds Try.pinned (OpenSpec.upto formeFillingsSpec)

/-- 'tympanlaw07.FormeReals', WHERE WHAT IT READS IS OF BULK AT MOST 1048576: true; the input reads as it did. -/
def formeRealsUptoRow : OpenClaim := { program := "ytlfeoofchebbkaa", sum := "24622960ffb6ad6a3ba9c27404e9af702bdf6ab22a5523c3e6f856da2731be74", func := "tympan/tympanlaw07.FormeReals", spec := "formeReals", unfollowed := true, recurses := true, plainKeys := false, apart := false, narrowed := true }
def FormeRealsUptoSaid : Prop := formeRealsUptoRow.holds Try.pinned (OpenSpec.upto formeRealsSpec)

/-- 'tympanlaw07.FormeHolds', WHERE WHAT IT READS IS OF BULK AT MOST 1048576: true; the input reads as it did. -/
def formeHoldsUptoRow : OpenClaim := { program := "ytlfeoofchebbkaa", sum := "24622960ffb6ad6a3ba9c27404e9af702bdf6ab22a5523c3e6f856da2731be74", func := "tympan/tympanlaw07.FormeHolds", spec := "formeHolds", unfollowed := true, recurses := true, plainKeys := false, apart := false, narrowed := true }
def FormeHoldsUptoSaid : Prop := formeHoldsUptoRow.holds Try.pinned (OpenSpec.upto formeHoldsSpec)

/-- 'tympanlaw07.FormeChecks', WHERE WHAT IT READS IS OF BULK AT MOST 1048576: true; the input reads as it did. -/
def formeChecksUptoRow : OpenClaim := { program := "ytlfeoofchebbkaa", sum := "24622960ffb6ad6a3ba9c27404e9af702bdf6ab22a5523c3e6f856da2731be74", func := "tympan/tympanlaw07.FormeChecks", spec := "formeChecks", unfollowed := true, recurses := true, plainKeys := false, apart := false, narrowed := true }
def FormeChecksUptoSaid : Prop := formeChecksUptoRow.holds Try.pinned (OpenSpec.upto formeChecksSpec)

/-- 'tympanlaw07.FormeDrives', WHERE WHAT IT READS IS OF BULK AT MOST 1048576: true; the input reads as it did. -/
def formeDrivesUptoRow : OpenClaim := { program := "ytlfeoofchebbkaa", sum := "24622960ffb6ad6a3ba9c27404e9af702bdf6ab22a5523c3e6f856da2731be74", func := "tympan/tympanlaw07.FormeDrives", spec := "formeDrives", unfollowed := true, recurses := true, plainKeys := false, apart := false, narrowed := true }
def FormeDrivesUptoSaid : Prop := formeDrivesUptoRow.holds Try.pinned (OpenSpec.upto formeDrivesSpec)

/-- 'tympanlaw07.FormeLocked', WHERE WHAT IT READS IS OF BULK AT MOST 1048576: true; the input reads as it did. -/
def formeLockedUptoRow : OpenClaim := { program := "ytlfeoofchebbkaa", sum := "24622960ffb6ad6a3ba9c27404e9af702bdf6ab22a5523c3e6f856da2731be74", func := "tympan/tympanlaw07.FormeLocked", spec := "formeLocked", unfollowed := true, recurses := true, plainKeys := false, apart := false, narrowed := true }
def FormeLockedUptoSaid : Prop := formeLockedUptoRow.holds Try.pinned (OpenSpec.upto formeLockedSpec)

/-- 'tympanlaw07.FormeChains', WHERE WHAT IT READS IS OF BULK AT MOST 1048576: true; the input reads as it did. -/
def formeChainsUptoRow : OpenClaim := { program := "ytlfeoofchebbkaa", sum := "24622960ffb6ad6a3ba9c27404e9af702bdf6ab22a5523c3e6f856da2731be74", func := "tympan/tympanlaw07.FormeChains", spec := "formeChains", unfollowed := true, recurses := true, plainKeys := false, apart := false, narrowed := true }
def FormeChainsUptoSaid : Prop := formeChainsUptoRow.holds Try.pinned (OpenSpec.upto formeChainsSpec)

/-- 'tympanlaw07.FormeFillLabels', WHERE WHAT IT READS IS OF BULK AT MOST 1048576: true; the input reads as it did. -/
def formeFillLabelsUptoRow : OpenClaim := { program := "ytlfeoofchebbkaa", sum := "24622960ffb6ad6a3ba9c27404e9af702bdf6ab22a5523c3e6f856da2731be74", func := "tympan/tympanlaw07.FormeFillLabels", spec := "formeFillLabels", unfollowed := true, recurses := true, plainKeys := false, apart := false, narrowed := true }
def FormeFillLabelsUptoSaid : Prop := formeFillLabelsUptoRow.holds Try.pinned (OpenSpec.upto formeFillLabelsSpec)

/-- 'tympanlaw07.FormeFewer', WHERE WHAT IT READS IS OF BULK AT MOST 1048576: true; the input reads as it did. -/
def formeFewerUptoRow : OpenClaim := { program := "ytlfeoofchebbkaa", sum := "24622960ffb6ad6a3ba9c27404e9af702bdf6ab22a5523c3e6f856da2731be74", func := "tympan/tympanlaw07.FormeFewer", spec := "formeFewer", unfollowed := true, recurses := true, plainKeys := false, apart := false, narrowed := true }
def FormeFewerUptoSaid : Prop := formeFewerUptoRow.holds Try.pinned (OpenSpec.upto formeFewerSpec)

/-- 'tympanlaw07.FormeFills', WHERE WHAT IT READS IS OF BULK AT MOST 1048576: true; the input reads as it did. -/
def formeFillsUptoRow : OpenClaim := { program := "ytlfeoofchebbkaa", sum := "24622960ffb6ad6a3ba9c27404e9af702bdf6ab22a5523c3e6f856da2731be74", func := "tympan/tympanlaw07.FormeFills", spec := "formeFills", unfollowed := true, recurses := true, plainKeys := false, apart := false, narrowed := true }
def FormeFillsUptoSaid : Prop := formeFillsUptoRow.holds Try.pinned (OpenSpec.upto formeFillsSpec)

/-- 'tympanlaw07.FormePoints', WHERE WHAT IT READS IS OF BULK AT MOST 1048576: true; the input reads as it did. -/
def formePointsUptoRow : OpenClaim := { program := "ytlfeoofchebbkaa", sum := "24622960ffb6ad6a3ba9c27404e9af702bdf6ab22a5523c3e6f856da2731be74", func := "tympan/tympanlaw07.FormePoints", spec := "formePoints", unfollowed := true, recurses := true, plainKeys := false, apart := false, narrowed := true }
def FormePointsUptoSaid : Prop := formePointsUptoRow.holds Try.pinned (OpenSpec.upto formePointsSpec)

/-- 'tympanlaw07.FormeFull', WHERE WHAT IT READS IS OF BULK AT MOST 1048576: true; the input reads as it did. -/
def formeFullUptoRow : OpenClaim := { program := "ytlfeoofchebbkaa", sum := "24622960ffb6ad6a3ba9c27404e9af702bdf6ab22a5523c3e6f856da2731be74", func := "tympan/tympanlaw07.FormeFull", spec := "formeFull", unfollowed := true, recurses := true, plainKeys := false, apart := false, narrowed := true }
def FormeFullUptoSaid : Prop := formeFullUptoRow.holds Try.pinned (OpenSpec.upto formeFullSpec)

/-- 'tympanlaw07.FormeTurns', WHERE WHAT IT READS IS OF BULK AT MOST 1048576: true; the input reads as it did. -/
def formeTurnsUptoRow : OpenClaim := { program := "ytlfeoofchebbkaa", sum := "24622960ffb6ad6a3ba9c27404e9af702bdf6ab22a5523c3e6f856da2731be74", func := "tympan/tympanlaw07.FormeTurns", spec := "formeTurns", unfollowed := true, recurses := true, plainKeys := false, apart := false, narrowed := true }
def FormeTurnsUptoSaid : Prop := formeTurnsUptoRow.holds Try.pinned (OpenSpec.upto formeTurnsSpec)

/-- 'tympantop.TopLocked', WHERE WHAT IT READS IS OF BULK AT MOST 1048576: true; the input reads as it did. -/
def topLockedUptoRow : OpenClaim := { program := "ytlfeoofchebbkaa", sum := "24622960ffb6ad6a3ba9c27404e9af702bdf6ab22a5523c3e6f856da2731be74", func := "tympan/tympantop.TopLocked", spec := "topLocked", unfollowed := true, recurses := true, plainKeys := false, apart := false, narrowed := true }
def TopLockedUptoSaid : Prop := topLockedUptoRow.holds Try.pinned (OpenSpec.upto topLockedSpec)

/-- 'tympantop.TopGapFilled', WHERE WHAT IT READS IS OF BULK AT MOST 1048576: true; the input reads as it did. -/
def topGapFilledUptoRow : OpenClaim := { program := "ytlfeoofchebbkaa", sum := "24622960ffb6ad6a3ba9c27404e9af702bdf6ab22a5523c3e6f856da2731be74", func := "tympan/tympantop.TopGapFilled", spec := "topGapFilled", unfollowed := true, recurses := true, plainKeys := false, apart := false, narrowed := true }
def TopGapFilledUptoSaid : Prop := topGapFilledUptoRow.holds Try.pinned (OpenSpec.upto topGapFilledSpec)

end Rows
end Go.Proofs.Ytlfeoofchebbkaa
