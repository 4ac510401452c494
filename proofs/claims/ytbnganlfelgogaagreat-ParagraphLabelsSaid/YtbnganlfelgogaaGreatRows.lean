/-
  No cell of these rows narrows 'for every input' (looked for: loops, veiled, ifaces, maps, wideKeys, modest, calm, conditions, laid).
  DERIVED. THE GIVEN ROWS OF THIS SEAT. 14 by the template 'for every input the law returns true; each argument reads behind the call as it read before'; 0 by the template 'total and deterministic' (their statements: YtbnganlfelgogaaGreatTotals.lean).
  GIVEN WITH THE SEED: the statements are not yours to turn. If you find one false, say at which input.
  Laid BY PROGRAM, IN A SANDBOX (cutbox-rows.mjs): the forced cells as the released guide's own fill.sh prints them over the translation be9faa4548e96c88… (all of the seat's roots in one cut). By AI agents, Wed Nov 11 2026. No macro, syntax, notation, axiom, sorry.
-/
import Derived.Test.YtbnganlfelgogaaGreatChecked
import GoSem.Claim
import GoSem.ClaimJoined
import GoSem.ClaimMapViews
import Derived.JoinedTies
import Derived.KernelRfl
namespace Go.Proofs.YtbnganlfelgogaaGreat
/- THE CELL 'sum', in the pinned program and in every row, IS THE sha256 OF THE DUMP (.gsa) THAT YtbnganlfelgogaaGreatProg.lean LOADS. Nothing in Lean hashes anything: it is a label: what it is worth is what the hold of that sum in a sandbox is worth. -/
noncomputable def Tryz.pinned : Pinned := { name := "ytbnganlfelgogaagreat", sum := "be9faa4548e96c883475420b0b20edd00b6406b027a1af9c14d2f912a0fd7999", checked := Tryz.checked }
namespace Rows
def none {H : Type} : Left H := { results := [], args := [] }

/-- 'tympanlaw04.ParagraphDearer': WHATEVER THE INPUT: true; the input reads as it did. -/
def paragraphDearerSpec : ChangeSpec := { name := "paragraphDearer", fn := fun _ => fun
  | [d1, d2, d3] => { results := [.lit (.bool true)], args := [d1, d2, d3] }
  | _ => none }
def paragraphDearerRow : OpenClaim := { program := "ytbnganlfelgogaagreat", sum := "be9faa4548e96c883475420b0b20edd00b6406b027a1af9c14d2f912a0fd7999", func := "tympan/tympanlaw04.ParagraphDearer", spec := "paragraphDearer", unfollowed := true, recurses := true, plainKeys := false, apart := false }
def ParagraphDearerSaid : Prop := paragraphDearerRow.holds Tryz.pinned (OpenSpec.ofChange paragraphDearerSpec)

/-- ITS FALSE NEIGHBOUR: 'it returns false'. Refute it at one input. -/
def paragraphDearerWrong : ChangeSpec := { name := "paragraphDearer", fn := fun _ => fun
  | [d1, d2, d3] => { results := [.lit (.bool false)], args := [d1, d2, d3] }
  | _ => none }
def ParagraphDearerWrongFalsely : Prop := paragraphDearerRow.holds Tryz.pinned (OpenSpec.ofChange paragraphDearerWrong)

/-- 'tympanlaw04.ParagraphChecks': WHATEVER THE INPUT: true; the input reads as it did. -/
def paragraphChecksSpec : ChangeSpec := { name := "paragraphChecks", fn := fun _ => fun
  | [d1, d2, d3] => { results := [.lit (.bool true)], args := [d1, d2, d3] }
  | _ => none }
def paragraphChecksRow : OpenClaim := { program := "ytbnganlfelgogaagreat", sum := "be9faa4548e96c883475420b0b20edd00b6406b027a1af9c14d2f912a0fd7999", func := "tympan/tympanlaw04.ParagraphChecks", spec := "paragraphChecks", unfollowed := true, recurses := true, plainKeys := false, apart := false }
def ParagraphChecksSaid : Prop := paragraphChecksRow.holds Tryz.pinned (OpenSpec.ofChange paragraphChecksSpec)

/-- ITS FALSE NEIGHBOUR: 'it returns false'. Refute it at one input. -/
def paragraphChecksWrong : ChangeSpec := { name := "paragraphChecks", fn := fun _ => fun
  | [d1, d2, d3] => { results := [.lit (.bool false)], args := [d1, d2, d3] }
  | _ => none }
def ParagraphChecksWrongFalsely : Prop := paragraphChecksRow.holds Tryz.pinned (OpenSpec.ofChange paragraphChecksWrong)

/-- 'tympanlaw04.ParagraphSets': WHATEVER THE INPUT: true; the input reads as it did. -/
def paragraphSetsSpec : ChangeSpec := { name := "paragraphSets", fn := fun _ => fun
  | [d1, d2, d3] => { results := [.lit (.bool true)], args := [d1, d2, d3] }
  | _ => none }
def paragraphSetsRow : OpenClaim := { program := "ytbnganlfelgogaagreat", sum := "be9faa4548e96c883475420b0b20edd00b6406b027a1af9c14d2f912a0fd7999", func := "tympan/tympanlaw04.ParagraphSets", spec := "paragraphSets", unfollowed := true, recurses := true, plainKeys := false, apart := false }
def ParagraphSetsSaid : Prop := paragraphSetsRow.holds Tryz.pinned (OpenSpec.ofChange paragraphSetsSpec)

/-- ITS FALSE NEIGHBOUR: 'it returns false'. Refute it at one input. -/
def paragraphSetsWrong : ChangeSpec := { name := "paragraphSets", fn := fun _ => fun
  | [d1, d2, d3] => { results := [.lit (.bool false)], args := [d1, d2, d3] }
  | _ => none }
def ParagraphSetsWrongFalsely : Prop := paragraphSetsRow.holds Tryz.pinned (OpenSpec.ofChange paragraphSetsWrong)

/-- 'tympanlaw04.ParagraphChecked': WHATEVER THE INPUT: true; the input reads as it did. -/
def paragraphCheckedSpec : ChangeSpec := { name := "paragraphChecked", fn := fun _ => fun
  | [d1, d2] => { results := [.lit (.bool true)], args := [d1, d2] }
  | _ => none }
def paragraphCheckedRow : OpenClaim := { program := "ytbnganlfelgogaagreat", sum := "be9faa4548e96c883475420b0b20edd00b6406b027a1af9c14d2f912a0fd7999", func := "tympan/tympanlaw04.ParagraphChecked", spec := "paragraphChecked", unfollowed := true, recurses := true, plainKeys := false, apart := false }
def ParagraphCheckedSaid : Prop := paragraphCheckedRow.holds Tryz.pinned (OpenSpec.ofChange paragraphCheckedSpec)

/-- ITS FALSE NEIGHBOUR: 'it returns false'. Refute it at one input. -/
def paragraphCheckedWrong : ChangeSpec := { name := "paragraphChecked", fn := fun _ => fun
  | [d1, d2] => { results := [.lit (.bool false)], args := [d1, d2] }
  | _ => none }
def ParagraphCheckedWrongFalsely : Prop := paragraphCheckedRow.holds Tryz.pinned (OpenSpec.ofChange paragraphCheckedWrong)

/-- 'tympanlaw04.ParagraphLacks': WHATEVER THE INPUT: true; the input reads as it did. -/
def paragraphLacksSpec : ChangeSpec := { name := "paragraphLacks", fn := fun _ => fun
  | [d1, d2, d3] => { results := [.lit (.bool true)], args := [d1, d2, d3] }
  | _ => none }
def paragraphLacksRow : OpenClaim := { program := "ytbnganlfelgogaagreat", sum := "be9faa4548e96c883475420b0b20edd00b6406b027a1af9c14d2f912a0fd7999", func := "tympan/tympanlaw04.ParagraphLacks", spec := "paragraphLacks", unfollowed := true, recurses := true, plainKeys := false, apart := false }
def ParagraphLacksSaid : Prop := paragraphLacksRow.holds Tryz.pinned (OpenSpec.ofChange paragraphLacksSpec)

/-- ITS FALSE NEIGHBOUR: 'it returns false'. Refute it at one input. -/
def paragraphLacksWrong : ChangeSpec := { name := "paragraphLacks", fn := fun _ => fun
  | [d1, d2, d3] => { results := [.lit (.bool false)], args := [d1, d2, d3] }
  | _ => none }
def ParagraphLacksWrongFalsely : Prop := paragraphLacksRow.holds Tryz.pinned (OpenSpec.ofChange paragraphLacksWrong)

/-- 'tympanlaw04.ParagraphJoins': WHATEVER THE INPUT: true; the input reads as it did. -/
def paragraphJoinsSpec : ChangeSpec := { name := "paragraphJoins", fn := fun _ => fun
  | [d1, d2, d3] => { results := [.lit (.bool true)], args := [d1, d2, d3] }
  | _ => none }
def paragraphJoinsRow : OpenClaim := { program := "ytbnganlfelgogaagreat", sum := "be9faa4548e96c883475420b0b20edd00b6406b027a1af9c14d2f912a0fd7999", func := "tympan/tympanlaw04.ParagraphJoins", spec := "paragraphJoins", unfollowed := true, recurses := true, plainKeys := false, apart := false }
def ParagraphJoinsSaid : Prop := paragraphJoinsRow.holds Tryz.pinned (OpenSpec.ofChange paragraphJoinsSpec)

/-- ITS FALSE NEIGHBOUR: 'it returns false'. Refute it at one input. -/
def paragraphJoinsWrong : ChangeSpec := { name := "paragraphJoins", fn := fun _ => fun
  | [d1, d2, d3] => { results := [.lit (.bool false)], args := [d1, d2, d3] }
  | _ => none }
def ParagraphJoinsWrongFalsely : Prop := paragraphJoinsRow.holds Tryz.pinned (OpenSpec.ofChange paragraphJoinsWrong)

/-- 'tympanlaw04.ParagraphBest': WHATEVER THE INPUT: true; the input reads as it did. -/
def paragraphBestSpec : ChangeSpec := { name := "paragraphBest", fn := fun _ => fun
  | [d] => { results := [.lit (.bool true)], args := [d] }
  | _ => none }
def paragraphBestRow : OpenClaim := { program := "ytbnganlfelgogaagreat", sum := "be9faa4548e96c883475420b0b20edd00b6406b027a1af9c14d2f912a0fd7999", func := "tympan/tympanlaw04.ParagraphBest", spec := "paragraphBest", unfollowed := true, recurses := true, plainKeys := false, apart := false }
def ParagraphBestSaid : Prop := paragraphBestRow.holds Tryz.pinned (OpenSpec.ofChange paragraphBestSpec)

/-- ITS FALSE NEIGHBOUR: 'it returns false'. Refute it at one input. -/
def paragraphBestWrong : ChangeSpec := { name := "paragraphBest", fn := fun _ => fun
  | [d] => { results := [.lit (.bool false)], args := [d] }
  | _ => none }
def ParagraphBestWrongFalsely : Prop := paragraphBestRow.holds Tryz.pinned (OpenSpec.ofChange paragraphBestWrong)

/-- 'tympanlaw04.ParagraphLabels': WHATEVER THE INPUT: true; the input reads as it did. -/
def paragraphLabelsSpec : ChangeSpec := { name := "paragraphLabels", fn := fun _ => fun
  | [d1, d2] => { results := [.lit (.bool true)], args := [d1, d2] }
  | _ => none }
def paragraphLabelsRow : OpenClaim := { program := "ytbnganlfelgogaagreat", sum := "be9faa4548e96c883475420b0b20edd00b6406b027a1af9c14d2f912a0fd7999", func := "tympan/tympanlaw04.ParagraphLabels", spec := "paragraphLabels", unfollowed := true, recurses := true, plainKeys := false, apart := false }
def ParagraphLabelsSaid : Prop := paragraphLabelsRow.holds Tryz.pinned (OpenSpec.ofChange paragraphLabelsSpec)

/-- ITS FALSE NEIGHBOUR: 'it returns false'. Refute it at one input. -/
def paragraphLabelsWrong : ChangeSpec := { name := "paragraphLabels", fn := fun _ => fun
  | [d1, d2] => { results := [.lit (.bool false)], args := [d1, d2] }
  | _ => none }
def ParagraphLabelsWrongFalsely : Prop := paragraphLabelsRow.holds Tryz.pinned (OpenSpec.ofChange paragraphLabelsWrong)

/-- 'tympanlaw04.ParagraphLines': WHATEVER THE INPUT: true; the input reads as it did. -/
def paragraphLinesSpec : ChangeSpec := { name := "paragraphLines", fn := fun _ => fun
  | [d1, d2] => { results := [.lit (.bool true)], args := [d1, d2] }
  | _ => none }
def paragraphLinesRow : OpenClaim := { program := "ytbnganlfelgogaagreat", sum := "be9faa4548e96c883475420b0b20edd00b6406b027a1af9c14d2f912a0fd7999", func := "tympan/tympanlaw04.ParagraphLines", spec := "paragraphLines", unfollowed := true, recurses := true, plainKeys := false, apart := false }
def ParagraphLinesSaid : Prop := paragraphLinesRow.holds Tryz.pinned (OpenSpec.ofChange paragraphLinesSpec)

/-- ITS FALSE NEIGHBOUR: 'it returns false'. Refute it at one input. -/
def paragraphLinesWrong : ChangeSpec := { name := "paragraphLines", fn := fun _ => fun
  | [d1, d2] => { results := [.lit (.bool false)], args := [d1, d2] }
  | _ => none }
def ParagraphLinesWrongFalsely : Prop := paragraphLinesRow.holds Tryz.pinned (OpenSpec.ofChange paragraphLinesWrong)

/-- 'tympanlaw04.ParagraphGreedy': WHATEVER THE INPUT: true; the input reads as it did. -/
def paragraphGreedySpec : ChangeSpec := { name := "paragraphGreedy", fn := fun _ => fun
  | [d] => { results := [.lit (.bool true)], args := [d] }
  | _ => none }
def paragraphGreedyRow : OpenClaim := { program := "ytbnganlfelgogaagreat", sum := "be9faa4548e96c883475420b0b20edd00b6406b027a1af9c14d2f912a0fd7999", func := "tympan/tympanlaw04.ParagraphGreedy", spec := "paragraphGreedy", unfollowed := true, recurses := true, plainKeys := false, apart := false }
def ParagraphGreedySaid : Prop := paragraphGreedyRow.holds Tryz.pinned (OpenSpec.ofChange paragraphGreedySpec)

/-- ITS FALSE NEIGHBOUR: 'it returns false'. Refute it at one input. -/
def paragraphGreedyWrong : ChangeSpec := { name := "paragraphGreedy", fn := fun _ => fun
  | [d] => { results := [.lit (.bool false)], args := [d] }
  | _ => none }
def ParagraphGreedyWrongFalsely : Prop := paragraphGreedyRow.holds Tryz.pinned (OpenSpec.ofChange paragraphGreedyWrong)

/-- 'tympanlaw04.ParagraphKept': WHATEVER THE INPUT: true; the input reads as it did. -/
def paragraphKeptSpec : ChangeSpec := { name := "paragraphKept", fn := fun _ => fun
  | [d1, d2] => { results := [.lit (.bool true)], args := [d1, d2] }
  | _ => none }
def paragraphKeptRow : OpenClaim := { program := "ytbnganlfelgogaagreat", sum := "be9faa4548e96c883475420b0b20edd00b6406b027a1af9c14d2f912a0fd7999", func := "tympan/tympanlaw04.ParagraphKept", spec := "paragraphKept", unfollowed := true, recurses := true, plainKeys := false, apart := false }
def ParagraphKeptSaid : Prop := paragraphKeptRow.holds Tryz.pinned (OpenSpec.ofChange paragraphKeptSpec)

/-- ITS FALSE NEIGHBOUR: 'it returns false'. Refute it at one input. -/
def paragraphKeptWrong : ChangeSpec := { name := "paragraphKept", fn := fun _ => fun
  | [d1, d2] => { results := [.lit (.bool false)], args := [d1, d2] }
  | _ => none }
def ParagraphKeptWrongFalsely : Prop := paragraphKeptRow.holds Tryz.pinned (OpenSpec.ofChange paragraphKeptWrong)

/-- 'tympanlaw04.ParagraphProves': WHATEVER THE INPUT: true; the input reads as it did. -/
def paragraphProvesSpec : ChangeSpec := { name := "paragraphProves", fn := fun _ => fun
  | [d1, d2, d3] => { results := [.lit (.bool true)], args := [d1, d2, d3] }
  | _ => none }
def paragraphProvesRow : OpenClaim := { program := "ytbnganlfelgogaagreat", sum := "be9faa4548e96c883475420b0b20edd00b6406b027a1af9c14d2f912a0fd7999", func := "tympan/tympanlaw04.ParagraphProves", spec := "paragraphProves", unfollowed := true, recurses := true, plainKeys := false, apart := false }
def ParagraphProvesSaid : Prop := paragraphProvesRow.holds Tryz.pinned (OpenSpec.ofChange paragraphProvesSpec)

/-- ITS FALSE NEIGHBOUR: 'it returns false'. Refute it at one input. -/
def paragraphProvesWrong : ChangeSpec := { name := "paragraphProves", fn := fun _ => fun
  | [d1, d2, d3] => { results := [.lit (.bool false)], args := [d1, d2, d3] }
  | _ => none }
def ParagraphProvesWrongFalsely : Prop := paragraphProvesRow.holds Tryz.pinned (OpenSpec.ofChange paragraphProvesWrong)

/-- 'tympanlaw04.ParagraphCounts': WHATEVER THE INPUT: true; the input reads as it did. -/
def paragraphCountsSpec : ChangeSpec := { name := "paragraphCounts", fn := fun _ => fun
  | [d1, d2] => { results := [.lit (.bool true)], args := [d1, d2] }
  | _ => none }
def paragraphCountsRow : OpenClaim := { program := "ytbnganlfelgogaagreat", sum := "be9faa4548e96c883475420b0b20edd00b6406b027a1af9c14d2f912a0fd7999", func := "tympan/tympanlaw04.ParagraphCounts", spec := "paragraphCounts", unfollowed := true, recurses := true, plainKeys := false, apart := false }
def ParagraphCountsSaid : Prop := paragraphCountsRow.holds Tryz.pinned (OpenSpec.ofChange paragraphCountsSpec)

/-- ITS FALSE NEIGHBOUR: 'it returns false'. Refute it at one input. -/
def paragraphCountsWrong : ChangeSpec := { name := "paragraphCounts", fn := fun _ => fun
  | [d1, d2] => { results := [.lit (.bool false)], args := [d1, d2] }
  | _ => none }
def ParagraphCountsWrongFalsely : Prop := paragraphCountsRow.holds Tryz.pinned (OpenSpec.ofChange paragraphCountsWrong)

/-- 'tympantop.TopParagraphBack': WHATEVER THE INPUT: true; the input reads as it did. -/
def topParagraphBackSpec : ChangeSpec := { name := "topParagraphBack", fn := fun _ => fun
  | [d1, d2] => { results := [.lit (.bool true)], args := [d1, d2] }
  | _ => none }
def topParagraphBackRow : OpenClaim := { program := "ytbnganlfelgogaagreat", sum := "be9faa4548e96c883475420b0b20edd00b6406b027a1af9c14d2f912a0fd7999", func := "tympan/tympantop.TopParagraphBack", spec := "topParagraphBack", unfollowed := true, recurses := true, plainKeys := false, apart := false }
def TopParagraphBackSaid : Prop := topParagraphBackRow.holds Tryz.pinned (OpenSpec.ofChange topParagraphBackSpec)

/-- ITS FALSE NEIGHBOUR: 'it returns false'. Refute it at one input. -/
def topParagraphBackWrong : ChangeSpec := { name := "topParagraphBack", fn := fun _ => fun
  | [d1, d2] => { results := [.lit (.bool false)], args := [d1, d2] }
  | _ => none }
def TopParagraphBackWrongFalsely : Prop := topParagraphBackRow.holds Tryz.pinned (OpenSpec.ofChange topParagraphBackWrong)

/- THE SECOND FORM. 'bulk': how many values and letters a reading holds, each counted each time it is reached (what is shared counts as often as it is met; a slice's spare places count too). A statement '..UptoSaid' is the law's where the arguments, and the package variables that the reading takes, are together of bulk at most 1048576: NARROWER than '..Said'. Prove '..Said' where nothing that the law and all that it calls make is longer than what came in: it says more and counts as full. Else prove '..UptoSaid'. A law counts once. -/
mutual
def uptoBulk {H : Type} : DataW H → Nat
  | .lit (.string bytes) => bytes.length + 1
  | .lit _ => 1
  | .nil => 1
  | .ptr d => uptoBulk d + 1
  | .slice elems spare => uptoBulkAll elems + uptoBulkAll spare + 1
  | .agg parts => uptoBulkAll parts + 1
  | .iface _ d => uptoBulk d + 1
  | .map entries => uptoBulkEntries entries + 1
  | .held _ => 1
def uptoBulkAll {H : Type} : List (DataW H) → Nat
  | [] => 0
  | d :: r => uptoBulk d + uptoBulkAll r
def uptoBulkEntries {H : Type} : List (Lit × DataW H) → Nat
  | [] => 0
  | x :: r => uptoBulkEntry x + uptoBulkEntries r
def uptoBulkEntry {H : Type} : Lit × DataW H → Nat
  | (.string bytes, d) => bytes.length + uptoBulk d + 1
  | (_, d) => uptoBulk d + 1
 end
def uptoSmall : (H : Type) → List (DataW H) → Bool := fun _ ds => decide (uptoBulkAll ds ≤ 1048576)
def OpenSpec.upto (s : _root_.Go.ChangeSpec) : _root_.Go.OpenSpec := { _root_.Go.OpenSpec.ofChange s with cond := some uptoSmall }

/-- 'tympanlaw04.ParagraphDearer', WHERE WHAT IT READS IS OF BULK AT MOST 1048576: true; the input reads as it did. -/
def paragraphDearerUptoRow : OpenClaim := { program := "ytbnganlfelgogaagreat", sum := "be9faa4548e96c883475420b0b20edd00b6406b027a1af9c14d2f912a0fd7999", func := "tympan/tympanlaw04.ParagraphDearer", spec := "paragraphDearer", unfollowed := true, recurses := true, plainKeys := false, apart := false, narrowed := true }
def ParagraphDearerUptoSaid : Prop := paragraphDearerUptoRow.holds Tryz.pinned (OpenSpec.upto paragraphDearerSpec)

/-- 'tympanlaw04.ParagraphChecks', WHERE WHAT IT READS IS OF BULK AT MOST 1048576: true; the input reads as it did. -/
def paragraphChecksUptoRow : OpenClaim := { program := "ytbnganlfelgogaagreat", sum := "be9faa4548e96c883475420b0b20edd00b6406b027a1af9c14d2f912a0fd7999", func := "tympan/tympanlaw04.ParagraphChecks", spec := "paragraphChecks", unfollowed := true, recurses := true, plainKeys := false, apart := false, narrowed := true }
def ParagraphChecksUptoSaid : Prop := paragraphChecksUptoRow.holds Tryz.pinned (OpenSpec.upto paragraphChecksSpec)

/-- 'tympanlaw04.ParagraphSets', WHERE WHAT IT READS IS OF BULK AT MOST 1048576: true; the input reads as it did. -/
def paragraphSetsUptoRow : OpenClaim := { program := "ytbnganlfelgogaagreat", sum := "be9faa4548e96c883475420b0b20edd00b6406b027a1af9c14d2f912a0fd7999", func := "tympan/tympanlaw04.ParagraphSets", spec := "paragraphSets", unfollowed := true, recurses := true, plainKeys := false, apart := false, narrowed := true }
def ParagraphSetsUptoSaid : Prop := paragraphSetsUptoRow.holds Tryz.pinned (OpenSpec.upto paragraphSetsSpec)

/-- 'tympanlaw04.ParagraphChecked', WHERE WHAT IT READS IS OF BULK AT MOST 1048576: true; the input reads as it did. -/
def paragraphCheckedUptoRow : OpenClaim := { program := "ytbnganlfelgogaagreat", sum := "be9faa4548e96c883475420b0b20edd00b6406b027a1af9c14d2f912a0fd7999", func := "tympan/tympanlaw04.ParagraphChecked", spec := "paragraphChecked", unfollowed := true, recurses := true, plainKeys := false, apart := false, narrowed := true }
def ParagraphCheckedUptoSaid : Prop := paragraphCheckedUptoRow.holds Tryz.pinned (OpenSpec.upto paragraphCheckedSpec)

/-- 'tympanlaw04.ParagraphLacks', WHERE WHAT IT READS IS OF BULK AT MOST 1048576: true; the input reads as it did. -/
def paragraphLacksUptoRow : OpenClaim := { program := "ytbnganlfelgogaagreat", sum := "be9faa4548e96c883475420b0b20edd00b6406b027a1af9c14d2f912a0fd7999", func := "tympan/tympanlaw04.ParagraphLacks", spec := "paragraphLacks", unfollowed := true, recurses := true, plainKeys := false, apart := false, narrowed := true }
def ParagraphLacksUptoSaid : Prop := paragraphLacksUptoRow.holds Tryz.pinned (OpenSpec.upto paragraphLacksSpec)

/-- 'tympanlaw04.ParagraphJoins', WHERE WHAT IT READS IS OF BULK AT MOST 1048576: true; the input reads as it did. -/
def paragraphJoinsUptoRow : OpenClaim := { program := "ytbnganlfelgogaagreat", sum := "be9faa4548e96c883475420b0b20edd00b6406b027a1af9c14d2f912a0fd7999", func := "tympan/tympanlaw04.ParagraphJoins", spec := "paragraphJoins", unfollowed := true, recurses := true, plainKeys := false, apart := false, narrowed := true }
def ParagraphJoinsUptoSaid : Prop := paragraphJoinsUptoRow.holds Tryz.pinned (OpenSpec.upto paragraphJoinsSpec)

/-- 'tympanlaw04.ParagraphBest', WHERE WHAT IT READS IS OF BULK AT MOST 1048576: true; the input reads as it did. -/
def paragraphBestUptoRow : OpenClaim := { program := "ytbnganlfelgogaagreat", sum := "be9faa4548e96c883475420b0b20edd00b6406b027a1af9c14d2f912a0fd7999", func := "tympan/tympanlaw04.ParagraphBest", spec := "paragraphBest", unfollowed := true, recurses := true, plainKeys := false, apart := false, narrowed := true }
def ParagraphBestUptoSaid : Prop := paragraphBestUptoRow.holds Tryz.pinned (OpenSpec.upto paragraphBestSpec)

/-- 'tympanlaw04.ParagraphLabels', WHERE WHAT IT READS IS OF BULK AT MOST 1048576: true; the input reads as it did. -/
def paragraphLabelsUptoRow : OpenClaim := { program := "ytbnganlfelgogaagreat", sum := "be9faa4548e96c883475420b0b20edd00b6406b027a1af9c14d2f912a0fd7999", func := "tympan/tympanlaw04.ParagraphLabels", spec := "paragraphLabels", unfollowed := true, recurses := true, plainKeys := false, apart := false, narrowed := true }
def ParagraphLabelsUptoSaid : Prop := paragraphLabelsUptoRow.holds Tryz.pinned (OpenSpec.upto paragraphLabelsSpec)

/-- 'tympanlaw04.ParagraphLines', WHERE WHAT IT READS IS OF BULK AT MOST 1048576: true; the input reads as it did. -/
def paragraphLinesUptoRow : OpenClaim := { program := "ytbnganlfelgogaagreat", sum := "be9faa4548e96c883475420b0b20edd00b6406b027a1af9c14d2f912a0fd7999", func := "tympan/tympanlaw04.ParagraphLines", spec := "paragraphLines", unfollowed := true, recurses := true, plainKeys := false, apart := false, narrowed := true }
def ParagraphLinesUptoSaid : Prop := paragraphLinesUptoRow.holds Tryz.pinned (OpenSpec.upto paragraphLinesSpec)

/-- 'tympanlaw04.ParagraphGreedy', WHERE WHAT IT READS IS OF BULK AT MOST 1048576: true; the input reads as it did. -/
def paragraphGreedyUptoRow : OpenClaim := { program := "ytbnganlfelgogaagreat", sum := "be9faa4548e96c883475420b0b20edd00b6406b027a1af9c14d2f912a0fd7999", func := "tympan/tympanlaw04.ParagraphGreedy", spec := "paragraphGreedy", unfollowed := true, recurses := true, plainKeys := false, apart := false, narrowed := true }
def ParagraphGreedyUptoSaid : Prop := paragraphGreedyUptoRow.holds Tryz.pinned (OpenSpec.upto paragraphGreedySpec)

/-- 'tympanlaw04.ParagraphKept', WHERE WHAT IT READS IS OF BULK AT MOST 1048576: true; the input reads as it did. -/
def paragraphKeptUptoRow : OpenClaim := { program := "ytbnganlfelgogaagreat", sum := "be9faa4548e96c883475420b0b20edd00b6406b027a1af9c14d2f912a0fd7999", func := "tympan/tympanlaw04.ParagraphKept", spec := "paragraphKept", unfollowed := true, recurses := true, plainKeys := false, apart := false, narrowed := true }
def ParagraphKeptUptoSaid : Prop := paragraphKeptUptoRow.holds Tryz.pinned (OpenSpec.upto paragraphKeptSpec)

/-- 'tympanlaw04.ParagraphProves', WHERE WHAT IT READS IS OF BULK AT MOST 1048576: true; the input reads as it did. -/
def paragraphProvesUptoRow : OpenClaim := { program := "ytbnganlfelgogaagreat", sum := "be9faa4548e96c883475420b0b20edd00b6406b027a1af9c14d2f912a0fd7999", func := "tympan/tympanlaw04.ParagraphProves", spec := "paragraphProves", unfollowed := true, recurses := true, plainKeys := false, apart := false, narrowed := true }
def ParagraphProvesUptoSaid : Prop := paragraphProvesUptoRow.holds Tryz.pinned (OpenSpec.upto paragraphProvesSpec)

/-- 'tympanlaw04.ParagraphCounts', WHERE WHAT IT READS IS OF BULK AT MOST 1048576: true; the input reads as it did. -/
def paragraphCountsUptoRow : OpenClaim := { program := "ytbnganlfelgogaagreat", sum := "be9faa4548e96c883475420b0b20edd00b6406b027a1af9c14d2f912a0fd7999", func := "tympan/tympanlaw04.ParagraphCounts", spec := "paragraphCounts", unfollowed := true, recurses := true, plainKeys := false, apart := false, narrowed := true }
def ParagraphCountsUptoSaid : Prop := paragraphCountsUptoRow.holds Tryz.pinned (OpenSpec.upto paragraphCountsSpec)

/-- 'tympantop.TopParagraphBack', WHERE WHAT IT READS IS OF BULK AT MOST 1048576: true; the input reads as it did. -/
def topParagraphBackUptoRow : OpenClaim := { program := "ytbnganlfelgogaagreat", sum := "be9faa4548e96c883475420b0b20edd00b6406b027a1af9c14d2f912a0fd7999", func := "tympan/tympantop.TopParagraphBack", spec := "topParagraphBack", unfollowed := true, recurses := true, plainKeys := false, apart := false, narrowed := true }
def TopParagraphBackUptoSaid : Prop := topParagraphBackUptoRow.holds Tryz.pinned (OpenSpec.upto topParagraphBackSpec)

end Rows
end Go.Proofs.YtbnganlfelgogaaGreat
