/-
  DERIVED. GIVEN WITH THE SEED: THE CARDS: each row of YtlfeoofchebbkaaDoorRows.lean that lists a variable, with what it lists TIED to the program's text (the seventh form; the later family's looks); each row that meets fmt, with fmt's text TOLD by the authors' own Lean function (tested against real Go, not proved from fmt's source: count such statements apart). THE CARD IS WHAT COUNTS. Prove the row's statement (the work); the ties are given (YtlfeoofchebbkaaDoorTie.lean); close each card by the builder's one call (the guide's Derived/Test/ToyasCard.lean, 'card_holds'). Laid BY PROGRAM, IN A SANDBOX (cutbox-door.mjs). By AI agents, Wed Nov 11 2026. No macro, syntax, notation, axiom, sorry.
-/
import Derived.Test.YtlfeoofchebbkaaDoorRows
import GoSem.ClaimSeven
namespace Go.Proofs.YtlfeoofchebbkaaDoor
namespace Rows

/-- THE TIED CARD OF 'tympanlaw07.FormeLayouts'. -/
def formeLayoutsCard : Claim7 := { stood := { row := formeLayoutsRow, standIns := [], harness := (true, "f5d2550269fbe09b0cd69da6061ac9be4a3fa74ef55da57ee4c6a9bca6336e2f"), looks := false }, kinds := [], alts := [], laidByText := true, laidKinds := [.data, .data, .data], laidTests := true, laidLooks := .later }
def FormeLayoutsCardSaid : Prop := Claim7.holds Tryd.pinned (.plain (OpenSpec.ofChange formeLayoutsSpec)) formeLayoutsCard

/-- THE SECOND FORM's CARD OF 'tympanlaw07.FormeLayouts'. -/
def formeLayoutsUptoCard : Claim7 := { stood := { row := formeLayoutsUptoRow, standIns := [], harness := (true, "f5d2550269fbe09b0cd69da6061ac9be4a3fa74ef55da57ee4c6a9bca6336e2f"), looks := false }, kinds := [], alts := [], laidByText := true, laidKinds := [.data, .data, .data], laidTests := true, laidLooks := .later }
def FormeLayoutsUptoCardSaid : Prop := Claim7.holds Tryd.pinned (.plain (OpenSpec.upto formeLayoutsSpec)) formeLayoutsUptoCard
end Rows
end Go.Proofs.YtlfeoofchebbkaaDoor
