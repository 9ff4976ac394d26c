/-
  DERIVED. GIVEN WITH THE SEED: THE CARDS: each row of YtpejldeljjegiacGreatDoorRows.lean that lists a variable, with what it lists TIED to the program's text (the seventh form; the later family's looks); each row that meets fmt, with fmt's text TOLD by the authors' own Lean function (tested against real Go, not proved from fmt's source: count such statements apart). THE CARD IS WHAT COUNTS. Prove the row's statement (the work); the ties are given (YtpejldeljjegiacGreatDoorTie.lean); close each card by the builder's one call (the guide's Derived/Test/ToyasCard.lean, 'card_holds'). Laid BY PROGRAM, IN A SANDBOX (cutbox-door.mjs). By AI agents, Wed Nov 11 2026. No macro, syntax, notation, axiom, sorry.
-/
import Derived.Test.YtpejldeljjegiacGreatDoorRows
import GoSem.ClaimSeven
namespace Go.Proofs.YtpejldeljjegiacGreatDoor
namespace Rows

/-- THE TIED CARD OF 'seedcornlaw39.ToolJoins'. -/
def toolJoinsCard : Claim7 := { stood := { row := toolJoinsRow, standIns := [], harness := (true, "dccfcd45b886050f47818563387850a06757500f955abfcec84ee06a272a8540"), looks := true }, kinds := [], alts := [], laidByText := true, laidKinds := [.data, .data, .data, .data, .pinned], laidTests := true, laidLooks := .later }
def ToolJoinsCardSaid : Prop := Claim7.holds Tryz.pinned (.plain (OpenSpec.ofChange toolJoinsSpec)) toolJoinsCard

/-- THE SECOND FORM's CARD OF 'seedcornlaw39.ToolJoins'. -/
def toolJoinsUptoCard : Claim7 := { stood := { row := toolJoinsUptoRow, standIns := [], harness := (true, "dccfcd45b886050f47818563387850a06757500f955abfcec84ee06a272a8540"), looks := true }, kinds := [], alts := [], laidByText := true, laidKinds := [.data, .data, .data, .data, .pinned], laidTests := true, laidLooks := .later }
def ToolJoinsUptoCardSaid : Prop := Claim7.holds Tryz.pinned (.plain (OpenSpec.upto toolJoinsSpec)) toolJoinsUptoCard
end Rows
end Go.Proofs.YtpejldeljjegiacGreatDoor
