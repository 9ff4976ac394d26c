/-
  DERIVED. GIVEN WITH THE SEED: THE CARDS: each row of YtfcgadnbdcnnlaaGreatDoorRows.lean that lists a variable, with what it lists TIED to the program's text (the seventh form; the later family's looks); each row that meets fmt, with fmt's text TOLD by the authors' own Lean function (tested against real Go, not proved from fmt's source: count such statements apart). THE CARD IS WHAT COUNTS. Prove the row's statement (the work); the ties are given (YtfcgadnbdcnnlaaGreatDoorTie.lean); close each card by the builder's one call (the guide's Derived/Test/ToyasCard.lean, 'card_holds'). Laid BY PROGRAM, IN A SANDBOX (cutbox-door.mjs). By AI agents, Wed Nov 11 2026. No macro, syntax, notation, axiom, sorry.
-/
import Derived.Test.YtfcgadnbdcnnlaaGreatDoorRows
import GoSem.ClaimSeven
namespace Go.Proofs.YtfcgadnbdcnnlaaGreatDoor
namespace Rows

/-- THE TIED CARD OF 'seedcornlaw39.ToolRuns'. -/
def toolRunsCard : Claim7 := { stood := { row := toolRunsRow, standIns := [], harness := (true, "9dd3296c27a23d56d7d15ce0e929d3b635c9d96f679d269b694a9819490d44fb"), looks := true }, kinds := [], alts := [], laidByText := true, laidKinds := [.data, .data, .data, .data, .pinned], laidTests := true, laidLooks := .later }
def ToolRunsCardSaid : Prop := Claim7.holds Tryz.pinned (.plain (OpenSpec.ofChange toolRunsSpec)) toolRunsCard

/-- THE SECOND FORM's CARD OF 'seedcornlaw39.ToolRuns'. -/
def toolRunsUptoCard : Claim7 := { stood := { row := toolRunsUptoRow, standIns := [], harness := (true, "9dd3296c27a23d56d7d15ce0e929d3b635c9d96f679d269b694a9819490d44fb"), looks := true }, kinds := [], alts := [], laidByText := true, laidKinds := [.data, .data, .data, .data, .pinned], laidTests := true, laidLooks := .later }
def ToolRunsUptoCardSaid : Prop := Claim7.holds Tryz.pinned (.plain (OpenSpec.upto toolRunsSpec)) toolRunsUptoCard
end Rows
end Go.Proofs.YtfcgadnbdcnnlaaGreatDoor
