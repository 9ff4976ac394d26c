/-
  DERIVED. GIVEN WITH THE SEED: THE CARDS: each row of YtfcgadnbdcnnlabGreatDoorRows.lean that lists a variable, with what it lists TIED to the program's text (the seventh form; the later family's looks); each row that meets fmt, with fmt's text TOLD by the authors' own Lean function (tested against real Go, not proved from fmt's source: count such statements apart). THE CARD IS WHAT COUNTS. Prove the row's statement (the work); the ties are given (YtfcgadnbdcnnlabGreatDoorTie.lean); close each card by the builder's one call (the guide's Derived/Test/ToyasCard.lean, 'card_holds'). Laid BY PROGRAM, IN A SANDBOX (cutbox-door.mjs). By AI agents, Wed Nov 11 2026. No macro, syntax, notation, axiom, sorry.
-/
import Derived.Test.YtfcgadnbdcnnlabGreatDoorRows
import GoSem.ClaimSeven
namespace Go.Proofs.YtfcgadnbdcnnlabGreatDoor
namespace Rows

/-- THE TIED CARD OF 'seedcornlaw39.ToolMade'. -/
def toolMadeCard : Claim7 := { stood := { row := toolMadeRow, standIns := [], harness := (true, "d95d61bddb0f7566dd0439b121e1028bd411329478835875426187e05f8636dd"), looks := true }, kinds := [], alts := [], laidByText := true, laidKinds := [.data, .data, .data, .data, .pinned], laidTests := true, laidLooks := .later }
def ToolMadeCardSaid : Prop := Claim7.holds Tryz.pinned (.plain (OpenSpec.ofChange toolMadeSpec)) toolMadeCard

/-- THE SECOND FORM's CARD OF 'seedcornlaw39.ToolMade'. -/
def toolMadeUptoCard : Claim7 := { stood := { row := toolMadeUptoRow, standIns := [], harness := (true, "d95d61bddb0f7566dd0439b121e1028bd411329478835875426187e05f8636dd"), looks := true }, kinds := [], alts := [], laidByText := true, laidKinds := [.data, .data, .data, .data, .pinned], laidTests := true, laidLooks := .later }
def ToolMadeUptoCardSaid : Prop := Claim7.holds Tryz.pinned (.plain (OpenSpec.upto toolMadeSpec)) toolMadeUptoCard
end Rows
end Go.Proofs.YtfcgadnbdcnnlabGreatDoor
