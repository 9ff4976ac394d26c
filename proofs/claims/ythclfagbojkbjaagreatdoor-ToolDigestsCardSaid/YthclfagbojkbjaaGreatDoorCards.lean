/-
  DERIVED. GIVEN WITH THE SEED: THE CARDS: each row of YthclfagbojkbjaaGreatDoorRows.lean that lists a variable, with what it lists TIED to the program's text (the seventh form; the later family's looks); each row that meets fmt, with fmt's text TOLD by the authors' own Lean function (tested against real Go, not proved from fmt's source: count such statements apart). THE CARD IS WHAT COUNTS. Prove the row's statement (the work); the ties are given (YthclfagbojkbjaaGreatDoorTie.lean); close each card by the builder's one call (the guide's Derived/Test/ToyasCard.lean, 'card_holds'). Laid BY PROGRAM, IN A SANDBOX (cutbox-door.mjs). By AI agents, Wed Nov 11 2026. No macro, syntax, notation, axiom, sorry.
-/
import Derived.Test.YthclfagbojkbjaaGreatDoorRows
import GoSem.ClaimSeven
namespace Go.Proofs.YthclfagbojkbjaaGreatDoor
namespace Rows

/-- THE TIED CARD OF 'seedcornlaw39.ToolDigests'. -/
def toolDigestsCard : Claim7 := { stood := { row := toolDigestsRow, standIns := [], harness := (true, "76105dba74e5227797dfaa9392afa1c393365a1676a9126dfe60b66be248bdca"), looks := true }, kinds := [], alts := [], laidByText := true, laidKinds := [.data, .data, .data, .data, .pinned], laidTests := true, laidLooks := .later }
def ToolDigestsCardSaid : Prop := Claim7.holds Tryz.pinned (.plain (OpenSpec.ofChange toolDigestsSpec)) toolDigestsCard

/-- THE SECOND FORM's CARD OF 'seedcornlaw39.ToolDigests'. -/
def toolDigestsUptoCard : Claim7 := { stood := { row := toolDigestsUptoRow, standIns := [], harness := (true, "76105dba74e5227797dfaa9392afa1c393365a1676a9126dfe60b66be248bdca"), looks := true }, kinds := [], alts := [], laidByText := true, laidKinds := [.data, .data, .data, .data, .pinned], laidTests := true, laidLooks := .later }
def ToolDigestsUptoCardSaid : Prop := Claim7.holds Tryz.pinned (.plain (OpenSpec.upto toolDigestsSpec)) toolDigestsUptoCard
end Rows
end Go.Proofs.YthclfagbojkbjaaGreatDoor
