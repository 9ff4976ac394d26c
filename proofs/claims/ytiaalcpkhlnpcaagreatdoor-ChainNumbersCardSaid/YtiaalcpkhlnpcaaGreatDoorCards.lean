/-
  DERIVED. GIVEN WITH THE SEED: THE CARDS: each row of YtiaalcpkhlnpcaaGreatDoorRows.lean that lists a variable, with what it lists TIED to the program's text (the seventh form; the later family's looks); each row that meets fmt, with fmt's text TOLD by the authors' own Lean function (tested against real Go, not proved from fmt's source: count such statements apart). THE CARD IS WHAT COUNTS. Prove the row's statement (the work); the ties are given (YtiaalcpkhlnpcaaGreatDoorTie.lean); close each card by the builder's one call (the guide's Derived/Test/ToyasCard.lean, 'card_holds'). Laid BY PROGRAM, IN A SANDBOX (cutbox-door.mjs). By AI agents, Wed Nov 11 2026. No macro, syntax, notation, axiom, sorry.
-/
import Derived.Test.YtiaalcpkhlnpcaaGreatDoorRows
import GoSem.ClaimSeven
namespace Go.Proofs.YtiaalcpkhlnpcaaGreatDoor
namespace Rows

/-- THE TIED CARD OF 'seedcornlaw51.ChainNumbers'. -/
def chainNumbersCard : Claim7 := { stood := { row := chainNumbersRow, standIns := [], harness := (true, "64e20c6f66897d5e686e2457cb0f195c72bd14a4447fe21e8f63ed204ab09b96"), looks := true }, kinds := [], alts := [], laidByText := true, laidKinds := [.data, .data, .data, .data, .data, .data], laidTests := true, laidLooks := .later }
def ChainNumbersCardSaid : Prop := Claim7.holds Tryz.pinned (.plain (OpenSpec.ofChange chainNumbersSpec)) chainNumbersCard

/-- THE SECOND FORM's CARD OF 'seedcornlaw51.ChainNumbers'. -/
def chainNumbersUptoCard : Claim7 := { stood := { row := chainNumbersUptoRow, standIns := [], harness := (true, "64e20c6f66897d5e686e2457cb0f195c72bd14a4447fe21e8f63ed204ab09b96"), looks := true }, kinds := [], alts := [], laidByText := true, laidKinds := [.data, .data, .data, .data, .data, .data], laidTests := true, laidLooks := .later }
def ChainNumbersUptoCardSaid : Prop := Claim7.holds Tryz.pinned (.plain (OpenSpec.upto chainNumbersSpec)) chainNumbersUptoCard
end Rows
end Go.Proofs.YtiaalcpkhlnpcaaGreatDoor
