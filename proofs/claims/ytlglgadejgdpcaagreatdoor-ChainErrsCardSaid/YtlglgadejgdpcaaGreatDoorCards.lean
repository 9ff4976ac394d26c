/-
  DERIVED. GIVEN WITH THE SEED: THE CARDS: each row of YtlglgadejgdpcaaGreatDoorRows.lean that lists a variable, with what it lists TIED to the program's text (the seventh form; the later family's looks); each row that meets fmt, with fmt's text TOLD by the authors' own Lean function (tested against real Go, not proved from fmt's source: count such statements apart). THE CARD IS WHAT COUNTS. Prove the row's statement (the work); the ties are given (YtlglgadejgdpcaaGreatDoorTie.lean); close each card by the builder's one call (the guide's Derived/Test/ToyasCard.lean, 'card_holds'). Laid BY PROGRAM, IN A SANDBOX (cutbox-door.mjs). By AI agents, Wed Nov 11 2026. No macro, syntax, notation, axiom, sorry.
-/
import Derived.Test.YtlglgadejgdpcaaGreatDoorRows
import GoSem.ClaimSeven
namespace Go.Proofs.YtlglgadejgdpcaaGreatDoor
namespace Rows

/-- THE TIED CARD OF 'seedcornlaw51.ChainErrs'. -/
def chainErrsCard : Claim7 := { stood := { row := chainErrsRow, standIns := [], harness := (true, "5db61591c02f17df937d08bfd8cbf929a9b129c96aad94a55cfc19742cf9b4dc"), looks := true }, kinds := [], alts := [], laidByText := true, laidKinds := [.data, .data, .data, .data, .data, .data], laidTests := true, laidLooks := .later }
def ChainErrsCardSaid : Prop := Claim7.holds Tryz.pinned (.plain (OpenSpec.ofChange chainErrsSpec)) chainErrsCard

/-- THE SECOND FORM's CARD OF 'seedcornlaw51.ChainErrs'. -/
def chainErrsUptoCard : Claim7 := { stood := { row := chainErrsUptoRow, standIns := [], harness := (true, "5db61591c02f17df937d08bfd8cbf929a9b129c96aad94a55cfc19742cf9b4dc"), looks := true }, kinds := [], alts := [], laidByText := true, laidKinds := [.data, .data, .data, .data, .data, .data], laidTests := true, laidLooks := .later }
def ChainErrsUptoCardSaid : Prop := Claim7.holds Tryz.pinned (.plain (OpenSpec.upto chainErrsSpec)) chainErrsUptoCard
end Rows
end Go.Proofs.YtlglgadejgdpcaaGreatDoor
