/-
  DERIVED. GIVEN WITH THE SEED: THE CARDS: each row of YtphohejoiocikaaGreatDoorRows.lean that lists a variable, with what it lists TIED to the program's text (the seventh form; the later family's looks); each row that meets fmt, with fmt's text TOLD by the authors' own Lean function (tested against real Go, not proved from fmt's source: count such statements apart). THE CARD IS WHAT COUNTS. Prove the row's statement (the work); the ties are given (YtphohejoiocikaaGreatDoorTie.lean); close each card by the builder's one call (the guide's Derived/Test/ToyasCard.lean, 'card_holds'). Laid BY PROGRAM, IN A SANDBOX (cutbox-door.mjs). By AI agents, Wed Nov 11 2026. No macro, syntax, notation, axiom, sorry.
-/
import Derived.Test.YtphohejoiocikaaGreatDoorRows
import GoSem.ClaimSeven
namespace Go.Proofs.YtphohejoiocikaaGreatDoor
namespace Rows

/-- THE TIED CARD OF 'seedcornlaw51.ChainAssembles'. -/
def chainAssemblesCard : Claim7 := { stood := { row := chainAssemblesRow, standIns := [], harness := (true, "aa5140a2f3a4d7f239ef385084236ea2852b1902c5061c712aeccd516494d13a"), looks := true }, kinds := [], alts := [], laidByText := true, laidKinds := [.data, .data, .data, .data, .data, .data], laidTests := true, laidLooks := .later }
def ChainAssemblesCardSaid : Prop := Claim7.holds Tryz.pinned (.plain (OpenSpec.ofChange chainAssemblesSpec)) chainAssemblesCard

/-- THE SECOND FORM's CARD OF 'seedcornlaw51.ChainAssembles'. -/
def chainAssemblesUptoCard : Claim7 := { stood := { row := chainAssemblesUptoRow, standIns := [], harness := (true, "aa5140a2f3a4d7f239ef385084236ea2852b1902c5061c712aeccd516494d13a"), looks := true }, kinds := [], alts := [], laidByText := true, laidKinds := [.data, .data, .data, .data, .data, .data], laidTests := true, laidLooks := .later }
def ChainAssemblesUptoCardSaid : Prop := Claim7.holds Tryz.pinned (.plain (OpenSpec.upto chainAssemblesSpec)) chainAssemblesUptoCard
end Rows
end Go.Proofs.YtphohejoiocikaaGreatDoor
