/-
  DERIVED. GIVEN WITH THE SEED: THE CARDS: each row of YtiaalcpkhlnpcabGreatDoorRows.lean that lists a variable, with what it lists TIED to the program's text (the seventh form; the later family's looks); each row that meets fmt, with fmt's text TOLD by the authors' own Lean function (tested against real Go, not proved from fmt's source: count such statements apart). THE CARD IS WHAT COUNTS. Prove the row's statement (the work); the ties are given (YtiaalcpkhlnpcabGreatDoorTie.lean); close each card by the builder's one call (the guide's Derived/Test/ToyasCard.lean, 'card_holds'). Laid BY PROGRAM, IN A SANDBOX (cutbox-door.mjs). By AI agents, Wed Nov 11 2026. No macro, syntax, notation, axiom, sorry.
-/
import Derived.Test.YtiaalcpkhlnpcabGreatDoorRows
import GoSem.ClaimSeven
namespace Go.Proofs.YtiaalcpkhlnpcabGreatDoor
namespace Rows

/-- THE TIED CARD OF 'seedcornlaw51.ChainApart'. -/
def chainApartCard : Claim7 := { stood := { row := chainApartRow, standIns := [], harness := (true, "dac7a866eb930713e7f117c62f451ba7e62c1e89769dd2b52c89bbd52c178edb"), looks := true }, kinds := [], alts := [], laidByText := true, laidKinds := [.data, .data, .data, .data, .data, .data], laidTests := true, laidLooks := .later }
def ChainApartCardSaid : Prop := Claim7.holds Tryz.pinned (.plain (OpenSpec.ofChange chainApartSpec)) chainApartCard

/-- THE SECOND FORM's CARD OF 'seedcornlaw51.ChainApart'. -/
def chainApartUptoCard : Claim7 := { stood := { row := chainApartUptoRow, standIns := [], harness := (true, "dac7a866eb930713e7f117c62f451ba7e62c1e89769dd2b52c89bbd52c178edb"), looks := true }, kinds := [], alts := [], laidByText := true, laidKinds := [.data, .data, .data, .data, .data, .data], laidTests := true, laidLooks := .later }
def ChainApartUptoCardSaid : Prop := Claim7.holds Tryz.pinned (.plain (OpenSpec.upto chainApartSpec)) chainApartUptoCard
end Rows
end Go.Proofs.YtiaalcpkhlnpcabGreatDoor
