/-
  DERIVED. GIVEN WITH THE SEED: THE CARDS: each row of YtgiigidgdhplfaaGreatDoorRows.lean that lists a variable, with what it lists TIED to the program's text (the seventh form; the later family's looks); each row that meets fmt, with fmt's text TOLD by the authors' own Lean function (tested against real Go, not proved from fmt's source: count such statements apart). THE CARD IS WHAT COUNTS. Prove the row's statement (the work); the ties are given (YtgiigidgdhplfaaGreatDoorTie.lean); close each card by the builder's one call (the guide's Derived/Test/ToyasCard.lean, 'card_holds'). Laid BY PROGRAM, IN A SANDBOX (cutbox-door.mjs). By AI agents, Wed Nov 11 2026. No macro, syntax, notation, axiom, sorry.
-/
import Derived.Test.YtgiigidgdhplfaaGreatDoorRows
import GoSem.ClaimSeven
namespace Go.Proofs.YtgiigidgdhplfaaGreatDoor
namespace Rows

/-- THE TIED CARD OF 'seedcornlaw51.ChainSeed'. -/
def chainSeedCard : Claim7 := { stood := { row := chainSeedRow, standIns := [], harness := (true, "c594e49dee30b4cdba2b9522073c16747884faa2824a35000a6c520dc6246407"), looks := true }, kinds := [], alts := [], laidByText := true, laidKinds := [.data, .data, .data, .data, .data, .data], laidTests := true, laidLooks := .later }
def ChainSeedCardSaid : Prop := Claim7.holds Tryz.pinned (.plain (OpenSpec.ofChange chainSeedSpec)) chainSeedCard

/-- THE SECOND FORM's CARD OF 'seedcornlaw51.ChainSeed'. -/
def chainSeedUptoCard : Claim7 := { stood := { row := chainSeedUptoRow, standIns := [], harness := (true, "c594e49dee30b4cdba2b9522073c16747884faa2824a35000a6c520dc6246407"), looks := true }, kinds := [], alts := [], laidByText := true, laidKinds := [.data, .data, .data, .data, .data, .data], laidTests := true, laidLooks := .later }
def ChainSeedUptoCardSaid : Prop := Claim7.holds Tryz.pinned (.plain (OpenSpec.upto chainSeedSpec)) chainSeedUptoCard
end Rows
end Go.Proofs.YtgiigidgdhplfaaGreatDoor
