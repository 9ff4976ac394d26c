/-
  DERIVED. GIVEN WITH THE SEED: THE CARDS: each row of YtednjibjomfhfaaGreatDoorRows.lean that lists a variable, with what it lists TIED to the program's text (the seventh form; the later family's looks); each row that meets fmt, with fmt's text TOLD by the authors' own Lean function (tested against real Go, not proved from fmt's source: count such statements apart). THE CARD IS WHAT COUNTS. Prove the row's statement (the work); the ties are given (YtednjibjomfhfaaGreatDoorTie.lean); close each card by the builder's one call (the guide's Derived/Test/ToyasCard.lean, 'card_holds'). Laid BY PROGRAM, IN A SANDBOX (cutbox-door.mjs). By AI agents, Wed Nov 11 2026. No macro, syntax, notation, axiom, sorry.
-/
import Derived.Test.YtednjibjomfhfaaGreatDoorRows
import GoSem.ClaimSeven
namespace Go.Proofs.YtednjibjomfhfaaGreatDoor
namespace Rows

/-- THE TIED CARD OF 'seedcornlaw23.StackcRefuses'. -/
def stackcRefusesCard : Claim7 := { stood := { row := stackcRefusesRow, standIns := [], harness := (true, "98e24b71d4288ee52dcfca28b29fc02ad9526b38d84332f64781f7438a37ef3a"), looks := true }, kinds := [], alts := [], laidByText := true, laidKinds := [.data, .data, .data, .data, .data, .data], laidTests := true, laidLooks := .later }
def StackcRefusesCardSaid : Prop := Claim7.holds Tryz.pinned (.plain (OpenSpec.ofChange stackcRefusesSpec)) stackcRefusesCard

/-- THE SECOND FORM's CARD OF 'seedcornlaw23.StackcRefuses'. -/
def stackcRefusesUptoCard : Claim7 := { stood := { row := stackcRefusesUptoRow, standIns := [], harness := (true, "98e24b71d4288ee52dcfca28b29fc02ad9526b38d84332f64781f7438a37ef3a"), looks := true }, kinds := [], alts := [], laidByText := true, laidKinds := [.data, .data, .data, .data, .data, .data], laidTests := true, laidLooks := .later }
def StackcRefusesUptoCardSaid : Prop := Claim7.holds Tryz.pinned (.plain (OpenSpec.upto stackcRefusesSpec)) stackcRefusesUptoCard
end Rows
end Go.Proofs.YtednjibjomfhfaaGreatDoor
