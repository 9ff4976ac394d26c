/-
  DERIVED. GIVEN WITH THE SEED: THE CARDS: each row of YthnomjfdcidgbaaGreatDoorRows.lean that lists a variable, with what it lists TIED to the program's text (the seventh form; the later family's looks); each row that meets fmt, with fmt's text TOLD by the authors' own Lean function (tested against real Go, not proved from fmt's source: count such statements apart). THE CARD IS WHAT COUNTS. Prove the row's statement (the work); the ties are given (YthnomjfdcidgbaaGreatDoorTie.lean); close each card by the builder's one call (the guide's Derived/Test/ToyasCard.lean, 'card_holds'). Laid BY PROGRAM, IN A SANDBOX (cutbox-door.mjs). By AI agents, Wed Nov 11 2026. No macro, syntax, notation, axiom, sorry.
-/
import Derived.Test.YthnomjfdcidgbaaGreatDoorRows
import GoSem.ClaimSeven
namespace Go.Proofs.YthnomjfdcidgbaaGreatDoor
namespace Rows

/-- THE TIED CARD OF 'seedcornlaw23.StackcCompiles'. -/
def stackcCompilesCard : Claim7 := { stood := { row := stackcCompilesRow, standIns := [], harness := (true, "05a754f1b42f4b5d3ab2fa68498184b498c175ec4101d35775c60f1e58a36e40"), looks := true }, kinds := [], alts := [], laidByText := true, laidKinds := [.data, .data], laidTests := true, laidLooks := .later }
def StackcCompilesCardSaid : Prop := Claim7.holds Tryz.pinned (.plain (OpenSpec.ofChange stackcCompilesSpec)) stackcCompilesCard

/-- THE TIED CARD OF 'seedcornlaw23.StackcRefuses'. -/
def stackcRefusesCard : Claim7 := { stood := { row := stackcRefusesRow, standIns := [], harness := (true, "05a754f1b42f4b5d3ab2fa68498184b498c175ec4101d35775c60f1e58a36e40"), looks := true }, kinds := [], alts := [], laidByText := true, laidKinds := [.data, .data, .data, .data, .data, .data], laidTests := true, laidLooks := .later }
def StackcRefusesCardSaid : Prop := Claim7.holds Tryz.pinned (.plain (OpenSpec.ofChange stackcRefusesSpec)) stackcRefusesCard

/-- THE SECOND FORM's CARD OF 'seedcornlaw23.StackcCompiles'. -/
def stackcCompilesUptoCard : Claim7 := { stood := { row := stackcCompilesUptoRow, standIns := [], harness := (true, "05a754f1b42f4b5d3ab2fa68498184b498c175ec4101d35775c60f1e58a36e40"), looks := true }, kinds := [], alts := [], laidByText := true, laidKinds := [.data, .data], laidTests := true, laidLooks := .later }
def StackcCompilesUptoCardSaid : Prop := Claim7.holds Tryz.pinned (.plain (OpenSpec.upto stackcCompilesSpec)) stackcCompilesUptoCard

/-- THE SECOND FORM's CARD OF 'seedcornlaw23.StackcRefuses'. -/
def stackcRefusesUptoCard : Claim7 := { stood := { row := stackcRefusesUptoRow, standIns := [], harness := (true, "05a754f1b42f4b5d3ab2fa68498184b498c175ec4101d35775c60f1e58a36e40"), looks := true }, kinds := [], alts := [], laidByText := true, laidKinds := [.data, .data, .data, .data, .data, .data], laidTests := true, laidLooks := .later }
def StackcRefusesUptoCardSaid : Prop := Claim7.holds Tryz.pinned (.plain (OpenSpec.upto stackcRefusesSpec)) stackcRefusesUptoCard
end Rows
end Go.Proofs.YthnomjfdcidgbaaGreatDoor
