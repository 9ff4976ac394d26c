/-
  DERIVED. GIVEN WITH THE SEED: THE CARDS: each row of YtgbcmokfgbmabaaGreatDoorRRows.lean that lists a variable, with what it lists TIED to the program's text (the seventh form; the later family's looks); each row that meets fmt, with fmt's text TOLD by the authors' own Lean function (tested against real Go, not proved from fmt's source: count such statements apart). THE CARD IS WHAT COUNTS. Prove the row's statement (the work); the ties are given (YtgbcmokfgbmabaaGreatDoorRTie.lean); close each card by the builder's one call (the guide's Derived/Test/ToyasCard.lean, 'card_holds'). Laid BY PROGRAM, IN A SANDBOX (cutbox-door.mjs). By AI agents, Wed Nov 11 2026. No macro, syntax, notation, axiom, sorry.
-/
import Derived.Test.YtgbcmokfgbmabaaGreatDoorRRows
import GoSem.ClaimSeven
namespace Go.Proofs.YtgbcmokfgbmabaaGreatDoorR
namespace Rows

/-- THE TIED CARD OF 'seedcornlaw23.StackcMeans'. -/
def stackcMeansCard : Claim7 := { stood := { row := stackcMeansRow, standIns := [], harness := (true, "081a64ef3f1a909f6772ca69a02032461556490f8b40c2f1c7b11f5596d7527b"), looks := true }, kinds := [], alts := [], laidByText := true, laidKinds := [.data, .data], laidTests := true, laidLooks := .later }
def StackcMeansCardSaid : Prop := Claim7.holds Tryz.pinned (.plain (OpenSpec.ofChange stackcMeansSpec)) stackcMeansCard

/-- THE TIED CARD OF 'seedcornlaw23.StackcErrs'. -/
def stackcErrsCard : Claim7 := { stood := { row := stackcErrsRow, standIns := [], harness := (true, "081a64ef3f1a909f6772ca69a02032461556490f8b40c2f1c7b11f5596d7527b"), looks := true }, kinds := [], alts := [], laidByText := true, laidKinds := [.data, .data], laidTests := true, laidLooks := .later }
def StackcErrsCardSaid : Prop := Claim7.holds Tryz.pinned (.plain (OpenSpec.ofChange stackcErrsSpec)) stackcErrsCard

/-- THE TIED CARD OF 'seedcornlaw23.StackcCompiles'. -/
def stackcCompilesCard : Claim7 := { stood := { row := stackcCompilesRow, standIns := [], harness := (true, "081a64ef3f1a909f6772ca69a02032461556490f8b40c2f1c7b11f5596d7527b"), looks := true }, kinds := [], alts := [], laidByText := true, laidKinds := [.data, .data], laidTests := true, laidLooks := .later }
def StackcCompilesCardSaid : Prop := Claim7.holds Tryz.pinned (.plain (OpenSpec.ofChange stackcCompilesSpec)) stackcCompilesCard

/-- THE TIED CARD OF 'seedcornlaw23.StackcIdle'. -/
def stackcIdleCard : Claim7 := { stood := { row := stackcIdleRow, standIns := [], harness := (true, "081a64ef3f1a909f6772ca69a02032461556490f8b40c2f1c7b11f5596d7527b"), looks := true }, kinds := [], alts := [], laidByText := true, laidKinds := [.data, .data], laidTests := true, laidLooks := .later }
def StackcIdleCardSaid : Prop := Claim7.holds Tryz.pinned (.plain (OpenSpec.ofChange stackcIdleSpec)) stackcIdleCard

/-- THE TIED CARD OF 'seedcornlaw23.StackcRefuses'. -/
def stackcRefusesCard : Claim7 := { stood := { row := stackcRefusesRow, standIns := [], harness := (true, "081a64ef3f1a909f6772ca69a02032461556490f8b40c2f1c7b11f5596d7527b"), looks := true }, kinds := [], alts := [], laidByText := true, laidKinds := [.data, .data, .data, .data, .data, .data], laidTests := true, laidLooks := .later }
def StackcRefusesCardSaid : Prop := Claim7.holds Tryz.pinned (.plain (OpenSpec.ofChange stackcRefusesSpec)) stackcRefusesCard

/-- THE SECOND FORM's CARD OF 'seedcornlaw23.StackcMeans'. -/
def stackcMeansUptoCard : Claim7 := { stood := { row := stackcMeansUptoRow, standIns := [], harness := (true, "081a64ef3f1a909f6772ca69a02032461556490f8b40c2f1c7b11f5596d7527b"), looks := true }, kinds := [], alts := [], laidByText := true, laidKinds := [.data, .data], laidTests := true, laidLooks := .later }
def StackcMeansUptoCardSaid : Prop := Claim7.holds Tryz.pinned (.plain (OpenSpec.upto stackcMeansSpec)) stackcMeansUptoCard

/-- THE SECOND FORM's CARD OF 'seedcornlaw23.StackcErrs'. -/
def stackcErrsUptoCard : Claim7 := { stood := { row := stackcErrsUptoRow, standIns := [], harness := (true, "081a64ef3f1a909f6772ca69a02032461556490f8b40c2f1c7b11f5596d7527b"), looks := true }, kinds := [], alts := [], laidByText := true, laidKinds := [.data, .data], laidTests := true, laidLooks := .later }
def StackcErrsUptoCardSaid : Prop := Claim7.holds Tryz.pinned (.plain (OpenSpec.upto stackcErrsSpec)) stackcErrsUptoCard

/-- THE SECOND FORM's CARD OF 'seedcornlaw23.StackcCompiles'. -/
def stackcCompilesUptoCard : Claim7 := { stood := { row := stackcCompilesUptoRow, standIns := [], harness := (true, "081a64ef3f1a909f6772ca69a02032461556490f8b40c2f1c7b11f5596d7527b"), looks := true }, kinds := [], alts := [], laidByText := true, laidKinds := [.data, .data], laidTests := true, laidLooks := .later }
def StackcCompilesUptoCardSaid : Prop := Claim7.holds Tryz.pinned (.plain (OpenSpec.upto stackcCompilesSpec)) stackcCompilesUptoCard

/-- THE SECOND FORM's CARD OF 'seedcornlaw23.StackcIdle'. -/
def stackcIdleUptoCard : Claim7 := { stood := { row := stackcIdleUptoRow, standIns := [], harness := (true, "081a64ef3f1a909f6772ca69a02032461556490f8b40c2f1c7b11f5596d7527b"), looks := true }, kinds := [], alts := [], laidByText := true, laidKinds := [.data, .data], laidTests := true, laidLooks := .later }
def StackcIdleUptoCardSaid : Prop := Claim7.holds Tryz.pinned (.plain (OpenSpec.upto stackcIdleSpec)) stackcIdleUptoCard

/-- THE SECOND FORM's CARD OF 'seedcornlaw23.StackcRefuses'. -/
def stackcRefusesUptoCard : Claim7 := { stood := { row := stackcRefusesUptoRow, standIns := [], harness := (true, "081a64ef3f1a909f6772ca69a02032461556490f8b40c2f1c7b11f5596d7527b"), looks := true }, kinds := [], alts := [], laidByText := true, laidKinds := [.data, .data, .data, .data, .data, .data], laidTests := true, laidLooks := .later }
def StackcRefusesUptoCardSaid : Prop := Claim7.holds Tryz.pinned (.plain (OpenSpec.upto stackcRefusesSpec)) stackcRefusesUptoCard
end Rows
end Go.Proofs.YtgbcmokfgbmabaaGreatDoorR
