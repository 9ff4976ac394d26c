/-
  DERIVED. GIVEN WITH THE SEED: THE CARDS: each row of YtbojbioflppbdaaGreatDoorRows.lean that lists a variable, with what it lists TIED to the program's text (the seventh form; the later family's looks); each row that meets fmt, with fmt's text TOLD by the authors' own Lean function (tested against real Go, not proved from fmt's source: count such statements apart). THE CARD IS WHAT COUNTS. Prove the row's statement (the work); the ties are given (YtbojbioflppbdaaGreatDoorTie.lean); close each card by the builder's one call (the guide's Derived/Test/ToyasCard.lean, 'card_holds'). Laid BY PROGRAM, IN A SANDBOX (cutbox-door.mjs). By AI agents, Wed Nov 11 2026. No macro, syntax, notation, axiom, sorry.
-/
import Derived.Test.YtbojbioflppbdaaGreatDoorRows
import GoSem.ClaimSeven
namespace Go.Proofs.YtbojbioflppbdaaGreatDoor
namespace Rows

/-- THE TIED CARD OF 'seedcornlaw23.StackcEcho'. -/
def stackcEchoCard : Claim7 := { stood := { row := stackcEchoRow, standIns := [], harness := (true, "50cb53565c8e1ca0c3fc880288f7c90b41ac4369313a4050e16eadfa95fa588e"), looks := true }, kinds := [], alts := [], laidByText := true, laidKinds := [.data, .data], laidTests := true, laidLooks := .later }
def StackcEchoCardSaid : Prop := Claim7.holds Tryz.pinned (.plain (OpenSpec.ofChange stackcEchoSpec)) stackcEchoCard

/-- THE TIED CARD OF 'seedcornlaw23.StackcOps'. -/
def stackcOpsCard : Claim7 := { stood := { row := stackcOpsRow, standIns := [], harness := (true, "50cb53565c8e1ca0c3fc880288f7c90b41ac4369313a4050e16eadfa95fa588e"), looks := true }, kinds := [], alts := [], laidByText := true, laidKinds := [.data, .data], laidTests := true, laidLooks := .later }
def StackcOpsCardSaid : Prop := Claim7.holds Tryz.pinned (.plain (OpenSpec.ofChange stackcOpsSpec)) stackcOpsCard

/-- THE SECOND FORM's CARD OF 'seedcornlaw23.StackcEcho'. -/
def stackcEchoUptoCard : Claim7 := { stood := { row := stackcEchoUptoRow, standIns := [], harness := (true, "50cb53565c8e1ca0c3fc880288f7c90b41ac4369313a4050e16eadfa95fa588e"), looks := true }, kinds := [], alts := [], laidByText := true, laidKinds := [.data, .data], laidTests := true, laidLooks := .later }
def StackcEchoUptoCardSaid : Prop := Claim7.holds Tryz.pinned (.plain (OpenSpec.upto stackcEchoSpec)) stackcEchoUptoCard

/-- THE SECOND FORM's CARD OF 'seedcornlaw23.StackcOps'. -/
def stackcOpsUptoCard : Claim7 := { stood := { row := stackcOpsUptoRow, standIns := [], harness := (true, "50cb53565c8e1ca0c3fc880288f7c90b41ac4369313a4050e16eadfa95fa588e"), looks := true }, kinds := [], alts := [], laidByText := true, laidKinds := [.data, .data], laidTests := true, laidLooks := .later }
def StackcOpsUptoCardSaid : Prop := Claim7.holds Tryz.pinned (.plain (OpenSpec.upto stackcOpsSpec)) stackcOpsUptoCard
end Rows
end Go.Proofs.YtbojbioflppbdaaGreatDoor
