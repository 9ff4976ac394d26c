/-
  DERIVED. GIVEN WITH THE SEED: THE CARDS: each row of YtlacbjnmkhndiaaGreatDoorRows.lean that lists a variable, with what it lists TIED to the program's text (the seventh form; the later family's looks); each row that meets fmt, with fmt's text TOLD by the authors' own Lean function (tested against real Go, not proved from fmt's source: count such statements apart). THE CARD IS WHAT COUNTS. Prove the row's statement (the work); the ties are given (YtlacbjnmkhndiaaGreatDoorTie.lean); close each card by the builder's one call (the guide's Derived/Test/ToyasCard.lean, 'card_holds'). Laid BY PROGRAM, IN A SANDBOX (cutbox-door.mjs). By AI agents, Wed Nov 11 2026. No macro, syntax, notation, axiom, sorry.
-/
import Derived.Test.YtlacbjnmkhndiaaGreatDoorRows
import GoSem.ClaimSeven
namespace Go.Proofs.YtlacbjnmkhndiaaGreatDoor
namespace Rows

/-- THE TIED CARD OF 'seedcornlaw23.StackcMeans'. -/
def stackcMeansCard : Claim7 := { stood := { row := stackcMeansRow, standIns := [], harness := (true, "041245e0494031b3c2d616c7818744b8b410d7fc96c1c5cd50e72f7bc7d968c3"), looks := true }, kinds := [], alts := [], laidByText := true, laidKinds := [.data, .data], laidTests := true, laidLooks := .later }
def StackcMeansCardSaid : Prop := Claim7.holds Tryz.pinned (.plain (OpenSpec.ofChange stackcMeansSpec)) stackcMeansCard

/-- THE TIED CARD OF 'seedcornlaw23.StackcIdle'. -/
def stackcIdleCard : Claim7 := { stood := { row := stackcIdleRow, standIns := [], harness := (true, "041245e0494031b3c2d616c7818744b8b410d7fc96c1c5cd50e72f7bc7d968c3"), looks := true }, kinds := [], alts := [], laidByText := true, laidKinds := [.data, .data], laidTests := true, laidLooks := .later }
def StackcIdleCardSaid : Prop := Claim7.holds Tryz.pinned (.plain (OpenSpec.ofChange stackcIdleSpec)) stackcIdleCard

/-- THE SECOND FORM's CARD OF 'seedcornlaw23.StackcMeans'. -/
def stackcMeansUptoCard : Claim7 := { stood := { row := stackcMeansUptoRow, standIns := [], harness := (true, "041245e0494031b3c2d616c7818744b8b410d7fc96c1c5cd50e72f7bc7d968c3"), looks := true }, kinds := [], alts := [], laidByText := true, laidKinds := [.data, .data], laidTests := true, laidLooks := .later }
def StackcMeansUptoCardSaid : Prop := Claim7.holds Tryz.pinned (.plain (OpenSpec.upto stackcMeansSpec)) stackcMeansUptoCard

/-- THE SECOND FORM's CARD OF 'seedcornlaw23.StackcIdle'. -/
def stackcIdleUptoCard : Claim7 := { stood := { row := stackcIdleUptoRow, standIns := [], harness := (true, "041245e0494031b3c2d616c7818744b8b410d7fc96c1c5cd50e72f7bc7d968c3"), looks := true }, kinds := [], alts := [], laidByText := true, laidKinds := [.data, .data], laidTests := true, laidLooks := .later }
def StackcIdleUptoCardSaid : Prop := Claim7.holds Tryz.pinned (.plain (OpenSpec.upto stackcIdleSpec)) stackcIdleUptoCard
end Rows
end Go.Proofs.YtlacbjnmkhndiaaGreatDoor
