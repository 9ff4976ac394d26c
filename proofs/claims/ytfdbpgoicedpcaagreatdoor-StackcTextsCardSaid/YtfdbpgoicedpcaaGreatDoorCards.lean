/-
  DERIVED. GIVEN WITH THE SEED: THE CARDS: each row of YtfdbpgoicedpcaaGreatDoorRows.lean that lists a variable, with what it lists TIED to the program's text (the seventh form; the later family's looks); each row that meets fmt, with fmt's text TOLD by the authors' own Lean function (tested against real Go, not proved from fmt's source: count such statements apart). THE CARD IS WHAT COUNTS. Prove the row's statement (the work); the ties are given (YtfdbpgoicedpcaaGreatDoorTie.lean); close each card by the builder's one call (the guide's Derived/Test/ToyasCard.lean, 'card_holds'). Laid BY PROGRAM, IN A SANDBOX (cutbox-door.mjs). By AI agents, Wed Nov 11 2026. No macro, syntax, notation, axiom, sorry.
-/
import Derived.Test.YtfdbpgoicedpcaaGreatDoorRows
import GoSem.ClaimSeven
namespace Go.Proofs.YtfdbpgoicedpcaaGreatDoor
namespace Rows

/-- THE TIED CARD OF 'seedcornlaw23.StackcTexts'. -/
def stackcTextsCard : Claim7 := { stood := { row := stackcTextsRow, standIns := [], harness := (true, "c1200bbb9c32670afeb641c739c0afb063155fe0e371c905d0d877263c243cba"), looks := true }, kinds := [], alts := [], laidByText := true, laidKinds := [.data, .data, .data, .data, .data, .data], laidTests := true, laidLooks := .later }
def StackcTextsCardSaid : Prop := Claim7.holds Tryz.pinned (.plain (OpenSpec.ofChange stackcTextsSpec)) stackcTextsCard

/-- THE SECOND FORM's CARD OF 'seedcornlaw23.StackcTexts'. -/
def stackcTextsUptoCard : Claim7 := { stood := { row := stackcTextsUptoRow, standIns := [], harness := (true, "c1200bbb9c32670afeb641c739c0afb063155fe0e371c905d0d877263c243cba"), looks := true }, kinds := [], alts := [], laidByText := true, laidKinds := [.data, .data, .data, .data, .data, .data], laidTests := true, laidLooks := .later }
def StackcTextsUptoCardSaid : Prop := Claim7.holds Tryz.pinned (.plain (OpenSpec.upto stackcTextsSpec)) stackcTextsUptoCard
end Rows
end Go.Proofs.YtfdbpgoicedpcaaGreatDoor
