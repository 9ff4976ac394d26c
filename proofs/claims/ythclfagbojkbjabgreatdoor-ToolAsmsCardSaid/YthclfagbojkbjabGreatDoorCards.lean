/-
  DERIVED. GIVEN WITH THE SEED: THE CARDS: each row of YthclfagbojkbjabGreatDoorRows.lean that lists a variable, with what it lists TIED to the program's text (the seventh form; the later family's looks); each row that meets fmt, with fmt's text TOLD by the authors' own Lean function (tested against real Go, not proved from fmt's source: count such statements apart). THE CARD IS WHAT COUNTS. Prove the row's statement (the work); the ties are given (YthclfagbojkbjabGreatDoorTie.lean); close each card by the builder's one call (the guide's Derived/Test/ToyasCard.lean, 'card_holds'). Laid BY PROGRAM, IN A SANDBOX (cutbox-door.mjs). By AI agents, Wed Nov 11 2026. No macro, syntax, notation, axiom, sorry.
-/
import Derived.Test.YthclfagbojkbjabGreatDoorRows
import GoSem.ClaimSeven
namespace Go.Proofs.YthclfagbojkbjabGreatDoor
namespace Rows

/-- THE TIED CARD OF 'seedcornlaw39.ToolAsms'. -/
def toolAsmsCard : Claim7 := { stood := { row := toolAsmsRow, standIns := [], harness := (true, "ce9980b9b03df01b19a23f6d972882ac825a0124820f664184d868d13836e832"), looks := true }, kinds := [], alts := [], laidByText := true, laidKinds := [.data, .data, .data, .data, .pinned], laidTests := true, laidLooks := .later }
def ToolAsmsCardSaid : Prop := Claim7.holds Tryz.pinned (.plain (OpenSpec.ofChange toolAsmsSpec)) toolAsmsCard

/-- THE SECOND FORM's CARD OF 'seedcornlaw39.ToolAsms'. -/
def toolAsmsUptoCard : Claim7 := { stood := { row := toolAsmsUptoRow, standIns := [], harness := (true, "ce9980b9b03df01b19a23f6d972882ac825a0124820f664184d868d13836e832"), looks := true }, kinds := [], alts := [], laidByText := true, laidKinds := [.data, .data, .data, .data, .pinned], laidTests := true, laidLooks := .later }
def ToolAsmsUptoCardSaid : Prop := Claim7.holds Tryz.pinned (.plain (OpenSpec.upto toolAsmsSpec)) toolAsmsUptoCard
end Rows
end Go.Proofs.YthclfagbojkbjabGreatDoor
