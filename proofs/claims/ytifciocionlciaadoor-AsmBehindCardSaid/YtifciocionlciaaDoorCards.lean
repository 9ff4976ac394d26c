/-
  DERIVED. GIVEN WITH THE SEED: THE CARDS: each row of YtifciocionlciaaDoorRows.lean that lists a variable, with what it lists TIED to the program's text (the seventh form; the later family's looks); each row that meets fmt, with fmt's text TOLD by the authors' own Lean function (tested against real Go, not proved from fmt's source: count such statements apart). THE CARD IS WHAT COUNTS. Prove the row's statement (the work); the ties are given (YtifciocionlciaaDoorTie.lean); close each card by the builder's one call (the guide's Derived/Test/ToyasCard.lean, 'card_holds'). Laid BY PROGRAM, IN A SANDBOX (cutbox-door.mjs). By AI agents, Wed Nov 11 2026. No macro, syntax, notation, axiom, sorry.
-/
import Derived.Test.YtifciocionlciaaDoorRows
import GoSem.ClaimSeven
namespace Go.Proofs.YtifciocionlciaaDoor
namespace Rows

/-- THE TIED CARD OF 'seedcornlaw12.AsmLines'. -/
def asmLinesCard : Claim7 := { stood := { row := asmLinesRow, standIns := [], harness := (true, "5db5528ca732187e98990547439a31bb3e2f0da3f6e1bdc039f6e3eb5e953aba"), looks := false }, kinds := [], alts := [], laidByText := true, laidKinds := [.data, .data, .pinned], laidTests := true, laidLooks := .later }
def AsmLinesCardSaid : Prop := Claim7.holds Tryd.pinned (.plain (OpenSpec.ofChange asmLinesSpec)) asmLinesCard

/-- THE TIED CARD OF 'seedcornlaw12.AsmGreat'. -/
def asmGreatCard : Claim7 := { stood := { row := asmGreatRow, standIns := [], harness := (true, "5db5528ca732187e98990547439a31bb3e2f0da3f6e1bdc039f6e3eb5e953aba"), looks := false }, kinds := [], alts := [], laidByText := true, laidKinds := [.data, .data, .pinned], laidTests := true, laidLooks := .later }
def AsmGreatCardSaid : Prop := Claim7.holds Tryd.pinned (.plain (OpenSpec.ofChange asmGreatSpec)) asmGreatCard

/-- THE TIED CARD OF 'seedcornlaw12.AsmInstructions'. -/
def asmInstructionsCard : Claim7 := { stood := { row := asmInstructionsRow, standIns := [], harness := (true, "5db5528ca732187e98990547439a31bb3e2f0da3f6e1bdc039f6e3eb5e953aba"), looks := false }, kinds := [], alts := [], laidByText := true, laidKinds := [.data, .data, .pinned], laidTests := true, laidLooks := .later }
def AsmInstructionsCardSaid : Prop := Claim7.holds Tryd.pinned (.plain (OpenSpec.ofChange asmInstructionsSpec)) asmInstructionsCard

/-- THE TIED CARD OF 'seedcornlaw12.AsmBlanks'. -/
def asmBlanksCard : Claim7 := { stood := { row := asmBlanksRow, standIns := [], harness := (true, "5db5528ca732187e98990547439a31bb3e2f0da3f6e1bdc039f6e3eb5e953aba"), looks := false }, kinds := [], alts := [], laidByText := true, laidKinds := [.data, .data, .pinned], laidTests := true, laidLooks := .later }
def AsmBlanksCardSaid : Prop := Claim7.holds Tryd.pinned (.plain (OpenSpec.ofChange asmBlanksSpec)) asmBlanksCard

/-- THE TIED CARD OF 'seedcornlaw12.AsmBehind'. -/
def asmBehindCard : Claim7 := { stood := { row := asmBehindRow, standIns := [], harness := (true, "5db5528ca732187e98990547439a31bb3e2f0da3f6e1bdc039f6e3eb5e953aba"), looks := false }, kinds := [], alts := [], laidByText := true, laidKinds := [.data, .data, .pinned], laidTests := true, laidLooks := .later }
def AsmBehindCardSaid : Prop := Claim7.holds Tryd.pinned (.plain (OpenSpec.ofChange asmBehindSpec)) asmBehindCard

/-- THE TIED CARD OF 'seedcornlaw12.AsmLabels'. -/
def asmLabelsCard : Claim7 := { stood := { row := asmLabelsRow, standIns := [], harness := (true, "5db5528ca732187e98990547439a31bb3e2f0da3f6e1bdc039f6e3eb5e953aba"), looks := false }, kinds := [], alts := [], laidByText := true, laidKinds := [.data, .data, .pinned], laidTests := true, laidLooks := .later }
def AsmLabelsCardSaid : Prop := Claim7.holds Tryd.pinned (.plain (OpenSpec.ofChange asmLabelsSpec)) asmLabelsCard

/-- THE TIED CARD OF 'seedcornlaw12.AsmForms'. -/
def asmFormsCard : Claim7 := { stood := { row := asmFormsRow, standIns := [], harness := (true, "5db5528ca732187e98990547439a31bb3e2f0da3f6e1bdc039f6e3eb5e953aba"), looks := false }, kinds := [], alts := [], laidByText := true, laidKinds := [.data, .data, .pinned], laidTests := true, laidLooks := .later }
def AsmFormsCardSaid : Prop := Claim7.holds Tryd.pinned (.plain (OpenSpec.ofChange asmFormsSpec)) asmFormsCard

/-- THE SECOND FORM's CARD OF 'seedcornlaw12.AsmLines'. -/
def asmLinesUptoCard : Claim7 := { stood := { row := asmLinesUptoRow, standIns := [], harness := (true, "5db5528ca732187e98990547439a31bb3e2f0da3f6e1bdc039f6e3eb5e953aba"), looks := false }, kinds := [], alts := [], laidByText := true, laidKinds := [.data, .data, .pinned], laidTests := true, laidLooks := .later }
def AsmLinesUptoCardSaid : Prop := Claim7.holds Tryd.pinned (.plain (OpenSpec.upto asmLinesSpec)) asmLinesUptoCard

/-- THE SECOND FORM's CARD OF 'seedcornlaw12.AsmGreat'. -/
def asmGreatUptoCard : Claim7 := { stood := { row := asmGreatUptoRow, standIns := [], harness := (true, "5db5528ca732187e98990547439a31bb3e2f0da3f6e1bdc039f6e3eb5e953aba"), looks := false }, kinds := [], alts := [], laidByText := true, laidKinds := [.data, .data, .pinned], laidTests := true, laidLooks := .later }
def AsmGreatUptoCardSaid : Prop := Claim7.holds Tryd.pinned (.plain (OpenSpec.upto asmGreatSpec)) asmGreatUptoCard

/-- THE SECOND FORM's CARD OF 'seedcornlaw12.AsmInstructions'. -/
def asmInstructionsUptoCard : Claim7 := { stood := { row := asmInstructionsUptoRow, standIns := [], harness := (true, "5db5528ca732187e98990547439a31bb3e2f0da3f6e1bdc039f6e3eb5e953aba"), looks := false }, kinds := [], alts := [], laidByText := true, laidKinds := [.data, .data, .pinned], laidTests := true, laidLooks := .later }
def AsmInstructionsUptoCardSaid : Prop := Claim7.holds Tryd.pinned (.plain (OpenSpec.upto asmInstructionsSpec)) asmInstructionsUptoCard

/-- THE SECOND FORM's CARD OF 'seedcornlaw12.AsmBlanks'. -/
def asmBlanksUptoCard : Claim7 := { stood := { row := asmBlanksUptoRow, standIns := [], harness := (true, "5db5528ca732187e98990547439a31bb3e2f0da3f6e1bdc039f6e3eb5e953aba"), looks := false }, kinds := [], alts := [], laidByText := true, laidKinds := [.data, .data, .pinned], laidTests := true, laidLooks := .later }
def AsmBlanksUptoCardSaid : Prop := Claim7.holds Tryd.pinned (.plain (OpenSpec.upto asmBlanksSpec)) asmBlanksUptoCard

/-- THE SECOND FORM's CARD OF 'seedcornlaw12.AsmBehind'. -/
def asmBehindUptoCard : Claim7 := { stood := { row := asmBehindUptoRow, standIns := [], harness := (true, "5db5528ca732187e98990547439a31bb3e2f0da3f6e1bdc039f6e3eb5e953aba"), looks := false }, kinds := [], alts := [], laidByText := true, laidKinds := [.data, .data, .pinned], laidTests := true, laidLooks := .later }
def AsmBehindUptoCardSaid : Prop := Claim7.holds Tryd.pinned (.plain (OpenSpec.upto asmBehindSpec)) asmBehindUptoCard

/-- THE SECOND FORM's CARD OF 'seedcornlaw12.AsmLabels'. -/
def asmLabelsUptoCard : Claim7 := { stood := { row := asmLabelsUptoRow, standIns := [], harness := (true, "5db5528ca732187e98990547439a31bb3e2f0da3f6e1bdc039f6e3eb5e953aba"), looks := false }, kinds := [], alts := [], laidByText := true, laidKinds := [.data, .data, .pinned], laidTests := true, laidLooks := .later }
def AsmLabelsUptoCardSaid : Prop := Claim7.holds Tryd.pinned (.plain (OpenSpec.upto asmLabelsSpec)) asmLabelsUptoCard

/-- THE SECOND FORM's CARD OF 'seedcornlaw12.AsmForms'. -/
def asmFormsUptoCard : Claim7 := { stood := { row := asmFormsUptoRow, standIns := [], harness := (true, "5db5528ca732187e98990547439a31bb3e2f0da3f6e1bdc039f6e3eb5e953aba"), looks := false }, kinds := [], alts := [], laidByText := true, laidKinds := [.data, .data, .pinned], laidTests := true, laidLooks := .later }
def AsmFormsUptoCardSaid : Prop := Claim7.holds Tryd.pinned (.plain (OpenSpec.upto asmFormsSpec)) asmFormsUptoCard
end Rows
end Go.Proofs.YtifciocionlciaaDoor
