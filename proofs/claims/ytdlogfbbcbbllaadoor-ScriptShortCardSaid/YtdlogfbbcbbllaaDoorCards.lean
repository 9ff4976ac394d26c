/-
  DERIVED. GIVEN WITH THE SEED: THE CARDS: each row of YtdlogfbbcbbllaaDoorRows.lean that lists a variable, with what it lists TIED to the program's text (the seventh form; the later family's looks); each row that meets fmt, with fmt's text TOLD by the authors' own Lean function (tested against real Go, not proved from fmt's source: count such statements apart). THE CARD IS WHAT COUNTS. Prove the row's statement (the work); the ties are given (YtdlogfbbcbbllaaDoorTie.lean); close each card by the builder's one call (the guide's Derived/Test/ToyasCard.lean, 'card_holds'). Laid BY PROGRAM, IN A SANDBOX (cutbox-door.mjs). By AI agents, Wed Nov 11 2026. No macro, syntax, notation, axiom, sorry.
-/
import Derived.Test.YtdlogfbbcbbllaaDoorRows
import GoSem.ClaimSeven
namespace Go.Proofs.YtdlogfbbcbbllaaDoor
namespace Rows

/-- THE TIED CARD OF 'seedcornlaw53.ScriptReads'. -/
def scriptReadsCard : Claim7 := { stood := { row := scriptReadsRow, standIns := [], harness := (true, "1bbfa543764bfd695cb13f14f5f16227954af9ab5c6dc3ea00124beeaf836d22"), looks := false }, kinds := [], alts := [], laidByText := true, laidKinds := [.data, .pinned], laidTests := true, laidLooks := .later }
def ScriptReadsCardSaid : Prop := Claim7.holds Tryd.pinned (.plain (OpenSpec.ofChange scriptReadsSpec)) scriptReadsCard

/-- THE TIED CARD OF 'seedcornlaw53.ScriptBlanks'. -/
def scriptBlanksCard : Claim7 := { stood := { row := scriptBlanksRow, standIns := [], harness := (true, "1bbfa543764bfd695cb13f14f5f16227954af9ab5c6dc3ea00124beeaf836d22"), looks := false }, kinds := [], alts := [], laidByText := true, laidKinds := [.data, .pinned], laidTests := true, laidLooks := .later }
def ScriptBlanksCardSaid : Prop := Claim7.holds Tryd.pinned (.plain (OpenSpec.ofChange scriptBlanksSpec)) scriptBlanksCard

/-- THE TIED CARD OF 'seedcornlaw53.ScriptWords'. -/
def scriptWordsCard : Claim7 := { stood := { row := scriptWordsRow, standIns := [], harness := (true, "1bbfa543764bfd695cb13f14f5f16227954af9ab5c6dc3ea00124beeaf836d22"), looks := false }, kinds := [], alts := [], laidByText := true, laidKinds := [.data, .pinned], laidTests := true, laidLooks := .later }
def ScriptWordsCardSaid : Prop := Claim7.holds Tryd.pinned (.plain (OpenSpec.ofChange scriptWordsSpec)) scriptWordsCard

/-- THE TIED CARD OF 'seedcornlaw53.ScriptJoins'. -/
def scriptJoinsCard : Claim7 := { stood := { row := scriptJoinsRow, standIns := [], harness := (true, "1bbfa543764bfd695cb13f14f5f16227954af9ab5c6dc3ea00124beeaf836d22"), looks := false }, kinds := [], alts := [], laidByText := true, laidKinds := [.data, .pinned], laidTests := true, laidLooks := .later }
def ScriptJoinsCardSaid : Prop := Claim7.holds Tryd.pinned (.plain (OpenSpec.ofChange scriptJoinsSpec)) scriptJoinsCard

/-- THE TIED CARD OF 'seedcornlaw53.ScriptBare'. -/
def scriptBareCard : Claim7 := { stood := { row := scriptBareRow, standIns := [], harness := (true, "1bbfa543764bfd695cb13f14f5f16227954af9ab5c6dc3ea00124beeaf836d22"), looks := false }, kinds := [], alts := [], laidByText := true, laidKinds := [.data, .pinned], laidTests := true, laidLooks := .later }
def ScriptBareCardSaid : Prop := Claim7.holds Tryd.pinned (.plain (OpenSpec.ofChange scriptBareSpec)) scriptBareCard

/-- THE TIED CARD OF 'seedcornlaw53.ScriptNotes'. -/
def scriptNotesCard : Claim7 := { stood := { row := scriptNotesRow, standIns := [], harness := (true, "1bbfa543764bfd695cb13f14f5f16227954af9ab5c6dc3ea00124beeaf836d22"), looks := false }, kinds := [], alts := [], laidByText := true, laidKinds := [.data, .pinned], laidTests := true, laidLooks := .later }
def ScriptNotesCardSaid : Prop := Claim7.holds Tryd.pinned (.plain (OpenSpec.ofChange scriptNotesSpec)) scriptNotesCard

/-- THE TIED CARD OF 'seedcornlaw53.ScriptLines'. -/
def scriptLinesCard : Claim7 := { stood := { row := scriptLinesRow, standIns := [], harness := (true, "1bbfa543764bfd695cb13f14f5f16227954af9ab5c6dc3ea00124beeaf836d22"), looks := false }, kinds := [], alts := [], laidByText := true, laidKinds := [.data, .pinned], laidTests := true, laidLooks := .later }
def ScriptLinesCardSaid : Prop := Claim7.holds Tryd.pinned (.plain (OpenSpec.ofChange scriptLinesSpec)) scriptLinesCard

/-- THE TIED CARD OF 'seedcornlaw53.ScriptTexts'. -/
def scriptTextsCard : Claim7 := { stood := { row := scriptTextsRow, standIns := [], harness := (true, "1bbfa543764bfd695cb13f14f5f16227954af9ab5c6dc3ea00124beeaf836d22"), looks := false }, kinds := [], alts := [], laidByText := true, laidKinds := [.data, .pinned], laidTests := true, laidLooks := .later }
def ScriptTextsCardSaid : Prop := Claim7.holds Tryd.pinned (.plain (OpenSpec.ofChange scriptTextsSpec)) scriptTextsCard

/-- THE TIED CARD OF 'seedcornlaw53.ScriptBack'. -/
def scriptBackCard : Claim7 := { stood := { row := scriptBackRow, standIns := [], harness := (true, "1bbfa543764bfd695cb13f14f5f16227954af9ab5c6dc3ea00124beeaf836d22"), looks := false }, kinds := [], alts := [], laidByText := true, laidKinds := [.data, .pinned], laidTests := true, laidLooks := .later }
def ScriptBackCardSaid : Prop := Claim7.holds Tryd.pinned (.plain (OpenSpec.ofChange scriptBackSpec)) scriptBackCard

/-- THE TIED CARD OF 'seedcornlaw53.ScriptShort'. -/
def scriptShortCard : Claim7 := { stood := { row := scriptShortRow, standIns := [], harness := (true, "1bbfa543764bfd695cb13f14f5f16227954af9ab5c6dc3ea00124beeaf836d22"), looks := false }, kinds := [], alts := [], laidByText := true, laidKinds := [.data, .pinned], laidTests := true, laidLooks := .later }
def ScriptShortCardSaid : Prop := Claim7.holds Tryd.pinned (.plain (OpenSpec.ofChange scriptShortSpec)) scriptShortCard

/-- THE SECOND FORM's CARD OF 'seedcornlaw53.ScriptReads'. -/
def scriptReadsUptoCard : Claim7 := { stood := { row := scriptReadsUptoRow, standIns := [], harness := (true, "1bbfa543764bfd695cb13f14f5f16227954af9ab5c6dc3ea00124beeaf836d22"), looks := false }, kinds := [], alts := [], laidByText := true, laidKinds := [.data, .pinned], laidTests := true, laidLooks := .later }
def ScriptReadsUptoCardSaid : Prop := Claim7.holds Tryd.pinned (.plain (OpenSpec.upto scriptReadsSpec)) scriptReadsUptoCard

/-- THE SECOND FORM's CARD OF 'seedcornlaw53.ScriptBlanks'. -/
def scriptBlanksUptoCard : Claim7 := { stood := { row := scriptBlanksUptoRow, standIns := [], harness := (true, "1bbfa543764bfd695cb13f14f5f16227954af9ab5c6dc3ea00124beeaf836d22"), looks := false }, kinds := [], alts := [], laidByText := true, laidKinds := [.data, .pinned], laidTests := true, laidLooks := .later }
def ScriptBlanksUptoCardSaid : Prop := Claim7.holds Tryd.pinned (.plain (OpenSpec.upto scriptBlanksSpec)) scriptBlanksUptoCard

/-- THE SECOND FORM's CARD OF 'seedcornlaw53.ScriptWords'. -/
def scriptWordsUptoCard : Claim7 := { stood := { row := scriptWordsUptoRow, standIns := [], harness := (true, "1bbfa543764bfd695cb13f14f5f16227954af9ab5c6dc3ea00124beeaf836d22"), looks := false }, kinds := [], alts := [], laidByText := true, laidKinds := [.data, .pinned], laidTests := true, laidLooks := .later }
def ScriptWordsUptoCardSaid : Prop := Claim7.holds Tryd.pinned (.plain (OpenSpec.upto scriptWordsSpec)) scriptWordsUptoCard

/-- THE SECOND FORM's CARD OF 'seedcornlaw53.ScriptJoins'. -/
def scriptJoinsUptoCard : Claim7 := { stood := { row := scriptJoinsUptoRow, standIns := [], harness := (true, "1bbfa543764bfd695cb13f14f5f16227954af9ab5c6dc3ea00124beeaf836d22"), looks := false }, kinds := [], alts := [], laidByText := true, laidKinds := [.data, .pinned], laidTests := true, laidLooks := .later }
def ScriptJoinsUptoCardSaid : Prop := Claim7.holds Tryd.pinned (.plain (OpenSpec.upto scriptJoinsSpec)) scriptJoinsUptoCard

/-- THE SECOND FORM's CARD OF 'seedcornlaw53.ScriptBare'. -/
def scriptBareUptoCard : Claim7 := { stood := { row := scriptBareUptoRow, standIns := [], harness := (true, "1bbfa543764bfd695cb13f14f5f16227954af9ab5c6dc3ea00124beeaf836d22"), looks := false }, kinds := [], alts := [], laidByText := true, laidKinds := [.data, .pinned], laidTests := true, laidLooks := .later }
def ScriptBareUptoCardSaid : Prop := Claim7.holds Tryd.pinned (.plain (OpenSpec.upto scriptBareSpec)) scriptBareUptoCard

/-- THE SECOND FORM's CARD OF 'seedcornlaw53.ScriptNotes'. -/
def scriptNotesUptoCard : Claim7 := { stood := { row := scriptNotesUptoRow, standIns := [], harness := (true, "1bbfa543764bfd695cb13f14f5f16227954af9ab5c6dc3ea00124beeaf836d22"), looks := false }, kinds := [], alts := [], laidByText := true, laidKinds := [.data, .pinned], laidTests := true, laidLooks := .later }
def ScriptNotesUptoCardSaid : Prop := Claim7.holds Tryd.pinned (.plain (OpenSpec.upto scriptNotesSpec)) scriptNotesUptoCard

/-- THE SECOND FORM's CARD OF 'seedcornlaw53.ScriptLines'. -/
def scriptLinesUptoCard : Claim7 := { stood := { row := scriptLinesUptoRow, standIns := [], harness := (true, "1bbfa543764bfd695cb13f14f5f16227954af9ab5c6dc3ea00124beeaf836d22"), looks := false }, kinds := [], alts := [], laidByText := true, laidKinds := [.data, .pinned], laidTests := true, laidLooks := .later }
def ScriptLinesUptoCardSaid : Prop := Claim7.holds Tryd.pinned (.plain (OpenSpec.upto scriptLinesSpec)) scriptLinesUptoCard

/-- THE SECOND FORM's CARD OF 'seedcornlaw53.ScriptTexts'. -/
def scriptTextsUptoCard : Claim7 := { stood := { row := scriptTextsUptoRow, standIns := [], harness := (true, "1bbfa543764bfd695cb13f14f5f16227954af9ab5c6dc3ea00124beeaf836d22"), looks := false }, kinds := [], alts := [], laidByText := true, laidKinds := [.data, .pinned], laidTests := true, laidLooks := .later }
def ScriptTextsUptoCardSaid : Prop := Claim7.holds Tryd.pinned (.plain (OpenSpec.upto scriptTextsSpec)) scriptTextsUptoCard

/-- THE SECOND FORM's CARD OF 'seedcornlaw53.ScriptBack'. -/
def scriptBackUptoCard : Claim7 := { stood := { row := scriptBackUptoRow, standIns := [], harness := (true, "1bbfa543764bfd695cb13f14f5f16227954af9ab5c6dc3ea00124beeaf836d22"), looks := false }, kinds := [], alts := [], laidByText := true, laidKinds := [.data, .pinned], laidTests := true, laidLooks := .later }
def ScriptBackUptoCardSaid : Prop := Claim7.holds Tryd.pinned (.plain (OpenSpec.upto scriptBackSpec)) scriptBackUptoCard

/-- THE SECOND FORM's CARD OF 'seedcornlaw53.ScriptShort'. -/
def scriptShortUptoCard : Claim7 := { stood := { row := scriptShortUptoRow, standIns := [], harness := (true, "1bbfa543764bfd695cb13f14f5f16227954af9ab5c6dc3ea00124beeaf836d22"), looks := false }, kinds := [], alts := [], laidByText := true, laidKinds := [.data, .pinned], laidTests := true, laidLooks := .later }
def ScriptShortUptoCardSaid : Prop := Claim7.holds Tryd.pinned (.plain (OpenSpec.upto scriptShortSpec)) scriptShortUptoCard
end Rows
end Go.Proofs.YtdlogfbbcbbllaaDoor
