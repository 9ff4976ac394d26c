/-
  NARROWER THAN 'FOR EVERY INPUT', by the rows' own cells (each row's printed sentence says how): AsmLines: laid · AsmGreat: laid · AsmInstructions: laid · AsmBlanks: laid · AsmBehind: laid · AsmLabels: laid · AsmForms: laid.
  DERIVED. THE GIVEN ROWS OF THIS SEAT. 7 by the template 'for every input the law returns true; each argument reads behind the call as it read before'; 0 by the template 'total and deterministic' (their statements: YtifciocionlciaaDoorTotals.lean).
  GIVEN WITH THE SEED: the statements are not yours to turn. If you find one false, say at which input.
  Laid BY PROGRAM, IN A SANDBOX (cutbox-rows.mjs): the forced cells as the released guide's own fill.sh prints them over the translation 6d38e1d5996e1079… (all of the seat's roots in one cut). By AI agents, Wed Nov 11 2026. No macro, syntax, notation, axiom, sorry.
-/
import Derived.Test.YtifciocionlciaaDoorChecked
import GoSem.PinnedTables
import GoSem.Claim
import GoSem.ClaimJoined
import GoSem.ClaimMapViews
import Derived.JoinedTies
import Derived.KernelRfl
namespace Go.Proofs.YtifciocionlciaaDoor
/- THE CELL 'sum', in the pinned program and in every row, IS THE sha256 OF THE DUMP (.gsa) THAT YtifciocionlciaaDoorProg.lean LOADS. Nothing in Lean hashes anything: it is a label: what it is worth is what the hold of that sum in a sandbox is worth. -/
noncomputable def Tryd.pinned : Pinned := { name := "ytifciocionlciaadoor", sum := "6d38e1d5996e1079c9c15e09ced4bc0ec6149ea94ecd35f980e9cc91f61b9695", checked := Tryd.checked }
namespace Rows
def none {H : Type} : Left H := { results := [], args := [] }

/- WHAT THE LISTED PACKAGE-LEVEL VARIABLES READ AS WHEN THE CALL BEGINS. Each datum BY PROGRAM (the guide's laid-datum.mjs) off the statement by which the dump's own 'gosem.cut.vars' lays the variable. In a bare row this is a premise. The card (YtifciocionlciaaDoorCards.lean) ties it to the program's text. -/
def laid_unicode_utf8_acceptRanges {H : Type} : DataW H := .agg [.agg [.lit (.int .u8 128), .lit (.int .u8 191)], .agg [.lit (.int .u8 160), .lit (.int .u8 191)], .agg [.lit (.int .u8 128), .lit (.int .u8 159)], .agg [.lit (.int .u8 144), .lit (.int .u8 191)], .agg [.lit (.int .u8 128), .lit (.int .u8 143)], .agg [.lit (.int .u8 0), .lit (.int .u8 0)], .agg [.lit (.int .u8 0), .lit (.int .u8 0)], .agg [.lit (.int .u8 0), .lit (.int .u8 0)], .agg [.lit (.int .u8 0), .lit (.int .u8 0)], .agg [.lit (.int .u8 0), .lit (.int .u8 0)], .agg [.lit (.int .u8 0), .lit (.int .u8 0)], .agg [.lit (.int .u8 0), .lit (.int .u8 0)], .agg [.lit (.int .u8 0), .lit (.int .u8 0)], .agg [.lit (.int .u8 0), .lit (.int .u8 0)], .agg [.lit (.int .u8 0), .lit (.int .u8 0)], .agg [.lit (.int .u8 0), .lit (.int .u8 0)]]
def laid_seedcorn_hex_small {H : Type} : DataW H := .agg [.lit (.int .u8 48), .lit (.int .u8 49), .lit (.int .u8 50), .lit (.int .u8 51), .lit (.int .u8 52), .lit (.int .u8 53), .lit (.int .u8 54), .lit (.int .u8 55), .lit (.int .u8 56), .lit (.int .u8 57), .lit (.int .u8 97), .lit (.int .u8 98), .lit (.int .u8 99), .lit (.int .u8 100), .lit (.int .u8 101), .lit (.int .u8 102)]
/-- One of Go's own tables, pinned by name: the form's constant. -/
def laid_unicode_utf8_first : DataW Unit := Go.Pinned.utf8First

/-- 'seedcornlaw12.AsmLines': WHATEVER THE INPUT: true; the input reads as it did. -/
def asmLinesSpec : ChangeSpec := { name := "asmLines", fn := fun _ => fun
  | [d] => { results := [.lit (.bool true)], args := [d] }
  | _ => none }
def asmLinesRow : OpenClaim := { program := "ytifciocionlciaadoor", sum := "6d38e1d5996e1079c9c15e09ced4bc0ec6149ea94ecd35f980e9cc91f61b9695", func := "seedcorn/seedcornlaw12.AsmLines", spec := "asmLines", inPlace := ["internal/bytealg.CountString", "internal/bytealg.IndexByteString", "internal/bytealg.IndexString", "internal/abi.NoEscape", "internal/bytealg.MakeNoZero"], named := ["unicode/utf8.first", "unicode/utf8.acceptRanges", "internal/bytealg.MaxLen", "seedcorn/hex.small"], apart := false, laid := [("unicode/utf8.acceptRanges", laid_unicode_utf8_acceptRanges), ("seedcorn/hex.small", laid_seedcorn_hex_small), ("unicode/utf8.first", laid_unicode_utf8_first)] }
def AsmLinesSaid : Prop := asmLinesRow.holds Tryd.pinned (OpenSpec.ofChange asmLinesSpec)

/-- ITS FALSE NEIGHBOUR: 'it returns false'. Refute it at one input. -/
def asmLinesWrong : ChangeSpec := { name := "asmLines", fn := fun _ => fun
  | [d] => { results := [.lit (.bool false)], args := [d] }
  | _ => none }
def AsmLinesWrongFalsely : Prop := asmLinesRow.holds Tryd.pinned (OpenSpec.ofChange asmLinesWrong)

/-- 'seedcornlaw12.AsmGreat': WHATEVER THE INPUT: true; the input reads as it did. -/
def asmGreatSpec : ChangeSpec := { name := "asmGreat", fn := fun _ => fun
  | [d1, d2] => { results := [.lit (.bool true)], args := [d1, d2] }
  | _ => none }
def asmGreatRow : OpenClaim := { program := "ytifciocionlciaadoor", sum := "6d38e1d5996e1079c9c15e09ced4bc0ec6149ea94ecd35f980e9cc91f61b9695", func := "seedcorn/seedcornlaw12.AsmGreat", spec := "asmGreat", inPlace := ["internal/bytealg.CountString", "internal/bytealg.IndexByteString", "internal/bytealg.IndexString", "internal/abi.NoEscape", "internal/bytealg.MakeNoZero"], named := ["unicode/utf8.first", "unicode/utf8.acceptRanges", "internal/bytealg.MaxLen", "seedcorn/hex.small"], apart := false, laid := [("unicode/utf8.acceptRanges", laid_unicode_utf8_acceptRanges), ("seedcorn/hex.small", laid_seedcorn_hex_small), ("unicode/utf8.first", laid_unicode_utf8_first)] }
def AsmGreatSaid : Prop := asmGreatRow.holds Tryd.pinned (OpenSpec.ofChange asmGreatSpec)

/-- ITS FALSE NEIGHBOUR: 'it returns false'. Refute it at one input. -/
def asmGreatWrong : ChangeSpec := { name := "asmGreat", fn := fun _ => fun
  | [d1, d2] => { results := [.lit (.bool false)], args := [d1, d2] }
  | _ => none }
def AsmGreatWrongFalsely : Prop := asmGreatRow.holds Tryd.pinned (OpenSpec.ofChange asmGreatWrong)

/-- 'seedcornlaw12.AsmInstructions': WHATEVER THE INPUT: true; the input reads as it did. -/
def asmInstructionsSpec : ChangeSpec := { name := "asmInstructions", fn := fun _ => fun
  | [d] => { results := [.lit (.bool true)], args := [d] }
  | _ => none }
def asmInstructionsRow : OpenClaim := { program := "ytifciocionlciaadoor", sum := "6d38e1d5996e1079c9c15e09ced4bc0ec6149ea94ecd35f980e9cc91f61b9695", func := "seedcorn/seedcornlaw12.AsmInstructions", spec := "asmInstructions", inPlace := ["internal/bytealg.CountString", "internal/bytealg.IndexByteString", "internal/bytealg.IndexString", "internal/abi.NoEscape", "internal/bytealg.MakeNoZero"], named := ["unicode/utf8.first", "unicode/utf8.acceptRanges", "internal/bytealg.MaxLen", "seedcorn/hex.small"], apart := false, laid := [("unicode/utf8.acceptRanges", laid_unicode_utf8_acceptRanges), ("seedcorn/hex.small", laid_seedcorn_hex_small), ("unicode/utf8.first", laid_unicode_utf8_first)] }
def AsmInstructionsSaid : Prop := asmInstructionsRow.holds Tryd.pinned (OpenSpec.ofChange asmInstructionsSpec)

/-- ITS FALSE NEIGHBOUR: 'it returns false'. Refute it at one input. -/
def asmInstructionsWrong : ChangeSpec := { name := "asmInstructions", fn := fun _ => fun
  | [d] => { results := [.lit (.bool false)], args := [d] }
  | _ => none }
def AsmInstructionsWrongFalsely : Prop := asmInstructionsRow.holds Tryd.pinned (OpenSpec.ofChange asmInstructionsWrong)

/-- 'seedcornlaw12.AsmBlanks': WHATEVER THE INPUT: true; the input reads as it did. -/
def asmBlanksSpec : ChangeSpec := { name := "asmBlanks", fn := fun _ => fun
  | [d1, d2] => { results := [.lit (.bool true)], args := [d1, d2] }
  | _ => none }
def asmBlanksRow : OpenClaim := { program := "ytifciocionlciaadoor", sum := "6d38e1d5996e1079c9c15e09ced4bc0ec6149ea94ecd35f980e9cc91f61b9695", func := "seedcorn/seedcornlaw12.AsmBlanks", spec := "asmBlanks", inPlace := ["internal/bytealg.CountString", "internal/bytealg.IndexByteString", "internal/bytealg.IndexString", "internal/abi.NoEscape", "internal/bytealg.MakeNoZero"], named := ["unicode/utf8.first", "unicode/utf8.acceptRanges", "internal/bytealg.MaxLen", "seedcorn/hex.small"], apart := false, laid := [("unicode/utf8.acceptRanges", laid_unicode_utf8_acceptRanges), ("seedcorn/hex.small", laid_seedcorn_hex_small), ("unicode/utf8.first", laid_unicode_utf8_first)] }
def AsmBlanksSaid : Prop := asmBlanksRow.holds Tryd.pinned (OpenSpec.ofChange asmBlanksSpec)

/-- ITS FALSE NEIGHBOUR: 'it returns false'. Refute it at one input. -/
def asmBlanksWrong : ChangeSpec := { name := "asmBlanks", fn := fun _ => fun
  | [d1, d2] => { results := [.lit (.bool false)], args := [d1, d2] }
  | _ => none }
def AsmBlanksWrongFalsely : Prop := asmBlanksRow.holds Tryd.pinned (OpenSpec.ofChange asmBlanksWrong)

/-- 'seedcornlaw12.AsmBehind': WHATEVER THE INPUT: true; the input reads as it did. -/
def asmBehindSpec : ChangeSpec := { name := "asmBehind", fn := fun _ => fun
  | [d1, d2] => { results := [.lit (.bool true)], args := [d1, d2] }
  | _ => none }
def asmBehindRow : OpenClaim := { program := "ytifciocionlciaadoor", sum := "6d38e1d5996e1079c9c15e09ced4bc0ec6149ea94ecd35f980e9cc91f61b9695", func := "seedcorn/seedcornlaw12.AsmBehind", spec := "asmBehind", inPlace := ["internal/bytealg.CountString", "internal/bytealg.IndexByteString", "internal/bytealg.IndexString", "internal/abi.NoEscape", "internal/bytealg.MakeNoZero"], named := ["unicode/utf8.first", "unicode/utf8.acceptRanges", "internal/bytealg.MaxLen", "seedcorn/hex.small"], apart := false, laid := [("unicode/utf8.acceptRanges", laid_unicode_utf8_acceptRanges), ("seedcorn/hex.small", laid_seedcorn_hex_small), ("unicode/utf8.first", laid_unicode_utf8_first)] }
def AsmBehindSaid : Prop := asmBehindRow.holds Tryd.pinned (OpenSpec.ofChange asmBehindSpec)

/-- ITS FALSE NEIGHBOUR: 'it returns false'. Refute it at one input. -/
def asmBehindWrong : ChangeSpec := { name := "asmBehind", fn := fun _ => fun
  | [d1, d2] => { results := [.lit (.bool false)], args := [d1, d2] }
  | _ => none }
def AsmBehindWrongFalsely : Prop := asmBehindRow.holds Tryd.pinned (OpenSpec.ofChange asmBehindWrong)

/-- 'seedcornlaw12.AsmLabels': WHATEVER THE INPUT: true; the input reads as it did. -/
def asmLabelsSpec : ChangeSpec := { name := "asmLabels", fn := fun _ => fun
  | [d1, d2, d3] => { results := [.lit (.bool true)], args := [d1, d2, d3] }
  | _ => none }
def asmLabelsRow : OpenClaim := { program := "ytifciocionlciaadoor", sum := "6d38e1d5996e1079c9c15e09ced4bc0ec6149ea94ecd35f980e9cc91f61b9695", func := "seedcorn/seedcornlaw12.AsmLabels", spec := "asmLabels", inPlace := ["internal/bytealg.CountString", "internal/bytealg.IndexByteString", "internal/bytealg.IndexString", "internal/abi.NoEscape", "internal/bytealg.MakeNoZero"], named := ["unicode/utf8.first", "unicode/utf8.acceptRanges", "internal/bytealg.MaxLen", "seedcorn/hex.small"], apart := false, laid := [("unicode/utf8.acceptRanges", laid_unicode_utf8_acceptRanges), ("seedcorn/hex.small", laid_seedcorn_hex_small), ("unicode/utf8.first", laid_unicode_utf8_first)] }
def AsmLabelsSaid : Prop := asmLabelsRow.holds Tryd.pinned (OpenSpec.ofChange asmLabelsSpec)

/-- ITS FALSE NEIGHBOUR: 'it returns false'. Refute it at one input. -/
def asmLabelsWrong : ChangeSpec := { name := "asmLabels", fn := fun _ => fun
  | [d1, d2, d3] => { results := [.lit (.bool false)], args := [d1, d2, d3] }
  | _ => none }
def AsmLabelsWrongFalsely : Prop := asmLabelsRow.holds Tryd.pinned (OpenSpec.ofChange asmLabelsWrong)

/-- 'seedcornlaw12.AsmForms': WHATEVER THE INPUT: true; the input reads as it did. -/
def asmFormsSpec : ChangeSpec := { name := "asmForms", fn := fun _ => fun
  | [d1, d2] => { results := [.lit (.bool true)], args := [d1, d2] }
  | _ => none }
def asmFormsRow : OpenClaim := { program := "ytifciocionlciaadoor", sum := "6d38e1d5996e1079c9c15e09ced4bc0ec6149ea94ecd35f980e9cc91f61b9695", func := "seedcorn/seedcornlaw12.AsmForms", spec := "asmForms", inPlace := ["internal/bytealg.CountString", "internal/bytealg.IndexByteString", "internal/bytealg.IndexString", "internal/abi.NoEscape", "internal/bytealg.MakeNoZero"], named := ["unicode/utf8.first", "unicode/utf8.acceptRanges", "internal/bytealg.MaxLen", "seedcorn/hex.small"], apart := false, laid := [("unicode/utf8.acceptRanges", laid_unicode_utf8_acceptRanges), ("seedcorn/hex.small", laid_seedcorn_hex_small), ("unicode/utf8.first", laid_unicode_utf8_first)] }
def AsmFormsSaid : Prop := asmFormsRow.holds Tryd.pinned (OpenSpec.ofChange asmFormsSpec)

/-- ITS FALSE NEIGHBOUR: 'it returns false'. Refute it at one input. -/
def asmFormsWrong : ChangeSpec := { name := "asmForms", fn := fun _ => fun
  | [d1, d2] => { results := [.lit (.bool false)], args := [d1, d2] }
  | _ => none }
def AsmFormsWrongFalsely : Prop := asmFormsRow.holds Tryd.pinned (OpenSpec.ofChange asmFormsWrong)

/- THE SECOND FORM. 'bulk': how many values and letters a reading holds, each counted each time it is reached (what is shared counts as often as it is met; a slice's spare places count too). A statement '..UptoSaid' is the law's where the arguments, and the package variables that the reading takes, are together of bulk at most 1048576: NARROWER than '..Said'. Prove '..Said' where nothing that the law and all that it calls make is longer than what came in: it says more and counts as full. Else prove '..UptoSaid'. A law counts once. -/
mutual
def uptoBulk {H : Type} : DataW H → Nat
  | .lit (.string bytes) => bytes.length + 1
  | .lit _ => 1
  | .nil => 1
  | .ptr d => uptoBulk d + 1
  | .slice elems spare => uptoBulkAll elems + uptoBulkAll spare + 1
  | .agg parts => uptoBulkAll parts + 1
  | .iface _ d => uptoBulk d + 1
  | .map entries => uptoBulkEntries entries + 1
  | .held _ => 1
def uptoBulkAll {H : Type} : List (DataW H) → Nat
  | [] => 0
  | d :: r => uptoBulk d + uptoBulkAll r
def uptoBulkEntries {H : Type} : List (Lit × DataW H) → Nat
  | [] => 0
  | x :: r => uptoBulkEntry x + uptoBulkEntries r
def uptoBulkEntry {H : Type} : Lit × DataW H → Nat
  | (.string bytes, d) => bytes.length + uptoBulk d + 1
  | (_, d) => uptoBulk d + 1
 end
def uptoSmall : (H : Type) → List (DataW H) → Bool := fun _ ds => decide (uptoBulkAll ds ≤ 1048576)
def OpenSpec.upto (s : _root_.Go.ChangeSpec) : _root_.Go.OpenSpec := { _root_.Go.OpenSpec.ofChange s with cond := some uptoSmall }

/-- 'seedcornlaw12.AsmLines', WHERE WHAT IT READS IS OF BULK AT MOST 1048576: true; the input reads as it did. -/
def asmLinesUptoRow : OpenClaim := { program := "ytifciocionlciaadoor", sum := "6d38e1d5996e1079c9c15e09ced4bc0ec6149ea94ecd35f980e9cc91f61b9695", func := "seedcorn/seedcornlaw12.AsmLines", spec := "asmLines", inPlace := ["internal/bytealg.CountString", "internal/bytealg.IndexByteString", "internal/bytealg.IndexString", "internal/abi.NoEscape", "internal/bytealg.MakeNoZero"], named := ["unicode/utf8.first", "unicode/utf8.acceptRanges", "internal/bytealg.MaxLen", "seedcorn/hex.small"], apart := false, laid := [("unicode/utf8.acceptRanges", laid_unicode_utf8_acceptRanges), ("seedcorn/hex.small", laid_seedcorn_hex_small), ("unicode/utf8.first", laid_unicode_utf8_first)], narrowed := true }
def AsmLinesUptoSaid : Prop := asmLinesUptoRow.holds Tryd.pinned (OpenSpec.upto asmLinesSpec)

/-- 'seedcornlaw12.AsmGreat', WHERE WHAT IT READS IS OF BULK AT MOST 1048576: true; the input reads as it did. -/
def asmGreatUptoRow : OpenClaim := { program := "ytifciocionlciaadoor", sum := "6d38e1d5996e1079c9c15e09ced4bc0ec6149ea94ecd35f980e9cc91f61b9695", func := "seedcorn/seedcornlaw12.AsmGreat", spec := "asmGreat", inPlace := ["internal/bytealg.CountString", "internal/bytealg.IndexByteString", "internal/bytealg.IndexString", "internal/abi.NoEscape", "internal/bytealg.MakeNoZero"], named := ["unicode/utf8.first", "unicode/utf8.acceptRanges", "internal/bytealg.MaxLen", "seedcorn/hex.small"], apart := false, laid := [("unicode/utf8.acceptRanges", laid_unicode_utf8_acceptRanges), ("seedcorn/hex.small", laid_seedcorn_hex_small), ("unicode/utf8.first", laid_unicode_utf8_first)], narrowed := true }
def AsmGreatUptoSaid : Prop := asmGreatUptoRow.holds Tryd.pinned (OpenSpec.upto asmGreatSpec)

/-- 'seedcornlaw12.AsmInstructions', WHERE WHAT IT READS IS OF BULK AT MOST 1048576: true; the input reads as it did. -/
def asmInstructionsUptoRow : OpenClaim := { program := "ytifciocionlciaadoor", sum := "6d38e1d5996e1079c9c15e09ced4bc0ec6149ea94ecd35f980e9cc91f61b9695", func := "seedcorn/seedcornlaw12.AsmInstructions", spec := "asmInstructions", inPlace := ["internal/bytealg.CountString", "internal/bytealg.IndexByteString", "internal/bytealg.IndexString", "internal/abi.NoEscape", "internal/bytealg.MakeNoZero"], named := ["unicode/utf8.first", "unicode/utf8.acceptRanges", "internal/bytealg.MaxLen", "seedcorn/hex.small"], apart := false, laid := [("unicode/utf8.acceptRanges", laid_unicode_utf8_acceptRanges), ("seedcorn/hex.small", laid_seedcorn_hex_small), ("unicode/utf8.first", laid_unicode_utf8_first)], narrowed := true }
def AsmInstructionsUptoSaid : Prop := asmInstructionsUptoRow.holds Tryd.pinned (OpenSpec.upto asmInstructionsSpec)

/-- 'seedcornlaw12.AsmBlanks', WHERE WHAT IT READS IS OF BULK AT MOST 1048576: true; the input reads as it did. -/
def asmBlanksUptoRow : OpenClaim := { program := "ytifciocionlciaadoor", sum := "6d38e1d5996e1079c9c15e09ced4bc0ec6149ea94ecd35f980e9cc91f61b9695", func := "seedcorn/seedcornlaw12.AsmBlanks", spec := "asmBlanks", inPlace := ["internal/bytealg.CountString", "internal/bytealg.IndexByteString", "internal/bytealg.IndexString", "internal/abi.NoEscape", "internal/bytealg.MakeNoZero"], named := ["unicode/utf8.first", "unicode/utf8.acceptRanges", "internal/bytealg.MaxLen", "seedcorn/hex.small"], apart := false, laid := [("unicode/utf8.acceptRanges", laid_unicode_utf8_acceptRanges), ("seedcorn/hex.small", laid_seedcorn_hex_small), ("unicode/utf8.first", laid_unicode_utf8_first)], narrowed := true }
def AsmBlanksUptoSaid : Prop := asmBlanksUptoRow.holds Tryd.pinned (OpenSpec.upto asmBlanksSpec)

/-- 'seedcornlaw12.AsmBehind', WHERE WHAT IT READS IS OF BULK AT MOST 1048576: true; the input reads as it did. -/
def asmBehindUptoRow : OpenClaim := { program := "ytifciocionlciaadoor", sum := "6d38e1d5996e1079c9c15e09ced4bc0ec6149ea94ecd35f980e9cc91f61b9695", func := "seedcorn/seedcornlaw12.AsmBehind", spec := "asmBehind", inPlace := ["internal/bytealg.CountString", "internal/bytealg.IndexByteString", "internal/bytealg.IndexString", "internal/abi.NoEscape", "internal/bytealg.MakeNoZero"], named := ["unicode/utf8.first", "unicode/utf8.acceptRanges", "internal/bytealg.MaxLen", "seedcorn/hex.small"], apart := false, laid := [("unicode/utf8.acceptRanges", laid_unicode_utf8_acceptRanges), ("seedcorn/hex.small", laid_seedcorn_hex_small), ("unicode/utf8.first", laid_unicode_utf8_first)], narrowed := true }
def AsmBehindUptoSaid : Prop := asmBehindUptoRow.holds Tryd.pinned (OpenSpec.upto asmBehindSpec)

/-- 'seedcornlaw12.AsmLabels', WHERE WHAT IT READS IS OF BULK AT MOST 1048576: true; the input reads as it did. -/
def asmLabelsUptoRow : OpenClaim := { program := "ytifciocionlciaadoor", sum := "6d38e1d5996e1079c9c15e09ced4bc0ec6149ea94ecd35f980e9cc91f61b9695", func := "seedcorn/seedcornlaw12.AsmLabels", spec := "asmLabels", inPlace := ["internal/bytealg.CountString", "internal/bytealg.IndexByteString", "internal/bytealg.IndexString", "internal/abi.NoEscape", "internal/bytealg.MakeNoZero"], named := ["unicode/utf8.first", "unicode/utf8.acceptRanges", "internal/bytealg.MaxLen", "seedcorn/hex.small"], apart := false, laid := [("unicode/utf8.acceptRanges", laid_unicode_utf8_acceptRanges), ("seedcorn/hex.small", laid_seedcorn_hex_small), ("unicode/utf8.first", laid_unicode_utf8_first)], narrowed := true }
def AsmLabelsUptoSaid : Prop := asmLabelsUptoRow.holds Tryd.pinned (OpenSpec.upto asmLabelsSpec)

/-- 'seedcornlaw12.AsmForms', WHERE WHAT IT READS IS OF BULK AT MOST 1048576: true; the input reads as it did. -/
def asmFormsUptoRow : OpenClaim := { program := "ytifciocionlciaadoor", sum := "6d38e1d5996e1079c9c15e09ced4bc0ec6149ea94ecd35f980e9cc91f61b9695", func := "seedcorn/seedcornlaw12.AsmForms", spec := "asmForms", inPlace := ["internal/bytealg.CountString", "internal/bytealg.IndexByteString", "internal/bytealg.IndexString", "internal/abi.NoEscape", "internal/bytealg.MakeNoZero"], named := ["unicode/utf8.first", "unicode/utf8.acceptRanges", "internal/bytealg.MaxLen", "seedcorn/hex.small"], apart := false, laid := [("unicode/utf8.acceptRanges", laid_unicode_utf8_acceptRanges), ("seedcorn/hex.small", laid_seedcorn_hex_small), ("unicode/utf8.first", laid_unicode_utf8_first)], narrowed := true }
def AsmFormsUptoSaid : Prop := asmFormsUptoRow.holds Tryd.pinned (OpenSpec.upto asmFormsSpec)

end Rows
end Go.Proofs.YtifciocionlciaaDoor
