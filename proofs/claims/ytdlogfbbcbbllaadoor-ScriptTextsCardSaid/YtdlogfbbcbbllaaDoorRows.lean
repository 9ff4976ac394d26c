/-
  NARROWER THAN 'FOR EVERY INPUT', by the rows' own cells (each row's printed sentence says how): ScriptReads: laid · ScriptBlanks: laid · ScriptWords: laid · ScriptJoins: laid · ScriptBare: laid · ScriptNotes: laid · ScriptLines: laid · ScriptTexts: laid · ScriptBack: laid · ScriptShort: laid.
  DERIVED. THE GIVEN ROWS OF THIS SEAT. 10 by the template 'for every input the law returns true; each argument reads behind the call as it read before'; 0 by the template 'total and deterministic' (their statements: YtdlogfbbcbbllaaDoorTotals.lean).
  GIVEN WITH THE SEED: the statements are not yours to turn. If you find one false, say at which input.
  Laid BY PROGRAM, IN A SANDBOX (cutbox-rows.mjs): the forced cells as the released guide's own fill.sh prints them over the translation 306f0ad06261ab12… (all of the seat's roots in one cut). By AI agents, Wed Nov 11 2026. No macro, syntax, notation, axiom, sorry.
-/
import Derived.Test.YtdlogfbbcbbllaaDoorChecked
import GoSem.PinnedTables
import GoSem.Claim
import GoSem.ClaimJoined
import GoSem.ClaimMapViews
import Derived.JoinedTies
import Derived.KernelRfl
namespace Go.Proofs.YtdlogfbbcbbllaaDoor
/- THE CELL 'sum', in the pinned program and in every row, IS THE sha256 OF THE DUMP (.gsa) THAT YtdlogfbbcbbllaaDoorProg.lean LOADS. Nothing in Lean hashes anything: it is a label: what it is worth is what the hold of that sum in a sandbox is worth. -/
noncomputable def Tryd.pinned : Pinned := { name := "ytdlogfbbcbbllaadoor", sum := "306f0ad06261ab126b0a15504df97d8401c284676f7c982539ef46ace1fc5511", checked := Tryd.checked }
namespace Rows
def none {H : Type} : Left H := { results := [], args := [] }

/- WHAT THE LISTED PACKAGE-LEVEL VARIABLES READ AS WHEN THE CALL BEGINS. Each datum BY PROGRAM (the guide's laid-datum.mjs) off the statement by which the dump's own 'gosem.cut.vars' lays the variable. In a bare row this is a premise. The card (YtdlogfbbcbbllaaDoorCards.lean) ties it to the program's text. -/
def laid_unicode_utf8_acceptRanges {H : Type} : DataW H := .agg [.agg [.lit (.int .u8 128), .lit (.int .u8 191)], .agg [.lit (.int .u8 160), .lit (.int .u8 191)], .agg [.lit (.int .u8 128), .lit (.int .u8 159)], .agg [.lit (.int .u8 144), .lit (.int .u8 191)], .agg [.lit (.int .u8 128), .lit (.int .u8 143)], .agg [.lit (.int .u8 0), .lit (.int .u8 0)], .agg [.lit (.int .u8 0), .lit (.int .u8 0)], .agg [.lit (.int .u8 0), .lit (.int .u8 0)], .agg [.lit (.int .u8 0), .lit (.int .u8 0)], .agg [.lit (.int .u8 0), .lit (.int .u8 0)], .agg [.lit (.int .u8 0), .lit (.int .u8 0)], .agg [.lit (.int .u8 0), .lit (.int .u8 0)], .agg [.lit (.int .u8 0), .lit (.int .u8 0)], .agg [.lit (.int .u8 0), .lit (.int .u8 0)], .agg [.lit (.int .u8 0), .lit (.int .u8 0)], .agg [.lit (.int .u8 0), .lit (.int .u8 0)]]
/-- One of Go's own tables, pinned by name: the form's constant. -/
def laid_unicode_utf8_first : DataW Unit := Go.Pinned.utf8First

/-- 'seedcornlaw53.ScriptReads': WHATEVER THE INPUT: true; the input reads as it did. -/
def scriptReadsSpec : ChangeSpec := { name := "scriptReads", fn := fun _ => fun
  | [d] => { results := [.lit (.bool true)], args := [d] }
  | _ => none }
def scriptReadsRow : OpenClaim := { program := "ytdlogfbbcbbllaadoor", sum := "306f0ad06261ab126b0a15504df97d8401c284676f7c982539ef46ace1fc5511", func := "seedcorn/seedcornlaw53.ScriptReads", spec := "scriptReads", inPlace := ["internal/bytealg.IndexByteString", "internal/bytealg.IndexString", "internal/abi.NoEscape"], unfollowed := true, recurses := true, named := ["unicode/utf8.first", "unicode/utf8.acceptRanges", "internal/bytealg.MaxLen"], apart := false, laid := [("unicode/utf8.acceptRanges", laid_unicode_utf8_acceptRanges), ("unicode/utf8.first", laid_unicode_utf8_first)] }
def ScriptReadsSaid : Prop := scriptReadsRow.holds Tryd.pinned (OpenSpec.ofChange scriptReadsSpec)

/-- ITS FALSE NEIGHBOUR: 'it returns false'. Refute it at one input. -/
def scriptReadsWrong : ChangeSpec := { name := "scriptReads", fn := fun _ => fun
  | [d] => { results := [.lit (.bool false)], args := [d] }
  | _ => none }
def ScriptReadsWrongFalsely : Prop := scriptReadsRow.holds Tryd.pinned (OpenSpec.ofChange scriptReadsWrong)

/-- 'seedcornlaw53.ScriptBlanks': WHATEVER THE INPUT: true; the input reads as it did. -/
def scriptBlanksSpec : ChangeSpec := { name := "scriptBlanks", fn := fun _ => fun
  | [d1, d2] => { results := [.lit (.bool true)], args := [d1, d2] }
  | _ => none }
def scriptBlanksRow : OpenClaim := { program := "ytdlogfbbcbbllaadoor", sum := "306f0ad06261ab126b0a15504df97d8401c284676f7c982539ef46ace1fc5511", func := "seedcorn/seedcornlaw53.ScriptBlanks", spec := "scriptBlanks", inPlace := ["internal/bytealg.IndexByteString", "internal/bytealg.IndexString", "internal/abi.NoEscape"], unfollowed := true, recurses := true, named := ["unicode/utf8.first", "unicode/utf8.acceptRanges", "internal/bytealg.MaxLen"], apart := false, laid := [("unicode/utf8.acceptRanges", laid_unicode_utf8_acceptRanges), ("unicode/utf8.first", laid_unicode_utf8_first)] }
def ScriptBlanksSaid : Prop := scriptBlanksRow.holds Tryd.pinned (OpenSpec.ofChange scriptBlanksSpec)

/-- ITS FALSE NEIGHBOUR: 'it returns false'. Refute it at one input. -/
def scriptBlanksWrong : ChangeSpec := { name := "scriptBlanks", fn := fun _ => fun
  | [d1, d2] => { results := [.lit (.bool false)], args := [d1, d2] }
  | _ => none }
def ScriptBlanksWrongFalsely : Prop := scriptBlanksRow.holds Tryd.pinned (OpenSpec.ofChange scriptBlanksWrong)

/-- 'seedcornlaw53.ScriptWords': WHATEVER THE INPUT: true; the input reads as it did. -/
def scriptWordsSpec : ChangeSpec := { name := "scriptWords", fn := fun _ => fun
  | [d1, d2] => { results := [.lit (.bool true)], args := [d1, d2] }
  | _ => none }
def scriptWordsRow : OpenClaim := { program := "ytdlogfbbcbbllaadoor", sum := "306f0ad06261ab126b0a15504df97d8401c284676f7c982539ef46ace1fc5511", func := "seedcorn/seedcornlaw53.ScriptWords", spec := "scriptWords", inPlace := ["internal/bytealg.IndexByteString", "internal/bytealg.IndexString", "internal/abi.NoEscape"], unfollowed := true, recurses := true, named := ["unicode/utf8.first", "unicode/utf8.acceptRanges", "internal/bytealg.MaxLen"], apart := false, laid := [("unicode/utf8.acceptRanges", laid_unicode_utf8_acceptRanges), ("unicode/utf8.first", laid_unicode_utf8_first)] }
def ScriptWordsSaid : Prop := scriptWordsRow.holds Tryd.pinned (OpenSpec.ofChange scriptWordsSpec)

/-- ITS FALSE NEIGHBOUR: 'it returns false'. Refute it at one input. -/
def scriptWordsWrong : ChangeSpec := { name := "scriptWords", fn := fun _ => fun
  | [d1, d2] => { results := [.lit (.bool false)], args := [d1, d2] }
  | _ => none }
def ScriptWordsWrongFalsely : Prop := scriptWordsRow.holds Tryd.pinned (OpenSpec.ofChange scriptWordsWrong)

/-- 'seedcornlaw53.ScriptJoins': WHATEVER THE INPUT: true; the input reads as it did. -/
def scriptJoinsSpec : ChangeSpec := { name := "scriptJoins", fn := fun _ => fun
  | [d1, d2] => { results := [.lit (.bool true)], args := [d1, d2] }
  | _ => none }
def scriptJoinsRow : OpenClaim := { program := "ytdlogfbbcbbllaadoor", sum := "306f0ad06261ab126b0a15504df97d8401c284676f7c982539ef46ace1fc5511", func := "seedcorn/seedcornlaw53.ScriptJoins", spec := "scriptJoins", inPlace := ["internal/bytealg.IndexByteString", "internal/bytealg.IndexString", "internal/abi.NoEscape"], unfollowed := true, recurses := true, named := ["unicode/utf8.first", "unicode/utf8.acceptRanges", "internal/bytealg.MaxLen"], apart := false, laid := [("unicode/utf8.acceptRanges", laid_unicode_utf8_acceptRanges), ("unicode/utf8.first", laid_unicode_utf8_first)] }
def ScriptJoinsSaid : Prop := scriptJoinsRow.holds Tryd.pinned (OpenSpec.ofChange scriptJoinsSpec)

/-- ITS FALSE NEIGHBOUR: 'it returns false'. Refute it at one input. -/
def scriptJoinsWrong : ChangeSpec := { name := "scriptJoins", fn := fun _ => fun
  | [d1, d2] => { results := [.lit (.bool false)], args := [d1, d2] }
  | _ => none }
def ScriptJoinsWrongFalsely : Prop := scriptJoinsRow.holds Tryd.pinned (OpenSpec.ofChange scriptJoinsWrong)

/-- 'seedcornlaw53.ScriptBare': WHATEVER THE INPUT: true; the input reads as it did. -/
def scriptBareSpec : ChangeSpec := { name := "scriptBare", fn := fun _ => fun
  | [d1, d2, d3] => { results := [.lit (.bool true)], args := [d1, d2, d3] }
  | _ => none }
def scriptBareRow : OpenClaim := { program := "ytdlogfbbcbbllaadoor", sum := "306f0ad06261ab126b0a15504df97d8401c284676f7c982539ef46ace1fc5511", func := "seedcorn/seedcornlaw53.ScriptBare", spec := "scriptBare", inPlace := ["internal/bytealg.IndexByteString", "internal/bytealg.IndexString", "internal/abi.NoEscape"], unfollowed := true, recurses := true, named := ["unicode/utf8.first", "unicode/utf8.acceptRanges", "internal/bytealg.MaxLen"], apart := false, laid := [("unicode/utf8.acceptRanges", laid_unicode_utf8_acceptRanges), ("unicode/utf8.first", laid_unicode_utf8_first)] }
def ScriptBareSaid : Prop := scriptBareRow.holds Tryd.pinned (OpenSpec.ofChange scriptBareSpec)

/-- ITS FALSE NEIGHBOUR: 'it returns false'. Refute it at one input. -/
def scriptBareWrong : ChangeSpec := { name := "scriptBare", fn := fun _ => fun
  | [d1, d2, d3] => { results := [.lit (.bool false)], args := [d1, d2, d3] }
  | _ => none }
def ScriptBareWrongFalsely : Prop := scriptBareRow.holds Tryd.pinned (OpenSpec.ofChange scriptBareWrong)

/-- 'seedcornlaw53.ScriptNotes': WHATEVER THE INPUT: true; the input reads as it did. -/
def scriptNotesSpec : ChangeSpec := { name := "scriptNotes", fn := fun _ => fun
  | [d1, d2] => { results := [.lit (.bool true)], args := [d1, d2] }
  | _ => none }
def scriptNotesRow : OpenClaim := { program := "ytdlogfbbcbbllaadoor", sum := "306f0ad06261ab126b0a15504df97d8401c284676f7c982539ef46ace1fc5511", func := "seedcorn/seedcornlaw53.ScriptNotes", spec := "scriptNotes", inPlace := ["internal/bytealg.IndexByteString", "internal/bytealg.IndexString", "internal/abi.NoEscape"], unfollowed := true, recurses := true, named := ["unicode/utf8.first", "unicode/utf8.acceptRanges", "internal/bytealg.MaxLen"], apart := false, laid := [("unicode/utf8.acceptRanges", laid_unicode_utf8_acceptRanges), ("unicode/utf8.first", laid_unicode_utf8_first)] }
def ScriptNotesSaid : Prop := scriptNotesRow.holds Tryd.pinned (OpenSpec.ofChange scriptNotesSpec)

/-- ITS FALSE NEIGHBOUR: 'it returns false'. Refute it at one input. -/
def scriptNotesWrong : ChangeSpec := { name := "scriptNotes", fn := fun _ => fun
  | [d1, d2] => { results := [.lit (.bool false)], args := [d1, d2] }
  | _ => none }
def ScriptNotesWrongFalsely : Prop := scriptNotesRow.holds Tryd.pinned (OpenSpec.ofChange scriptNotesWrong)

/-- 'seedcornlaw53.ScriptLines': WHATEVER THE INPUT: true; the input reads as it did. -/
def scriptLinesSpec : ChangeSpec := { name := "scriptLines", fn := fun _ => fun
  | [d] => { results := [.lit (.bool true)], args := [d] }
  | _ => none }
def scriptLinesRow : OpenClaim := { program := "ytdlogfbbcbbllaadoor", sum := "306f0ad06261ab126b0a15504df97d8401c284676f7c982539ef46ace1fc5511", func := "seedcorn/seedcornlaw53.ScriptLines", spec := "scriptLines", inPlace := ["internal/bytealg.IndexByteString", "internal/bytealg.IndexString", "internal/abi.NoEscape"], unfollowed := true, recurses := true, named := ["unicode/utf8.first", "unicode/utf8.acceptRanges", "internal/bytealg.MaxLen"], apart := false, laid := [("unicode/utf8.acceptRanges", laid_unicode_utf8_acceptRanges), ("unicode/utf8.first", laid_unicode_utf8_first)] }
def ScriptLinesSaid : Prop := scriptLinesRow.holds Tryd.pinned (OpenSpec.ofChange scriptLinesSpec)

/-- ITS FALSE NEIGHBOUR: 'it returns false'. Refute it at one input. -/
def scriptLinesWrong : ChangeSpec := { name := "scriptLines", fn := fun _ => fun
  | [d] => { results := [.lit (.bool false)], args := [d] }
  | _ => none }
def ScriptLinesWrongFalsely : Prop := scriptLinesRow.holds Tryd.pinned (OpenSpec.ofChange scriptLinesWrong)

/-- 'seedcornlaw53.ScriptTexts': WHATEVER THE INPUT: true; the input reads as it did. -/
def scriptTextsSpec : ChangeSpec := { name := "scriptTexts", fn := fun _ => fun
  | [d] => { results := [.lit (.bool true)], args := [d] }
  | _ => none }
def scriptTextsRow : OpenClaim := { program := "ytdlogfbbcbbllaadoor", sum := "306f0ad06261ab126b0a15504df97d8401c284676f7c982539ef46ace1fc5511", func := "seedcorn/seedcornlaw53.ScriptTexts", spec := "scriptTexts", inPlace := ["internal/bytealg.IndexByteString", "internal/bytealg.IndexString", "internal/abi.NoEscape"], unfollowed := true, recurses := true, named := ["unicode/utf8.first", "unicode/utf8.acceptRanges", "internal/bytealg.MaxLen"], apart := false, laid := [("unicode/utf8.acceptRanges", laid_unicode_utf8_acceptRanges), ("unicode/utf8.first", laid_unicode_utf8_first)] }
def ScriptTextsSaid : Prop := scriptTextsRow.holds Tryd.pinned (OpenSpec.ofChange scriptTextsSpec)

/-- ITS FALSE NEIGHBOUR: 'it returns false'. Refute it at one input. -/
def scriptTextsWrong : ChangeSpec := { name := "scriptTexts", fn := fun _ => fun
  | [d] => { results := [.lit (.bool false)], args := [d] }
  | _ => none }
def ScriptTextsWrongFalsely : Prop := scriptTextsRow.holds Tryd.pinned (OpenSpec.ofChange scriptTextsWrong)

/-- 'seedcornlaw53.ScriptBack': WHATEVER THE INPUT: true; the input reads as it did. -/
def scriptBackSpec : ChangeSpec := { name := "scriptBack", fn := fun _ => fun
  | [d] => { results := [.lit (.bool true)], args := [d] }
  | _ => none }
def scriptBackRow : OpenClaim := { program := "ytdlogfbbcbbllaadoor", sum := "306f0ad06261ab126b0a15504df97d8401c284676f7c982539ef46ace1fc5511", func := "seedcorn/seedcornlaw53.ScriptBack", spec := "scriptBack", inPlace := ["internal/bytealg.IndexByteString", "internal/bytealg.IndexString", "internal/abi.NoEscape"], unfollowed := true, recurses := true, named := ["unicode/utf8.first", "unicode/utf8.acceptRanges", "internal/bytealg.MaxLen"], apart := false, laid := [("unicode/utf8.acceptRanges", laid_unicode_utf8_acceptRanges), ("unicode/utf8.first", laid_unicode_utf8_first)] }
def ScriptBackSaid : Prop := scriptBackRow.holds Tryd.pinned (OpenSpec.ofChange scriptBackSpec)

/-- ITS FALSE NEIGHBOUR: 'it returns false'. Refute it at one input. -/
def scriptBackWrong : ChangeSpec := { name := "scriptBack", fn := fun _ => fun
  | [d] => { results := [.lit (.bool false)], args := [d] }
  | _ => none }
def ScriptBackWrongFalsely : Prop := scriptBackRow.holds Tryd.pinned (OpenSpec.ofChange scriptBackWrong)

/-- 'seedcornlaw53.ScriptShort': WHATEVER THE INPUT: true; the input reads as it did. -/
def scriptShortSpec : ChangeSpec := { name := "scriptShort", fn := fun _ => fun
  | [d] => { results := [.lit (.bool true)], args := [d] }
  | _ => none }
def scriptShortRow : OpenClaim := { program := "ytdlogfbbcbbllaadoor", sum := "306f0ad06261ab126b0a15504df97d8401c284676f7c982539ef46ace1fc5511", func := "seedcorn/seedcornlaw53.ScriptShort", spec := "scriptShort", inPlace := ["internal/bytealg.IndexByteString", "internal/bytealg.IndexString", "internal/abi.NoEscape"], unfollowed := true, recurses := true, named := ["unicode/utf8.first", "unicode/utf8.acceptRanges", "internal/bytealg.MaxLen"], apart := false, laid := [("unicode/utf8.acceptRanges", laid_unicode_utf8_acceptRanges), ("unicode/utf8.first", laid_unicode_utf8_first)] }
def ScriptShortSaid : Prop := scriptShortRow.holds Tryd.pinned (OpenSpec.ofChange scriptShortSpec)

/-- ITS FALSE NEIGHBOUR: 'it returns false'. Refute it at one input. -/
def scriptShortWrong : ChangeSpec := { name := "scriptShort", fn := fun _ => fun
  | [d] => { results := [.lit (.bool false)], args := [d] }
  | _ => none }
def ScriptShortWrongFalsely : Prop := scriptShortRow.holds Tryd.pinned (OpenSpec.ofChange scriptShortWrong)

/- THE SECOND FORM. 'bulk': how many values and letters a reading holds, each counted each time it is reached (what is shared counts as often as it is met; a slice's spare places count too). A statement '..UptoSaid' is the law's where the arguments, and the package variables that the reading takes, are together of bulk at most 1048576: NARROWER than '..Said'. Prove '..Said' where nothing that the law and all that it calls make is longer than what came in: it says more and counts as full. Else prove '..UptoSaid'. A law counts once. -/
mutual
def uptoBulk {H : Type} : DataW H → Nat
  | .lit (.string bytes) => bytes.length + 1
  | .lit _ => 1
  | .nil => 1
  | .ptr d => uptoBulk d + 1
  | .slice elems spare => uptoBulkAll elems + uptoBulkAll spare + 1
  | .agg parts => uptoBulkAll parts + 1
  | .iface _ d => uptoBulk d + 1
  | .map entries => uptoBulkEntries entries + 1
  | .held _ => 1
def uptoBulkAll {H : Type} : List (DataW H) → Nat
  | [] => 0
  | d :: r => uptoBulk d + uptoBulkAll r
def uptoBulkEntries {H : Type} : List (Lit × DataW H) → Nat
  | [] => 0
  | x :: r => uptoBulkEntry x + uptoBulkEntries r
def uptoBulkEntry {H : Type} : Lit × DataW H → Nat
  | (.string bytes, d) => bytes.length + uptoBulk d + 1
  | (_, d) => uptoBulk d + 1
 end
def uptoSmall : (H : Type) → List (DataW H) → Bool := fun _ ds => decide (uptoBulkAll ds ≤ 1048576)
def OpenSpec.upto (s : _root_.Go.ChangeSpec) : _root_.Go.OpenSpec := { _root_.Go.OpenSpec.ofChange s with cond := some uptoSmall }

/-- 'seedcornlaw53.ScriptReads', WHERE WHAT IT READS IS OF BULK AT MOST 1048576: true; the input reads as it did. -/
def scriptReadsUptoRow : OpenClaim := { program := "ytdlogfbbcbbllaadoor", sum := "306f0ad06261ab126b0a15504df97d8401c284676f7c982539ef46ace1fc5511", func := "seedcorn/seedcornlaw53.ScriptReads", spec := "scriptReads", inPlace := ["internal/bytealg.IndexByteString", "internal/bytealg.IndexString", "internal/abi.NoEscape"], unfollowed := true, recurses := true, named := ["unicode/utf8.first", "unicode/utf8.acceptRanges", "internal/bytealg.MaxLen"], apart := false, laid := [("unicode/utf8.acceptRanges", laid_unicode_utf8_acceptRanges), ("unicode/utf8.first", laid_unicode_utf8_first)], narrowed := true }
def ScriptReadsUptoSaid : Prop := scriptReadsUptoRow.holds Tryd.pinned (OpenSpec.upto scriptReadsSpec)

/-- 'seedcornlaw53.ScriptBlanks', WHERE WHAT IT READS IS OF BULK AT MOST 1048576: true; the input reads as it did. -/
def scriptBlanksUptoRow : OpenClaim := { program := "ytdlogfbbcbbllaadoor", sum := "306f0ad06261ab126b0a15504df97d8401c284676f7c982539ef46ace1fc5511", func := "seedcorn/seedcornlaw53.ScriptBlanks", spec := "scriptBlanks", inPlace := ["internal/bytealg.IndexByteString", "internal/bytealg.IndexString", "internal/abi.NoEscape"], unfollowed := true, recurses := true, named := ["unicode/utf8.first", "unicode/utf8.acceptRanges", "internal/bytealg.MaxLen"], apart := false, laid := [("unicode/utf8.acceptRanges", laid_unicode_utf8_acceptRanges), ("unicode/utf8.first", laid_unicode_utf8_first)], narrowed := true }
def ScriptBlanksUptoSaid : Prop := scriptBlanksUptoRow.holds Tryd.pinned (OpenSpec.upto scriptBlanksSpec)

/-- 'seedcornlaw53.ScriptWords', WHERE WHAT IT READS IS OF BULK AT MOST 1048576: true; the input reads as it did. -/
def scriptWordsUptoRow : OpenClaim := { program := "ytdlogfbbcbbllaadoor", sum := "306f0ad06261ab126b0a15504df97d8401c284676f7c982539ef46ace1fc5511", func := "seedcorn/seedcornlaw53.ScriptWords", spec := "scriptWords", inPlace := ["internal/bytealg.IndexByteString", "internal/bytealg.IndexString", "internal/abi.NoEscape"], unfollowed := true, recurses := true, named := ["unicode/utf8.first", "unicode/utf8.acceptRanges", "internal/bytealg.MaxLen"], apart := false, laid := [("unicode/utf8.acceptRanges", laid_unicode_utf8_acceptRanges), ("unicode/utf8.first", laid_unicode_utf8_first)], narrowed := true }
def ScriptWordsUptoSaid : Prop := scriptWordsUptoRow.holds Tryd.pinned (OpenSpec.upto scriptWordsSpec)

/-- 'seedcornlaw53.ScriptJoins', WHERE WHAT IT READS IS OF BULK AT MOST 1048576: true; the input reads as it did. -/
def scriptJoinsUptoRow : OpenClaim := { program := "ytdlogfbbcbbllaadoor", sum := "306f0ad06261ab126b0a15504df97d8401c284676f7c982539ef46ace1fc5511", func := "seedcorn/seedcornlaw53.ScriptJoins", spec := "scriptJoins", inPlace := ["internal/bytealg.IndexByteString", "internal/bytealg.IndexString", "internal/abi.NoEscape"], unfollowed := true, recurses := true, named := ["unicode/utf8.first", "unicode/utf8.acceptRanges", "internal/bytealg.MaxLen"], apart := false, laid := [("unicode/utf8.acceptRanges", laid_unicode_utf8_acceptRanges), ("unicode/utf8.first", laid_unicode_utf8_first)], narrowed := true }
def ScriptJoinsUptoSaid : Prop := scriptJoinsUptoRow.holds Tryd.pinned (OpenSpec.upto scriptJoinsSpec)

/-- 'seedcornlaw53.ScriptBare', WHERE WHAT IT READS IS OF BULK AT MOST 1048576: true; the input reads as it did. -/
def scriptBareUptoRow : OpenClaim := { program := "ytdlogfbbcbbllaadoor", sum := "306f0ad06261ab126b0a15504df97d8401c284676f7c982539ef46ace1fc5511", func := "seedcorn/seedcornlaw53.ScriptBare", spec := "scriptBare", inPlace := ["internal/bytealg.IndexByteString", "internal/bytealg.IndexString", "internal/abi.NoEscape"], unfollowed := true, recurses := true, named := ["unicode/utf8.first", "unicode/utf8.acceptRanges", "internal/bytealg.MaxLen"], apart := false, laid := [("unicode/utf8.acceptRanges", laid_unicode_utf8_acceptRanges), ("unicode/utf8.first", laid_unicode_utf8_first)], narrowed := true }
def ScriptBareUptoSaid : Prop := scriptBareUptoRow.holds Tryd.pinned (OpenSpec.upto scriptBareSpec)

/-- 'seedcornlaw53.ScriptNotes', WHERE WHAT IT READS IS OF BULK AT MOST 1048576: true; the input reads as it did. -/
def scriptNotesUptoRow : OpenClaim := { program := "ytdlogfbbcbbllaadoor", sum := "306f0ad06261ab126b0a15504df97d8401c284676f7c982539ef46ace1fc5511", func := "seedcorn/seedcornlaw53.ScriptNotes", spec := "scriptNotes", inPlace := ["internal/bytealg.IndexByteString", "internal/bytealg.IndexString", "internal/abi.NoEscape"], unfollowed := true, recurses := true, named := ["unicode/utf8.first", "unicode/utf8.acceptRanges", "internal/bytealg.MaxLen"], apart := false, laid := [("unicode/utf8.acceptRanges", laid_unicode_utf8_acceptRanges), ("unicode/utf8.first", laid_unicode_utf8_first)], narrowed := true }
def ScriptNotesUptoSaid : Prop := scriptNotesUptoRow.holds Tryd.pinned (OpenSpec.upto scriptNotesSpec)

/-- 'seedcornlaw53.ScriptLines', WHERE WHAT IT READS IS OF BULK AT MOST 1048576: true; the input reads as it did. -/
def scriptLinesUptoRow : OpenClaim := { program := "ytdlogfbbcbbllaadoor", sum := "306f0ad06261ab126b0a15504df97d8401c284676f7c982539ef46ace1fc5511", func := "seedcorn/seedcornlaw53.ScriptLines", spec := "scriptLines", inPlace := ["internal/bytealg.IndexByteString", "internal/bytealg.IndexString", "internal/abi.NoEscape"], unfollowed := true, recurses := true, named := ["unicode/utf8.first", "unicode/utf8.acceptRanges", "internal/bytealg.MaxLen"], apart := false, laid := [("unicode/utf8.acceptRanges", laid_unicode_utf8_acceptRanges), ("unicode/utf8.first", laid_unicode_utf8_first)], narrowed := true }
def ScriptLinesUptoSaid : Prop := scriptLinesUptoRow.holds Tryd.pinned (OpenSpec.upto scriptLinesSpec)

/-- 'seedcornlaw53.ScriptTexts', WHERE WHAT IT READS IS OF BULK AT MOST 1048576: true; the input reads as it did. -/
def scriptTextsUptoRow : OpenClaim := { program := "ytdlogfbbcbbllaadoor", sum := "306f0ad06261ab126b0a15504df97d8401c284676f7c982539ef46ace1fc5511", func := "seedcorn/seedcornlaw53.ScriptTexts", spec := "scriptTexts", inPlace := ["internal/bytealg.IndexByteString", "internal/bytealg.IndexString", "internal/abi.NoEscape"], unfollowed := true, recurses := true, named := ["unicode/utf8.first", "unicode/utf8.acceptRanges", "internal/bytealg.MaxLen"], apart := false, laid := [("unicode/utf8.acceptRanges", laid_unicode_utf8_acceptRanges), ("unicode/utf8.first", laid_unicode_utf8_first)], narrowed := true }
def ScriptTextsUptoSaid : Prop := scriptTextsUptoRow.holds Tryd.pinned (OpenSpec.upto scriptTextsSpec)

/-- 'seedcornlaw53.ScriptBack', WHERE WHAT IT READS IS OF BULK AT MOST 1048576: true; the input reads as it did. -/
def scriptBackUptoRow : OpenClaim := { program := "ytdlogfbbcbbllaadoor", sum := "306f0ad06261ab126b0a15504df97d8401c284676f7c982539ef46ace1fc5511", func := "seedcorn/seedcornlaw53.ScriptBack", spec := "scriptBack", inPlace := ["internal/bytealg.IndexByteString", "internal/bytealg.IndexString", "internal/abi.NoEscape"], unfollowed := true, recurses := true, named := ["unicode/utf8.first", "unicode/utf8.acceptRanges", "internal/bytealg.MaxLen"], apart := false, laid := [("unicode/utf8.acceptRanges", laid_unicode_utf8_acceptRanges), ("unicode/utf8.first", laid_unicode_utf8_first)], narrowed := true }
def ScriptBackUptoSaid : Prop := scriptBackUptoRow.holds Tryd.pinned (OpenSpec.upto scriptBackSpec)

/-- 'seedcornlaw53.ScriptShort', WHERE WHAT IT READS IS OF BULK AT MOST 1048576: true; the input reads as it did. -/
def scriptShortUptoRow : OpenClaim := { program := "ytdlogfbbcbbllaadoor", sum := "306f0ad06261ab126b0a15504df97d8401c284676f7c982539ef46ace1fc5511", func := "seedcorn/seedcornlaw53.ScriptShort", spec := "scriptShort", inPlace := ["internal/bytealg.IndexByteString", "internal/bytealg.IndexString", "internal/abi.NoEscape"], unfollowed := true, recurses := true, named := ["unicode/utf8.first", "unicode/utf8.acceptRanges", "internal/bytealg.MaxLen"], apart := false, laid := [("unicode/utf8.acceptRanges", laid_unicode_utf8_acceptRanges), ("unicode/utf8.first", laid_unicode_utf8_first)], narrowed := true }
def ScriptShortUptoSaid : Prop := scriptShortUptoRow.holds Tryd.pinned (OpenSpec.upto scriptShortSpec)

end Rows
end Go.Proofs.YtdlogfbbcbbllaaDoor
