/-
  NARROWER THAN 'FOR EVERY INPUT', by the rows' own cells (each row's printed sentence says how): StackcMeans: loops, laid · StackcIdle: loops, laid.
  DERIVED. THE GIVEN ROWS OF THIS SEAT. 2 by the template 'for every input the law returns true; each argument reads behind the call as it read before'; 0 by the template 'total and deterministic' (their statements: YtlacbjnmkhndiaaGreatDoorTotals.lean).
  GIVEN WITH THE SEED: the statements are not yours to turn. If you find one false, say at which input.
  Laid BY PROGRAM, IN A SANDBOX (cutbox-rows.mjs): the forced cells as the released guide's own fill.sh prints them over the translation 2e43f55a713b0c69… (all of the seat's roots in one cut). By AI agents, Wed Nov 11 2026. No macro, syntax, notation, axiom, sorry.
-/
import Derived.Test.YtlacbjnmkhndiaaGreatDoorChecked
import GoSem.Claim
import GoSem.ClaimJoined
import GoSem.ClaimMapViews
import Derived.JoinedTies
import Derived.KernelRfl
namespace Go.Proofs.YtlacbjnmkhndiaaGreatDoor
/- THE CELL 'sum', in the pinned program and in every row, IS THE sha256 OF THE DUMP (.gsa) THAT YtlacbjnmkhndiaaGreatDoorProg.lean LOADS. Nothing in Lean hashes anything: it is a label: what it is worth is what the hold of that sum in a sandbox is worth. -/
noncomputable def Tryz.pinned : Pinned := { name := "ytlacbjnmkhndiaagreatdoor", sum := "2e43f55a713b0c692328963a67c9725ef6fd9feaadf84b7fca7589588275241c", checked := Tryz.checked }
namespace Rows
def none {H : Type} : Left H := { results := [], args := [] }

/- WHAT THE LISTED PACKAGE-LEVEL VARIABLES READ AS WHEN THE CALL BEGINS. Each datum BY PROGRAM (the guide's laid-datum.mjs) off the statement by which the dump's own 'gosem.cut.vars' lays the variable. In a bare row this is a premise. The card (YtlacbjnmkhndiaaGreatDoorCards.lean) ties it to the program's text. -/
def laid_seedcorn_token_words {H : Type} : DataW H := .agg [.lit (.string [118, 97, 114]), .lit (.string [97, 114, 114, 97, 121]), .lit (.string [102, 117, 110, 99]), .lit (.string [119, 111, 114, 100]), .lit (.string [105, 102]), .lit (.string [101, 108, 115, 101]), .lit (.string [119, 104, 105, 108, 101]), .lit (.string [114, 101, 116, 117, 114, 110]), .lit (.string [112, 117, 116]), .lit (.string [103, 101, 116])]
def laid_seedcorn_token_signs {H : Type} : DataW H := .agg [.lit (.string [60, 60]), .lit (.string [62, 62]), .lit (.string [61, 61]), .lit (.string [38, 38]), .lit (.string [124, 124]), .lit (.string [40]), .lit (.string [41]), .lit (.string [123]), .lit (.string [125]), .lit (.string [91]), .lit (.string [93]), .lit (.string [59]), .lit (.string [44]), .lit (.string [61]), .lit (.string [43]), .lit (.string [45]), .lit (.string [42]), .lit (.string [47]), .lit (.string [37]), .lit (.string [38]), .lit (.string [124]), .lit (.string [94]), .lit (.string [60]), .lit (.string [33])]

/-- 'seedcornlaw23.StackcMeans': WHATEVER THE INPUT: true; the input reads as it did. -/
def stackcMeansSpec : ChangeSpec := { name := "stackcMeans", fn := fun _ => fun
  | [d1, d2] => { results := [.lit (.bool true)], args := [d1, d2] }
  | _ => none }
def stackcMeansRow : OpenClaim := { program := "ytlacbjnmkhndiaagreatdoor", sum := "2e43f55a713b0c692328963a67c9725ef6fd9feaadf84b7fca7589588275241c", func := "seedcorn/seedcornlaw23.StackcMeans", spec := "stackcMeans", unfollowed := true, recurses := true, named := ["seedcorn/token.signs", "seedcorn/token.words"], loops := true, apart := false, laid := [("seedcorn/token.words", laid_seedcorn_token_words), ("seedcorn/token.signs", laid_seedcorn_token_signs)] }
def StackcMeansSaid : Prop := stackcMeansRow.holds Tryz.pinned (OpenSpec.ofChange stackcMeansSpec)

/-- ITS FALSE NEIGHBOUR: 'it returns false'. Refute it at one input. -/
def stackcMeansWrong : ChangeSpec := { name := "stackcMeans", fn := fun _ => fun
  | [d1, d2] => { results := [.lit (.bool false)], args := [d1, d2] }
  | _ => none }
def StackcMeansWrongFalsely : Prop := stackcMeansRow.holds Tryz.pinned (OpenSpec.ofChange stackcMeansWrong)

/-- 'seedcornlaw23.StackcIdle': WHATEVER THE INPUT: true; the input reads as it did. -/
def stackcIdleSpec : ChangeSpec := { name := "stackcIdle", fn := fun _ => fun
  | [d1, d2, d3] => { results := [.lit (.bool true)], args := [d1, d2, d3] }
  | _ => none }
def stackcIdleRow : OpenClaim := { program := "ytlacbjnmkhndiaagreatdoor", sum := "2e43f55a713b0c692328963a67c9725ef6fd9feaadf84b7fca7589588275241c", func := "seedcorn/seedcornlaw23.StackcIdle", spec := "stackcIdle", unfollowed := true, recurses := true, named := ["seedcorn/token.signs", "seedcorn/token.words"], loops := true, apart := false, laid := [("seedcorn/token.words", laid_seedcorn_token_words), ("seedcorn/token.signs", laid_seedcorn_token_signs)] }
def StackcIdleSaid : Prop := stackcIdleRow.holds Tryz.pinned (OpenSpec.ofChange stackcIdleSpec)

/-- ITS FALSE NEIGHBOUR: 'it returns false'. Refute it at one input. -/
def stackcIdleWrong : ChangeSpec := { name := "stackcIdle", fn := fun _ => fun
  | [d1, d2, d3] => { results := [.lit (.bool false)], args := [d1, d2, d3] }
  | _ => none }
def StackcIdleWrongFalsely : Prop := stackcIdleRow.holds Tryz.pinned (OpenSpec.ofChange stackcIdleWrong)

/- THE SECOND FORM. 'bulk': how many values and letters a reading holds, each counted each time it is reached (what is shared counts as often as it is met; a slice's spare places count too). A statement '..UptoSaid' is the law's where the arguments, and the package variables that the reading takes, are together of bulk at most 1048576: NARROWER than '..Said'. Prove '..Said' where nothing that the law and all that it calls make is longer than what came in: it says more and counts as full. Else prove '..UptoSaid'. A law counts once. -/
mutual
def uptoBulk {H : Type} : DataW H → Nat
  | .lit (.string bytes) => bytes.length + 1
  | .lit _ => 1
  | .nil => 1
  | .ptr d => uptoBulk d + 1
  | .slice elems spare => uptoBulkAll elems + uptoBulkAll spare + 1
  | .agg parts => uptoBulkAll parts + 1
  | .iface _ d => uptoBulk d + 1
  | .map entries => uptoBulkEntries entries + 1
  | .held _ => 1
def uptoBulkAll {H : Type} : List (DataW H) → Nat
  | [] => 0
  | d :: r => uptoBulk d + uptoBulkAll r
def uptoBulkEntries {H : Type} : List (Lit × DataW H) → Nat
  | [] => 0
  | x :: r => uptoBulkEntry x + uptoBulkEntries r
def uptoBulkEntry {H : Type} : Lit × DataW H → Nat
  | (.string bytes, d) => bytes.length + uptoBulk d + 1
  | (_, d) => uptoBulk d + 1
 end
def uptoSmall : (H : Type) → List (DataW H) → Bool := fun _ ds => decide (uptoBulkAll ds ≤ 1048576)
def OpenSpec.upto (s : _root_.Go.ChangeSpec) : _root_.Go.OpenSpec := { _root_.Go.OpenSpec.ofChange s with cond := some uptoSmall }

/-- 'seedcornlaw23.StackcMeans', WHERE WHAT IT READS IS OF BULK AT MOST 1048576: true; the input reads as it did. -/
def stackcMeansUptoRow : OpenClaim := { program := "ytlacbjnmkhndiaagreatdoor", sum := "2e43f55a713b0c692328963a67c9725ef6fd9feaadf84b7fca7589588275241c", func := "seedcorn/seedcornlaw23.StackcMeans", spec := "stackcMeans", unfollowed := true, recurses := true, named := ["seedcorn/token.signs", "seedcorn/token.words"], loops := true, apart := false, laid := [("seedcorn/token.words", laid_seedcorn_token_words), ("seedcorn/token.signs", laid_seedcorn_token_signs)], narrowed := true }
def StackcMeansUptoSaid : Prop := stackcMeansUptoRow.holds Tryz.pinned (OpenSpec.upto stackcMeansSpec)

/-- 'seedcornlaw23.StackcIdle', WHERE WHAT IT READS IS OF BULK AT MOST 1048576: true; the input reads as it did. -/
def stackcIdleUptoRow : OpenClaim := { program := "ytlacbjnmkhndiaagreatdoor", sum := "2e43f55a713b0c692328963a67c9725ef6fd9feaadf84b7fca7589588275241c", func := "seedcorn/seedcornlaw23.StackcIdle", spec := "stackcIdle", unfollowed := true, recurses := true, named := ["seedcorn/token.signs", "seedcorn/token.words"], loops := true, apart := false, laid := [("seedcorn/token.words", laid_seedcorn_token_words), ("seedcorn/token.signs", laid_seedcorn_token_signs)], narrowed := true }
def StackcIdleUptoSaid : Prop := stackcIdleUptoRow.holds Tryz.pinned (OpenSpec.upto stackcIdleSpec)

end Rows
end Go.Proofs.YtlacbjnmkhndiaaGreatDoor
