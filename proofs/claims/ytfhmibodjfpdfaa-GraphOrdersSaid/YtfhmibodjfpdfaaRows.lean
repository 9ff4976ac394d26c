/-
  No cell of these rows narrows 'for every input' (looked for: loops, veiled, ifaces, maps, wideKeys, modest, calm, conditions, laid).
  DERIVED. THE GIVEN ROWS OF THIS SEAT. 7 by the template 'for every input the law returns true; each argument reads behind the call as it read before'; 0 by the template 'total and deterministic' (their statements: YtfhmibodjfpdfaaTotals.lean).
  GIVEN WITH THE SEED: the statements are not yours to turn. If you find one false, say at which input.
  Laid BY PROGRAM, IN A SANDBOX (cutbox-rows.mjs): the forced cells as the released guide's own fill.sh prints them over the translation e31fd9b572900db8… (all of the seat's roots in one cut). By AI agents, Wed Nov 11 2026. No macro, syntax, notation, axiom, sorry.
-/
import Derived.Test.YtfhmibodjfpdfaaChecked
import GoSem.Claim
import GoSem.ClaimJoined
import GoSem.ClaimMapViews
import Derived.JoinedTies
import Derived.KernelRfl
namespace Go.Proofs.Ytfhmibodjfpdfaa
/- THE CELL 'sum', in the pinned program and in every row, IS THE sha256 OF THE DUMP (.gsa) THAT YtfhmibodjfpdfaaProg.lean LOADS. Nothing in Lean hashes anything: it is a label: what it is worth is what the hold of that sum in a sandbox is worth. -/
noncomputable def Try.pinned : Pinned := { name := "ytfhmibodjfpdfaa", sum := "e31fd9b572900db80b1985dcc805e9188b54bd3002071a9c0b220397164fd972", checked := Try.checked }
namespace Rows
def none {H : Type} : Left H := { results := [], args := [] }

/-- 'seedcornlaw38.GraphTurned': WHATEVER THE INPUT: true; the input reads as it did. -/
def graphTurnedSpec : ChangeSpec := { name := "graphTurned", fn := fun _ => fun
  | [d1, d2] => { results := [.lit (.bool true)], args := [d1, d2] }
  | _ => none }
def graphTurnedRow : OpenClaim := { program := "ytfhmibodjfpdfaa", sum := "e31fd9b572900db80b1985dcc805e9188b54bd3002071a9c0b220397164fd972", func := "seedcorn/seedcornlaw38.GraphTurned", spec := "graphTurned", unfollowed := true, recurses := true, apart := false }
def GraphTurnedSaid : Prop := graphTurnedRow.holds Try.pinned (OpenSpec.ofChange graphTurnedSpec)

/-- ITS FALSE NEIGHBOUR: 'it returns false'. Refute it at one input. -/
def graphTurnedWrong : ChangeSpec := { name := "graphTurned", fn := fun _ => fun
  | [d1, d2] => { results := [.lit (.bool false)], args := [d1, d2] }
  | _ => none }
def GraphTurnedWrongFalsely : Prop := graphTurnedRow.holds Try.pinned (OpenSpec.ofChange graphTurnedWrong)

/-- 'seedcornlaw38.GraphLess': WHATEVER THE INPUT: true; the input reads as it did. -/
def graphLessSpec : ChangeSpec := { name := "graphLess", fn := fun _ => fun
  | [d1, d2, d3] => { results := [.lit (.bool true)], args := [d1, d2, d3] }
  | _ => none }
def graphLessRow : OpenClaim := { program := "ytfhmibodjfpdfaa", sum := "e31fd9b572900db80b1985dcc805e9188b54bd3002071a9c0b220397164fd972", func := "seedcorn/seedcornlaw38.GraphLess", spec := "graphLess", unfollowed := true, recurses := true, apart := false }
def GraphLessSaid : Prop := graphLessRow.holds Try.pinned (OpenSpec.ofChange graphLessSpec)

/-- ITS FALSE NEIGHBOUR: 'it returns false'. Refute it at one input. -/
def graphLessWrong : ChangeSpec := { name := "graphLess", fn := fun _ => fun
  | [d1, d2, d3] => { results := [.lit (.bool false)], args := [d1, d2, d3] }
  | _ => none }
def GraphLessWrongFalsely : Prop := graphLessRow.holds Try.pinned (OpenSpec.ofChange graphLessWrong)

/-- 'seedcornlaw38.GraphLevels': WHATEVER THE INPUT: true; the input reads as it did. -/
def graphLevelsSpec : ChangeSpec := { name := "graphLevels", fn := fun _ => fun
  | [d] => { results := [.lit (.bool true)], args := [d] }
  | _ => none }
def graphLevelsRow : OpenClaim := { program := "ytfhmibodjfpdfaa", sum := "e31fd9b572900db80b1985dcc805e9188b54bd3002071a9c0b220397164fd972", func := "seedcorn/seedcornlaw38.GraphLevels", spec := "graphLevels", unfollowed := true, recurses := true, apart := false }
def GraphLevelsSaid : Prop := graphLevelsRow.holds Try.pinned (OpenSpec.ofChange graphLevelsSpec)

/-- ITS FALSE NEIGHBOUR: 'it returns false'. Refute it at one input. -/
def graphLevelsWrong : ChangeSpec := { name := "graphLevels", fn := fun _ => fun
  | [d] => { results := [.lit (.bool false)], args := [d] }
  | _ => none }
def GraphLevelsWrongFalsely : Prop := graphLevelsRow.holds Try.pinned (OpenSpec.ofChange graphLevelsWrong)

/-- 'seedcornlaw38.GraphOrders': WHATEVER THE INPUT: true; the input reads as it did. -/
def graphOrdersSpec : ChangeSpec := { name := "graphOrders", fn := fun _ => fun
  | [d] => { results := [.lit (.bool true)], args := [d] }
  | _ => none }
def graphOrdersRow : OpenClaim := { program := "ytfhmibodjfpdfaa", sum := "e31fd9b572900db80b1985dcc805e9188b54bd3002071a9c0b220397164fd972", func := "seedcorn/seedcornlaw38.GraphOrders", spec := "graphOrders", unfollowed := true, recurses := true, apart := false }
def GraphOrdersSaid : Prop := graphOrdersRow.holds Try.pinned (OpenSpec.ofChange graphOrdersSpec)

/-- ITS FALSE NEIGHBOUR: 'it returns false'. Refute it at one input. -/
def graphOrdersWrong : ChangeSpec := { name := "graphOrders", fn := fun _ => fun
  | [d] => { results := [.lit (.bool false)], args := [d] }
  | _ => none }
def GraphOrdersWrongFalsely : Prop := graphOrdersRow.holds Try.pinned (OpenSpec.ofChange graphOrdersWrong)

/-- 'seedcornlaw38.GraphCircles': WHATEVER THE INPUT: true; the input reads as it did. -/
def graphCirclesSpec : ChangeSpec := { name := "graphCircles", fn := fun _ => fun
  | [d] => { results := [.lit (.bool true)], args := [d] }
  | _ => none }
def graphCirclesRow : OpenClaim := { program := "ytfhmibodjfpdfaa", sum := "e31fd9b572900db80b1985dcc805e9188b54bd3002071a9c0b220397164fd972", func := "seedcorn/seedcornlaw38.GraphCircles", spec := "graphCircles", unfollowed := true, recurses := true, apart := false }
def GraphCirclesSaid : Prop := graphCirclesRow.holds Try.pinned (OpenSpec.ofChange graphCirclesSpec)

/-- ITS FALSE NEIGHBOUR: 'it returns false'. Refute it at one input. -/
def graphCirclesWrong : ChangeSpec := { name := "graphCircles", fn := fun _ => fun
  | [d] => { results := [.lit (.bool false)], args := [d] }
  | _ => none }
def GraphCirclesWrongFalsely : Prop := graphCirclesRow.holds Try.pinned (OpenSpec.ofChange graphCirclesWrong)

/-- 'seedcornlaw38.GraphBehind': WHATEVER THE INPUT: true; the input reads as it did. -/
def graphBehindSpec : ChangeSpec := { name := "graphBehind", fn := fun _ => fun
  | [d1, d2] => { results := [.lit (.bool true)], args := [d1, d2] }
  | _ => none }
def graphBehindRow : OpenClaim := { program := "ytfhmibodjfpdfaa", sum := "e31fd9b572900db80b1985dcc805e9188b54bd3002071a9c0b220397164fd972", func := "seedcorn/seedcornlaw38.GraphBehind", spec := "graphBehind", unfollowed := true, recurses := true, apart := false }
def GraphBehindSaid : Prop := graphBehindRow.holds Try.pinned (OpenSpec.ofChange graphBehindSpec)

/-- ITS FALSE NEIGHBOUR: 'it returns false'. Refute it at one input. -/
def graphBehindWrong : ChangeSpec := { name := "graphBehind", fn := fun _ => fun
  | [d1, d2] => { results := [.lit (.bool false)], args := [d1, d2] }
  | _ => none }
def GraphBehindWrongFalsely : Prop := graphBehindRow.holds Try.pinned (OpenSpec.ofChange graphBehindWrong)

/-- 'seedcornlaw38.GraphReaches': WHATEVER THE INPUT: true; the input reads as it did. -/
def graphReachesSpec : ChangeSpec := { name := "graphReaches", fn := fun _ => fun
  | [d1, d2] => { results := [.lit (.bool true)], args := [d1, d2] }
  | _ => none }
def graphReachesRow : OpenClaim := { program := "ytfhmibodjfpdfaa", sum := "e31fd9b572900db80b1985dcc805e9188b54bd3002071a9c0b220397164fd972", func := "seedcorn/seedcornlaw38.GraphReaches", spec := "graphReaches", unfollowed := true, recurses := true, apart := false }
def GraphReachesSaid : Prop := graphReachesRow.holds Try.pinned (OpenSpec.ofChange graphReachesSpec)

/-- ITS FALSE NEIGHBOUR: 'it returns false'. Refute it at one input. -/
def graphReachesWrong : ChangeSpec := { name := "graphReaches", fn := fun _ => fun
  | [d1, d2] => { results := [.lit (.bool false)], args := [d1, d2] }
  | _ => none }
def GraphReachesWrongFalsely : Prop := graphReachesRow.holds Try.pinned (OpenSpec.ofChange graphReachesWrong)

/- THE SECOND FORM. 'bulk': how many values and letters a reading holds, each counted each time it is reached (what is shared counts as often as it is met; a slice's spare places count too). A statement '..UptoSaid' is the law's where the arguments, and the package variables that the reading takes, are together of bulk at most 1048576: NARROWER than '..Said'. Prove '..Said' where nothing that the law and all that it calls make is longer than what came in: it says more and counts as full. Else prove '..UptoSaid'. A law counts once. -/
mutual
def uptoBulk {H : Type} : DataW H → Nat
  | .lit (.string bytes) => bytes.length + 1
  | .lit _ => 1
  | .nil => 1
  | .ptr d => uptoBulk d + 1
  | .slice elems spare => uptoBulkAll elems + uptoBulkAll spare + 1
  | .agg parts => uptoBulkAll parts + 1
  | .iface _ d => uptoBulk d + 1
  | .map entries => uptoBulkEntries entries + 1
  | .held _ => 1
def uptoBulkAll {H : Type} : List (DataW H) → Nat
  | [] => 0
  | d :: r => uptoBulk d + uptoBulkAll r
def uptoBulkEntries {H : Type} : List (Lit × DataW H) → Nat
  | [] => 0
  | x :: r => uptoBulkEntry x + uptoBulkEntries r
def uptoBulkEntry {H : Type} : Lit × DataW H → Nat
  | (.string bytes, d) => bytes.length + uptoBulk d + 1
  | (_, d) => uptoBulk d + 1
 end
def uptoSmall : (H : Type) → List (DataW H) → Bool := fun _ ds => decide (uptoBulkAll ds ≤ 1048576)
def OpenSpec.upto (s : _root_.Go.ChangeSpec) : _root_.Go.OpenSpec := { _root_.Go.OpenSpec.ofChange s with cond := some uptoSmall }

/-- 'seedcornlaw38.GraphTurned', WHERE WHAT IT READS IS OF BULK AT MOST 1048576: true; the input reads as it did. -/
def graphTurnedUptoRow : OpenClaim := { program := "ytfhmibodjfpdfaa", sum := "e31fd9b572900db80b1985dcc805e9188b54bd3002071a9c0b220397164fd972", func := "seedcorn/seedcornlaw38.GraphTurned", spec := "graphTurned", unfollowed := true, recurses := true, apart := false, narrowed := true }
def GraphTurnedUptoSaid : Prop := graphTurnedUptoRow.holds Try.pinned (OpenSpec.upto graphTurnedSpec)

/-- 'seedcornlaw38.GraphLess', WHERE WHAT IT READS IS OF BULK AT MOST 1048576: true; the input reads as it did. -/
def graphLessUptoRow : OpenClaim := { program := "ytfhmibodjfpdfaa", sum := "e31fd9b572900db80b1985dcc805e9188b54bd3002071a9c0b220397164fd972", func := "seedcorn/seedcornlaw38.GraphLess", spec := "graphLess", unfollowed := true, recurses := true, apart := false, narrowed := true }
def GraphLessUptoSaid : Prop := graphLessUptoRow.holds Try.pinned (OpenSpec.upto graphLessSpec)

/-- 'seedcornlaw38.GraphLevels', WHERE WHAT IT READS IS OF BULK AT MOST 1048576: true; the input reads as it did. -/
def graphLevelsUptoRow : OpenClaim := { program := "ytfhmibodjfpdfaa", sum := "e31fd9b572900db80b1985dcc805e9188b54bd3002071a9c0b220397164fd972", func := "seedcorn/seedcornlaw38.GraphLevels", spec := "graphLevels", unfollowed := true, recurses := true, apart := false, narrowed := true }
def GraphLevelsUptoSaid : Prop := graphLevelsUptoRow.holds Try.pinned (OpenSpec.upto graphLevelsSpec)

/-- 'seedcornlaw38.GraphOrders', WHERE WHAT IT READS IS OF BULK AT MOST 1048576: true; the input reads as it did. -/
def graphOrdersUptoRow : OpenClaim := { program := "ytfhmibodjfpdfaa", sum := "e31fd9b572900db80b1985dcc805e9188b54bd3002071a9c0b220397164fd972", func := "seedcorn/seedcornlaw38.GraphOrders", spec := "graphOrders", unfollowed := true, recurses := true, apart := false, narrowed := true }
def GraphOrdersUptoSaid : Prop := graphOrdersUptoRow.holds Try.pinned (OpenSpec.upto graphOrdersSpec)

/-- 'seedcornlaw38.GraphCircles', WHERE WHAT IT READS IS OF BULK AT MOST 1048576: true; the input reads as it did. -/
def graphCirclesUptoRow : OpenClaim := { program := "ytfhmibodjfpdfaa", sum := "e31fd9b572900db80b1985dcc805e9188b54bd3002071a9c0b220397164fd972", func := "seedcorn/seedcornlaw38.GraphCircles", spec := "graphCircles", unfollowed := true, recurses := true, apart := false, narrowed := true }
def GraphCirclesUptoSaid : Prop := graphCirclesUptoRow.holds Try.pinned (OpenSpec.upto graphCirclesSpec)

/-- 'seedcornlaw38.GraphBehind', WHERE WHAT IT READS IS OF BULK AT MOST 1048576: true; the input reads as it did. -/
def graphBehindUptoRow : OpenClaim := { program := "ytfhmibodjfpdfaa", sum := "e31fd9b572900db80b1985dcc805e9188b54bd3002071a9c0b220397164fd972", func := "seedcorn/seedcornlaw38.GraphBehind", spec := "graphBehind", unfollowed := true, recurses := true, apart := false, narrowed := true }
def GraphBehindUptoSaid : Prop := graphBehindUptoRow.holds Try.pinned (OpenSpec.upto graphBehindSpec)

/-- 'seedcornlaw38.GraphReaches', WHERE WHAT IT READS IS OF BULK AT MOST 1048576: true; the input reads as it did. -/
def graphReachesUptoRow : OpenClaim := { program := "ytfhmibodjfpdfaa", sum := "e31fd9b572900db80b1985dcc805e9188b54bd3002071a9c0b220397164fd972", func := "seedcorn/seedcornlaw38.GraphReaches", spec := "graphReaches", unfollowed := true, recurses := true, apart := false, narrowed := true }
def GraphReachesUptoSaid : Prop := graphReachesUptoRow.holds Try.pinned (OpenSpec.upto graphReachesSpec)

end Rows
end Go.Proofs.Ytfhmibodjfpdfaa
