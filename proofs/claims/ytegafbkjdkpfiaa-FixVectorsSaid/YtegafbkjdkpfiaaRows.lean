/-
  No cell of these rows narrows 'for every input' (looked for: loops, veiled, ifaces, maps, wideKeys, modest, calm, conditions, laid).
  DERIVED. THE GIVEN ROWS OF THIS SEAT. 12 by the template 'for every input the law returns true; each argument reads behind the call as it read before'; 0 by the template 'total and deterministic' (their statements: YtegafbkjdkpfiaaTotals.lean).
  GIVEN WITH THE SEED: the statements are not yours to turn. If you find one false, say at which input.
  Laid BY PROGRAM, IN A SANDBOX (cutbox-rows.mjs): the forced cells as the released guide's own fill.sh prints them over the translation 8832bb94320736ec… (all of the seat's roots in one cut). By AI agents, Wed Nov 11 2026. No macro, syntax, notation, axiom, sorry.
-/
import Derived.Test.YtegafbkjdkpfiaaChecked
import GoSem.Claim
import GoSem.ClaimJoined
import GoSem.ClaimMapViews
import Derived.JoinedTies
import Derived.KernelRfl
namespace Go.Proofs.Ytegafbkjdkpfiaa
/- THE CELL 'sum', in the pinned program and in every row, IS THE sha256 OF THE DUMP (.gsa) THAT YtegafbkjdkpfiaaProg.lean LOADS. Nothing in Lean hashes anything: it is a label: what it is worth is what the hold of that sum in a sandbox is worth. -/
noncomputable def Try.pinned : Pinned := { name := "ytegafbkjdkpfiaa", sum := "8832bb94320736ecc472f27fc0eb4d8bcaa5d7fc88cf9d1646144834a581d8e8", checked := Try.checked }
namespace Rows
def none {H : Type} : Left H := { results := [], args := [] }

/-- 'embrasurelaw01.FixRoots': WHATEVER THE INPUT: true; the input reads as it did. -/
def fixRootsSpec : ChangeSpec := { name := "fixRoots", fn := fun _ => fun
  | [d1, d2, d3, d4] => { results := [.lit (.bool true)], args := [d1, d2, d3, d4] }
  | _ => none }
def fixRootsRow : OpenClaim := { program := "ytegafbkjdkpfiaa", sum := "8832bb94320736ecc472f27fc0eb4d8bcaa5d7fc88cf9d1646144834a581d8e8", func := "embrasure/embrasurelaw01.FixRoots", spec := "fixRoots", inPlace := ["math/bits.Add64"], unfollowed := true, recurses := true, named := ["math/bits.divideError", "math/bits.overflowError"], apart := false }
def FixRootsSaid : Prop := fixRootsRow.holds Try.pinned (OpenSpec.ofChange fixRootsSpec)

/-- ITS FALSE NEIGHBOUR: 'it returns false'. Refute it at one input. -/
def fixRootsWrong : ChangeSpec := { name := "fixRoots", fn := fun _ => fun
  | [d1, d2, d3, d4] => { results := [.lit (.bool false)], args := [d1, d2, d3, d4] }
  | _ => none }
def FixRootsWrongFalsely : Prop := fixRootsRow.holds Try.pinned (OpenSpec.ofChange fixRootsWrong)

/-- 'embrasurelaw01.FixSquares': WHATEVER THE INPUT: true; the input reads as it did. -/
def fixSquaresSpec : ChangeSpec := { name := "fixSquares", fn := fun _ => fun
  | [d] => { results := [.lit (.bool true)], args := [d] }
  | _ => none }
def fixSquaresRow : OpenClaim := { program := "ytegafbkjdkpfiaa", sum := "8832bb94320736ecc472f27fc0eb4d8bcaa5d7fc88cf9d1646144834a581d8e8", func := "embrasure/embrasurelaw01.FixSquares", spec := "fixSquares", inPlace := ["math/bits.Add64"], unfollowed := true, recurses := true, named := ["math/bits.divideError", "math/bits.overflowError"], apart := false }
def FixSquaresSaid : Prop := fixSquaresRow.holds Try.pinned (OpenSpec.ofChange fixSquaresSpec)

/-- ITS FALSE NEIGHBOUR: 'it returns false'. Refute it at one input. -/
def fixSquaresWrong : ChangeSpec := { name := "fixSquares", fn := fun _ => fun
  | [d] => { results := [.lit (.bool false)], args := [d] }
  | _ => none }
def FixSquaresWrongFalsely : Prop := fixSquaresRow.holds Try.pinned (OpenSpec.ofChange fixSquaresWrong)

/-- 'embrasurelaw01.FixClamps': WHATEVER THE INPUT: true; the input reads as it did. -/
def fixClampsSpec : ChangeSpec := { name := "fixClamps", fn := fun _ => fun
  | [d1, d2] => { results := [.lit (.bool true)], args := [d1, d2] }
  | _ => none }
def fixClampsRow : OpenClaim := { program := "ytegafbkjdkpfiaa", sum := "8832bb94320736ecc472f27fc0eb4d8bcaa5d7fc88cf9d1646144834a581d8e8", func := "embrasure/embrasurelaw01.FixClamps", spec := "fixClamps", inPlace := ["math/bits.Add64"], unfollowed := true, recurses := true, named := ["math/bits.divideError", "math/bits.overflowError"], apart := false }
def FixClampsSaid : Prop := fixClampsRow.holds Try.pinned (OpenSpec.ofChange fixClampsSpec)

/-- ITS FALSE NEIGHBOUR: 'it returns false'. Refute it at one input. -/
def fixClampsWrong : ChangeSpec := { name := "fixClamps", fn := fun _ => fun
  | [d1, d2] => { results := [.lit (.bool false)], args := [d1, d2] }
  | _ => none }
def FixClampsWrongFalsely : Prop := fixClampsRow.holds Try.pinned (OpenSpec.ofChange fixClampsWrong)

/-- 'embrasurelaw01.FixTells': WHATEVER THE INPUT: true; the input reads as it did. -/
def fixTellsSpec : ChangeSpec := { name := "fixTells", fn := fun _ => fun
  | [d1, d2] => { results := [.lit (.bool true)], args := [d1, d2] }
  | _ => none }
def fixTellsRow : OpenClaim := { program := "ytegafbkjdkpfiaa", sum := "8832bb94320736ecc472f27fc0eb4d8bcaa5d7fc88cf9d1646144834a581d8e8", func := "embrasure/embrasurelaw01.FixTells", spec := "fixTells", inPlace := ["math/bits.Add64"], unfollowed := true, recurses := true, named := ["math/bits.divideError", "math/bits.overflowError"], apart := false }
def FixTellsSaid : Prop := fixTellsRow.holds Try.pinned (OpenSpec.ofChange fixTellsSpec)

/-- ITS FALSE NEIGHBOUR: 'it returns false'. Refute it at one input. -/
def fixTellsWrong : ChangeSpec := { name := "fixTells", fn := fun _ => fun
  | [d1, d2] => { results := [.lit (.bool false)], args := [d1, d2] }
  | _ => none }
def FixTellsWrongFalsely : Prop := fixTellsRow.holds Try.pinned (OpenSpec.ofChange fixTellsWrong)

/-- 'embrasurelaw01.FixSmall': WHATEVER THE INPUT: true; the input reads as it did. -/
def fixSmallSpec : ChangeSpec := { name := "fixSmall", fn := fun _ => fun
  | [d1, d2] => { results := [.lit (.bool true)], args := [d1, d2] }
  | _ => none }
def fixSmallRow : OpenClaim := { program := "ytegafbkjdkpfiaa", sum := "8832bb94320736ecc472f27fc0eb4d8bcaa5d7fc88cf9d1646144834a581d8e8", func := "embrasure/embrasurelaw01.FixSmall", spec := "fixSmall", inPlace := ["math/bits.Add64"], unfollowed := true, recurses := true, named := ["math/bits.divideError", "math/bits.overflowError"], apart := false }
def FixSmallSaid : Prop := fixSmallRow.holds Try.pinned (OpenSpec.ofChange fixSmallSpec)

/-- ITS FALSE NEIGHBOUR: 'it returns false'. Refute it at one input. -/
def fixSmallWrong : ChangeSpec := { name := "fixSmall", fn := fun _ => fun
  | [d1, d2] => { results := [.lit (.bool false)], args := [d1, d2] }
  | _ => none }
def FixSmallWrongFalsely : Prop := fixSmallRow.holds Try.pinned (OpenSpec.ofChange fixSmallWrong)

/-- 'embrasurelaw01.FixSigns': WHATEVER THE INPUT: true; the input reads as it did. -/
def fixSignsSpec : ChangeSpec := { name := "fixSigns", fn := fun _ => fun
  | [d1, d2] => { results := [.lit (.bool true)], args := [d1, d2] }
  | _ => none }
def fixSignsRow : OpenClaim := { program := "ytegafbkjdkpfiaa", sum := "8832bb94320736ecc472f27fc0eb4d8bcaa5d7fc88cf9d1646144834a581d8e8", func := "embrasure/embrasurelaw01.FixSigns", spec := "fixSigns", inPlace := ["math/bits.Add64"], unfollowed := true, recurses := true, named := ["math/bits.divideError", "math/bits.overflowError"], apart := false }
def FixSignsSaid : Prop := fixSignsRow.holds Try.pinned (OpenSpec.ofChange fixSignsSpec)

/-- ITS FALSE NEIGHBOUR: 'it returns false'. Refute it at one input. -/
def fixSignsWrong : ChangeSpec := { name := "fixSigns", fn := fun _ => fun
  | [d1, d2] => { results := [.lit (.bool false)], args := [d1, d2] }
  | _ => none }
def FixSignsWrongFalsely : Prop := fixSignsRow.holds Try.pinned (OpenSpec.ofChange fixSignsWrong)

/-- 'embrasurelaw01.FixOrder': WHATEVER THE INPUT: true; the input reads as it did. -/
def fixOrderSpec : ChangeSpec := { name := "fixOrder", fn := fun _ => fun
  | [d1, d2, d3] => { results := [.lit (.bool true)], args := [d1, d2, d3] }
  | _ => none }
def fixOrderRow : OpenClaim := { program := "ytegafbkjdkpfiaa", sum := "8832bb94320736ecc472f27fc0eb4d8bcaa5d7fc88cf9d1646144834a581d8e8", func := "embrasure/embrasurelaw01.FixOrder", spec := "fixOrder", inPlace := ["math/bits.Add64"], unfollowed := true, recurses := true, named := ["math/bits.divideError", "math/bits.overflowError"], apart := false }
def FixOrderSaid : Prop := fixOrderRow.holds Try.pinned (OpenSpec.ofChange fixOrderSpec)

/-- ITS FALSE NEIGHBOUR: 'it returns false'. Refute it at one input. -/
def fixOrderWrong : ChangeSpec := { name := "fixOrder", fn := fun _ => fun
  | [d1, d2, d3] => { results := [.lit (.bool false)], args := [d1, d2, d3] }
  | _ => none }
def FixOrderWrongFalsely : Prop := fixOrderRow.holds Try.pinned (OpenSpec.ofChange fixOrderWrong)

/-- 'embrasurelaw01.FixAxes': WHATEVER THE INPUT: true; the input reads as it did. -/
def fixAxesSpec : ChangeSpec := { name := "fixAxes", fn := fun _ => fun
  | [d1, d2, d3] => { results := [.lit (.bool true)], args := [d1, d2, d3] }
  | _ => none }
def fixAxesRow : OpenClaim := { program := "ytegafbkjdkpfiaa", sum := "8832bb94320736ecc472f27fc0eb4d8bcaa5d7fc88cf9d1646144834a581d8e8", func := "embrasure/embrasurelaw01.FixAxes", spec := "fixAxes", inPlace := ["math/bits.Add64"], unfollowed := true, recurses := true, named := ["math/bits.divideError", "math/bits.overflowError"], apart := false }
def FixAxesSaid : Prop := fixAxesRow.holds Try.pinned (OpenSpec.ofChange fixAxesSpec)

/-- ITS FALSE NEIGHBOUR: 'it returns false'. Refute it at one input. -/
def fixAxesWrong : ChangeSpec := { name := "fixAxes", fn := fun _ => fun
  | [d1, d2, d3] => { results := [.lit (.bool false)], args := [d1, d2, d3] }
  | _ => none }
def FixAxesWrongFalsely : Prop := fixAxesRow.holds Try.pinned (OpenSpec.ofChange fixAxesWrong)

/-- 'embrasurelaw01.FixUnits': WHATEVER THE INPUT: true; the input reads as it did. -/
def fixUnitsSpec : ChangeSpec := { name := "fixUnits", fn := fun _ => fun
  | [d1, d2] => { results := [.lit (.bool true)], args := [d1, d2] }
  | _ => none }
def fixUnitsRow : OpenClaim := { program := "ytegafbkjdkpfiaa", sum := "8832bb94320736ecc472f27fc0eb4d8bcaa5d7fc88cf9d1646144834a581d8e8", func := "embrasure/embrasurelaw01.FixUnits", spec := "fixUnits", inPlace := ["math/bits.Add64", "math/bits.Sub64"], unfollowed := true, recurses := true, named := ["math/bits.divideError", "math/bits.overflowError"], apart := false }
def FixUnitsSaid : Prop := fixUnitsRow.holds Try.pinned (OpenSpec.ofChange fixUnitsSpec)

/-- ITS FALSE NEIGHBOUR: 'it returns false'. Refute it at one input. -/
def fixUnitsWrong : ChangeSpec := { name := "fixUnits", fn := fun _ => fun
  | [d1, d2] => { results := [.lit (.bool false)], args := [d1, d2] }
  | _ => none }
def FixUnitsWrongFalsely : Prop := fixUnitsRow.holds Try.pinned (OpenSpec.ofChange fixUnitsWrong)

/-- 'embrasurelaw01.FixAway': WHATEVER THE INPUT: true; the input reads as it did. -/
def fixAwaySpec : ChangeSpec := { name := "fixAway", fn := fun _ => fun
  | [d1, d2, d3, d4, d5, d6] => { results := [.lit (.bool true)], args := [d1, d2, d3, d4, d5, d6] }
  | _ => none }
def fixAwayRow : OpenClaim := { program := "ytegafbkjdkpfiaa", sum := "8832bb94320736ecc472f27fc0eb4d8bcaa5d7fc88cf9d1646144834a581d8e8", func := "embrasure/embrasurelaw01.FixAway", spec := "fixAway", inPlace := ["math/bits.Add64", "math/bits.Sub64"], unfollowed := true, recurses := true, named := ["math/bits.divideError", "math/bits.overflowError"], apart := false }
def FixAwaySaid : Prop := fixAwayRow.holds Try.pinned (OpenSpec.ofChange fixAwaySpec)

/-- ITS FALSE NEIGHBOUR: 'it returns false'. Refute it at one input. -/
def fixAwayWrong : ChangeSpec := { name := "fixAway", fn := fun _ => fun
  | [d1, d2, d3, d4, d5, d6] => { results := [.lit (.bool false)], args := [d1, d2, d3, d4, d5, d6] }
  | _ => none }
def FixAwayWrongFalsely : Prop := fixAwayRow.holds Try.pinned (OpenSpec.ofChange fixAwayWrong)

/-- 'embrasurelaw01.FixTurned': WHATEVER THE INPUT: true; the input reads as it did. -/
def fixTurnedSpec : ChangeSpec := { name := "fixTurned", fn := fun _ => fun
  | [d1, d2, d3, d4] => { results := [.lit (.bool true)], args := [d1, d2, d3, d4] }
  | _ => none }
def fixTurnedRow : OpenClaim := { program := "ytegafbkjdkpfiaa", sum := "8832bb94320736ecc472f27fc0eb4d8bcaa5d7fc88cf9d1646144834a581d8e8", func := "embrasure/embrasurelaw01.FixTurned", spec := "fixTurned", inPlace := ["math/bits.Add64", "math/bits.Sub64"], unfollowed := true, recurses := true, named := ["math/bits.divideError", "math/bits.overflowError"], apart := false }
def FixTurnedSaid : Prop := fixTurnedRow.holds Try.pinned (OpenSpec.ofChange fixTurnedSpec)

/-- ITS FALSE NEIGHBOUR: 'it returns false'. Refute it at one input. -/
def fixTurnedWrong : ChangeSpec := { name := "fixTurned", fn := fun _ => fun
  | [d1, d2, d3, d4] => { results := [.lit (.bool false)], args := [d1, d2, d3, d4] }
  | _ => none }
def FixTurnedWrongFalsely : Prop := fixTurnedRow.holds Try.pinned (OpenSpec.ofChange fixTurnedWrong)

/-- 'embrasurelaw01.FixVectors': WHATEVER THE INPUT: true; the input reads as it did. -/
def fixVectorsSpec : ChangeSpec := { name := "fixVectors", fn := fun _ => fun
  | [d1, d2, d3] => { results := [.lit (.bool true)], args := [d1, d2, d3] }
  | _ => none }
def fixVectorsRow : OpenClaim := { program := "ytegafbkjdkpfiaa", sum := "8832bb94320736ecc472f27fc0eb4d8bcaa5d7fc88cf9d1646144834a581d8e8", func := "embrasure/embrasurelaw01.FixVectors", spec := "fixVectors", inPlace := ["math/bits.Add64", "math/bits.Sub64"], unfollowed := true, recurses := true, named := ["math/bits.divideError", "math/bits.overflowError"], apart := false }
def FixVectorsSaid : Prop := fixVectorsRow.holds Try.pinned (OpenSpec.ofChange fixVectorsSpec)

/-- ITS FALSE NEIGHBOUR: 'it returns false'. Refute it at one input. -/
def fixVectorsWrong : ChangeSpec := { name := "fixVectors", fn := fun _ => fun
  | [d1, d2, d3] => { results := [.lit (.bool false)], args := [d1, d2, d3] }
  | _ => none }
def FixVectorsWrongFalsely : Prop := fixVectorsRow.holds Try.pinned (OpenSpec.ofChange fixVectorsWrong)

/- THE SECOND FORM. 'bulk': how many values and letters a reading holds, each counted each time it is reached (what is shared counts as often as it is met; a slice's spare places count too). A statement '..UptoSaid' is the law's where the arguments, and the package variables that the reading takes, are together of bulk at most 1048576: NARROWER than '..Said'. Prove '..Said' where nothing that the law and all that it calls make is longer than what came in: it says more and counts as full. Else prove '..UptoSaid'. A law counts once. -/
mutual
def uptoBulk {H : Type} : DataW H → Nat
  | .lit (.string bytes) => bytes.length + 1
  | .lit _ => 1
  | .nil => 1
  | .ptr d => uptoBulk d + 1
  | .slice elems spare => uptoBulkAll elems + uptoBulkAll spare + 1
  | .agg parts => uptoBulkAll parts + 1
  | .iface _ d => uptoBulk d + 1
  | .map entries => uptoBulkEntries entries + 1
  | .held _ => 1
def uptoBulkAll {H : Type} : List (DataW H) → Nat
  | [] => 0
  | d :: r => uptoBulk d + uptoBulkAll r
def uptoBulkEntries {H : Type} : List (Lit × DataW H) → Nat
  | [] => 0
  | x :: r => uptoBulkEntry x + uptoBulkEntries r
def uptoBulkEntry {H : Type} : Lit × DataW H → Nat
  | (.string bytes, d) => bytes.length + uptoBulk d + 1
  | (_, d) => uptoBulk d + 1
 end
def uptoSmall : (H : Type) → List (DataW H) → Bool := fun _ ds => decide (uptoBulkAll ds ≤ 1048576)
def OpenSpec.upto (s : _root_.Go.ChangeSpec) : _root_.Go.OpenSpec := { _root_.Go.OpenSpec.ofChange s with cond := some uptoSmall }

/-- 'embrasurelaw01.FixRoots', WHERE WHAT IT READS IS OF BULK AT MOST 1048576: true; the input reads as it did. -/
def fixRootsUptoRow : OpenClaim := { program := "ytegafbkjdkpfiaa", sum := "8832bb94320736ecc472f27fc0eb4d8bcaa5d7fc88cf9d1646144834a581d8e8", func := "embrasure/embrasurelaw01.FixRoots", spec := "fixRoots", inPlace := ["math/bits.Add64"], unfollowed := true, recurses := true, named := ["math/bits.divideError", "math/bits.overflowError"], apart := false, narrowed := true }
def FixRootsUptoSaid : Prop := fixRootsUptoRow.holds Try.pinned (OpenSpec.upto fixRootsSpec)

/-- 'embrasurelaw01.FixSquares', WHERE WHAT IT READS IS OF BULK AT MOST 1048576: true; the input reads as it did. -/
def fixSquaresUptoRow : OpenClaim := { program := "ytegafbkjdkpfiaa", sum := "8832bb94320736ecc472f27fc0eb4d8bcaa5d7fc88cf9d1646144834a581d8e8", func := "embrasure/embrasurelaw01.FixSquares", spec := "fixSquares", inPlace := ["math/bits.Add64"], unfollowed := true, recurses := true, named := ["math/bits.divideError", "math/bits.overflowError"], apart := false, narrowed := true }
def FixSquaresUptoSaid : Prop := fixSquaresUptoRow.holds Try.pinned (OpenSpec.upto fixSquaresSpec)

/-- 'embrasurelaw01.FixClamps', WHERE WHAT IT READS IS OF BULK AT MOST 1048576: true; the input reads as it did. -/
def fixClampsUptoRow : OpenClaim := { program := "ytegafbkjdkpfiaa", sum := "8832bb94320736ecc472f27fc0eb4d8bcaa5d7fc88cf9d1646144834a581d8e8", func := "embrasure/embrasurelaw01.FixClamps", spec := "fixClamps", inPlace := ["math/bits.Add64"], unfollowed := true, recurses := true, named := ["math/bits.divideError", "math/bits.overflowError"], apart := false, narrowed := true }
def FixClampsUptoSaid : Prop := fixClampsUptoRow.holds Try.pinned (OpenSpec.upto fixClampsSpec)

/-- 'embrasurelaw01.FixTells', WHERE WHAT IT READS IS OF BULK AT MOST 1048576: true; the input reads as it did. -/
def fixTellsUptoRow : OpenClaim := { program := "ytegafbkjdkpfiaa", sum := "8832bb94320736ecc472f27fc0eb4d8bcaa5d7fc88cf9d1646144834a581d8e8", func := "embrasure/embrasurelaw01.FixTells", spec := "fixTells", inPlace := ["math/bits.Add64"], unfollowed := true, recurses := true, named := ["math/bits.divideError", "math/bits.overflowError"], apart := false, narrowed := true }
def FixTellsUptoSaid : Prop := fixTellsUptoRow.holds Try.pinned (OpenSpec.upto fixTellsSpec)

/-- 'embrasurelaw01.FixSmall', WHERE WHAT IT READS IS OF BULK AT MOST 1048576: true; the input reads as it did. -/
def fixSmallUptoRow : OpenClaim := { program := "ytegafbkjdkpfiaa", sum := "8832bb94320736ecc472f27fc0eb4d8bcaa5d7fc88cf9d1646144834a581d8e8", func := "embrasure/embrasurelaw01.FixSmall", spec := "fixSmall", inPlace := ["math/bits.Add64"], unfollowed := true, recurses := true, named := ["math/bits.divideError", "math/bits.overflowError"], apart := false, narrowed := true }
def FixSmallUptoSaid : Prop := fixSmallUptoRow.holds Try.pinned (OpenSpec.upto fixSmallSpec)

/-- 'embrasurelaw01.FixSigns', WHERE WHAT IT READS IS OF BULK AT MOST 1048576: true; the input reads as it did. -/
def fixSignsUptoRow : OpenClaim := { program := "ytegafbkjdkpfiaa", sum := "8832bb94320736ecc472f27fc0eb4d8bcaa5d7fc88cf9d1646144834a581d8e8", func := "embrasure/embrasurelaw01.FixSigns", spec := "fixSigns", inPlace := ["math/bits.Add64"], unfollowed := true, recurses := true, named := ["math/bits.divideError", "math/bits.overflowError"], apart := false, narrowed := true }
def FixSignsUptoSaid : Prop := fixSignsUptoRow.holds Try.pinned (OpenSpec.upto fixSignsSpec)

/-- 'embrasurelaw01.FixOrder', WHERE WHAT IT READS IS OF BULK AT MOST 1048576: true; the input reads as it did. -/
def fixOrderUptoRow : OpenClaim := { program := "ytegafbkjdkpfiaa", sum := "8832bb94320736ecc472f27fc0eb4d8bcaa5d7fc88cf9d1646144834a581d8e8", func := "embrasure/embrasurelaw01.FixOrder", spec := "fixOrder", inPlace := ["math/bits.Add64"], unfollowed := true, recurses := true, named := ["math/bits.divideError", "math/bits.overflowError"], apart := false, narrowed := true }
def FixOrderUptoSaid : Prop := fixOrderUptoRow.holds Try.pinned (OpenSpec.upto fixOrderSpec)

/-- 'embrasurelaw01.FixAxes', WHERE WHAT IT READS IS OF BULK AT MOST 1048576: true; the input reads as it did. -/
def fixAxesUptoRow : OpenClaim := { program := "ytegafbkjdkpfiaa", sum := "8832bb94320736ecc472f27fc0eb4d8bcaa5d7fc88cf9d1646144834a581d8e8", func := "embrasure/embrasurelaw01.FixAxes", spec := "fixAxes", inPlace := ["math/bits.Add64"], unfollowed := true, recurses := true, named := ["math/bits.divideError", "math/bits.overflowError"], apart := false, narrowed := true }
def FixAxesUptoSaid : Prop := fixAxesUptoRow.holds Try.pinned (OpenSpec.upto fixAxesSpec)

/-- 'embrasurelaw01.FixUnits', WHERE WHAT IT READS IS OF BULK AT MOST 1048576: true; the input reads as it did. -/
def fixUnitsUptoRow : OpenClaim := { program := "ytegafbkjdkpfiaa", sum := "8832bb94320736ecc472f27fc0eb4d8bcaa5d7fc88cf9d1646144834a581d8e8", func := "embrasure/embrasurelaw01.FixUnits", spec := "fixUnits", inPlace := ["math/bits.Add64", "math/bits.Sub64"], unfollowed := true, recurses := true, named := ["math/bits.divideError", "math/bits.overflowError"], apart := false, narrowed := true }
def FixUnitsUptoSaid : Prop := fixUnitsUptoRow.holds Try.pinned (OpenSpec.upto fixUnitsSpec)

/-- 'embrasurelaw01.FixAway', WHERE WHAT IT READS IS OF BULK AT MOST 1048576: true; the input reads as it did. -/
def fixAwayUptoRow : OpenClaim := { program := "ytegafbkjdkpfiaa", sum := "8832bb94320736ecc472f27fc0eb4d8bcaa5d7fc88cf9d1646144834a581d8e8", func := "embrasure/embrasurelaw01.FixAway", spec := "fixAway", inPlace := ["math/bits.Add64", "math/bits.Sub64"], unfollowed := true, recurses := true, named := ["math/bits.divideError", "math/bits.overflowError"], apart := false, narrowed := true }
def FixAwayUptoSaid : Prop := fixAwayUptoRow.holds Try.pinned (OpenSpec.upto fixAwaySpec)

/-- 'embrasurelaw01.FixTurned', WHERE WHAT IT READS IS OF BULK AT MOST 1048576: true; the input reads as it did. -/
def fixTurnedUptoRow : OpenClaim := { program := "ytegafbkjdkpfiaa", sum := "8832bb94320736ecc472f27fc0eb4d8bcaa5d7fc88cf9d1646144834a581d8e8", func := "embrasure/embrasurelaw01.FixTurned", spec := "fixTurned", inPlace := ["math/bits.Add64", "math/bits.Sub64"], unfollowed := true, recurses := true, named := ["math/bits.divideError", "math/bits.overflowError"], apart := false, narrowed := true }
def FixTurnedUptoSaid : Prop := fixTurnedUptoRow.holds Try.pinned (OpenSpec.upto fixTurnedSpec)

/-- 'embrasurelaw01.FixVectors', WHERE WHAT IT READS IS OF BULK AT MOST 1048576: true; the input reads as it did. -/
def fixVectorsUptoRow : OpenClaim := { program := "ytegafbkjdkpfiaa", sum := "8832bb94320736ecc472f27fc0eb4d8bcaa5d7fc88cf9d1646144834a581d8e8", func := "embrasure/embrasurelaw01.FixVectors", spec := "fixVectors", inPlace := ["math/bits.Add64", "math/bits.Sub64"], unfollowed := true, recurses := true, named := ["math/bits.divideError", "math/bits.overflowError"], apart := false, narrowed := true }
def FixVectorsUptoSaid : Prop := fixVectorsUptoRow.holds Try.pinned (OpenSpec.upto fixVectorsSpec)

end Rows
end Go.Proofs.Ytegafbkjdkpfiaa
