/-
  No cell of these rows narrows 'for every input' (looked for: loops, veiled, ifaces, maps, wideKeys, modest, calm, conditions, laid).
  DERIVED. THE GIVEN ROWS OF THIS SEAT. 6 by the template 'for every input the law returns true; each argument reads behind the call as it read before'; 0 by the template 'total and deterministic' (their statements: YtihpfaeabocdbaaTotals.lean).
  GIVEN WITH THE SEED: the statements are not yours to turn. If you find one false, say at which input.
  Laid BY PROGRAM, IN A SANDBOX (cutbox-rows.mjs): the forced cells as the released guide's own fill.sh prints them over the translation 7b24de60c8666dcb… (all of the seat's roots in one cut). By AI agents, Wed Nov 11 2026. No macro, syntax, notation, axiom, sorry.
-/
import Derived.Test.YtihpfaeabocdbaaChecked
import GoSem.Claim
import GoSem.ClaimJoined
import GoSem.ClaimMapViews
import Derived.JoinedTies
import Derived.KernelRfl
namespace Go.Proofs.Ytihpfaeabocdbaa
/- THE CELL 'sum', in the pinned program and in every row, IS THE sha256 OF THE DUMP (.gsa) THAT YtihpfaeabocdbaaProg.lean LOADS. Nothing in Lean hashes anything: it is a label: what it is worth is what the hold of that sum in a sandbox is worth. -/
noncomputable def Try.pinned : Pinned := { name := "ytihpfaeabocdbaa", sum := "7b24de60c8666dcba023ab87bf57f73ce14893032a6f3b1506615fefc3614ab7", checked := Try.checked }
namespace Rows
def none {H : Type} : Left H := { results := [], args := [] }

/-- 'embrasurelaw11.WalkMoves': WHATEVER THE INPUT: true; the input reads as it did. -/
def walkMovesSpec : ChangeSpec := { name := "walkMoves", fn := fun _ => fun
  | [d1, d2, d3] => { results := [.lit (.bool true)], args := [d1, d2, d3] }
  | _ => none }
def walkMovesRow : OpenClaim := { program := "ytihpfaeabocdbaa", sum := "7b24de60c8666dcba023ab87bf57f73ce14893032a6f3b1506615fefc3614ab7", func := "embrasure/embrasurelaw11.WalkMoves", spec := "walkMoves", inPlace := ["math/bits.Add64"], unfollowed := true, recurses := true, apart := false }
def WalkMovesSaid : Prop := walkMovesRow.holds Try.pinned (OpenSpec.ofChange walkMovesSpec)

/-- ITS FALSE NEIGHBOUR: 'it returns false'. Refute it at one input. -/
def walkMovesWrong : ChangeSpec := { name := "walkMoves", fn := fun _ => fun
  | [d1, d2, d3] => { results := [.lit (.bool false)], args := [d1, d2, d3] }
  | _ => none }
def WalkMovesWrongFalsely : Prop := walkMovesRow.holds Try.pinned (OpenSpec.ofChange walkMovesWrong)

/-- 'embrasurelaw11.WalkRight': WHATEVER THE INPUT: true; the input reads as it did. -/
def walkRightSpec : ChangeSpec := { name := "walkRight", fn := fun _ => fun
  | [d1, d2, d3] => { results := [.lit (.bool true)], args := [d1, d2, d3] }
  | _ => none }
def walkRightRow : OpenClaim := { program := "ytihpfaeabocdbaa", sum := "7b24de60c8666dcba023ab87bf57f73ce14893032a6f3b1506615fefc3614ab7", func := "embrasure/embrasurelaw11.WalkRight", spec := "walkRight", inPlace := ["math/bits.Add64"], unfollowed := true, recurses := true, apart := false }
def WalkRightSaid : Prop := walkRightRow.holds Try.pinned (OpenSpec.ofChange walkRightSpec)

/-- ITS FALSE NEIGHBOUR: 'it returns false'. Refute it at one input. -/
def walkRightWrong : ChangeSpec := { name := "walkRight", fn := fun _ => fun
  | [d1, d2, d3] => { results := [.lit (.bool false)], args := [d1, d2, d3] }
  | _ => none }
def WalkRightWrongFalsely : Prop := walkRightRow.holds Try.pinned (OpenSpec.ofChange walkRightWrong)

/-- 'embrasurelaw11.WalkJoins': WHATEVER THE INPUT: true; the input reads as it did. -/
def walkJoinsSpec : ChangeSpec := { name := "walkJoins", fn := fun _ => fun
  | [d1, d2, d3, d4, d5] => { results := [.lit (.bool true)], args := [d1, d2, d3, d4, d5] }
  | _ => none }
def walkJoinsRow : OpenClaim := { program := "ytihpfaeabocdbaa", sum := "7b24de60c8666dcba023ab87bf57f73ce14893032a6f3b1506615fefc3614ab7", func := "embrasure/embrasurelaw11.WalkJoins", spec := "walkJoins", inPlace := ["math/bits.Add64"], unfollowed := true, recurses := true, apart := false }
def WalkJoinsSaid : Prop := walkJoinsRow.holds Try.pinned (OpenSpec.ofChange walkJoinsSpec)

/-- ITS FALSE NEIGHBOUR: 'it returns false'. Refute it at one input. -/
def walkJoinsWrong : ChangeSpec := { name := "walkJoins", fn := fun _ => fun
  | [d1, d2, d3, d4, d5] => { results := [.lit (.bool false)], args := [d1, d2, d3, d4, d5] }
  | _ => none }
def WalkJoinsWrongFalsely : Prop := walkJoinsRow.holds Try.pinned (OpenSpec.ofChange walkJoinsWrong)

/-- 'embrasurelaw11.WalkFalls': WHATEVER THE INPUT: true; the input reads as it did. -/
def walkFallsSpec : ChangeSpec := { name := "walkFalls", fn := fun _ => fun
  | [d1, d2, d3] => { results := [.lit (.bool true)], args := [d1, d2, d3] }
  | _ => none }
def walkFallsRow : OpenClaim := { program := "ytihpfaeabocdbaa", sum := "7b24de60c8666dcba023ab87bf57f73ce14893032a6f3b1506615fefc3614ab7", func := "embrasure/embrasurelaw11.WalkFalls", spec := "walkFalls", inPlace := ["math/bits.Add64"], unfollowed := true, recurses := true, apart := false }
def WalkFallsSaid : Prop := walkFallsRow.holds Try.pinned (OpenSpec.ofChange walkFallsSpec)

/-- ITS FALSE NEIGHBOUR: 'it returns false'. Refute it at one input. -/
def walkFallsWrong : ChangeSpec := { name := "walkFalls", fn := fun _ => fun
  | [d1, d2, d3] => { results := [.lit (.bool false)], args := [d1, d2, d3] }
  | _ => none }
def WalkFallsWrongFalsely : Prop := walkFallsRow.holds Try.pinned (OpenSpec.ofChange walkFallsWrong)

/-- 'embrasurelaw11.WalkStill': WHATEVER THE INPUT: true; the input reads as it did. -/
def walkStillSpec : ChangeSpec := { name := "walkStill", fn := fun _ => fun
  | [d1, d2, d3] => { results := [.lit (.bool true)], args := [d1, d2, d3] }
  | _ => none }
def walkStillRow : OpenClaim := { program := "ytihpfaeabocdbaa", sum := "7b24de60c8666dcba023ab87bf57f73ce14893032a6f3b1506615fefc3614ab7", func := "embrasure/embrasurelaw11.WalkStill", spec := "walkStill", inPlace := ["math/bits.Add64"], unfollowed := true, recurses := true, apart := false }
def WalkStillSaid : Prop := walkStillRow.holds Try.pinned (OpenSpec.ofChange walkStillSpec)

/-- ITS FALSE NEIGHBOUR: 'it returns false'. Refute it at one input. -/
def walkStillWrong : ChangeSpec := { name := "walkStill", fn := fun _ => fun
  | [d1, d2, d3] => { results := [.lit (.bool false)], args := [d1, d2, d3] }
  | _ => none }
def WalkStillWrongFalsely : Prop := walkStillRow.holds Try.pinned (OpenSpec.ofChange walkStillWrong)

/-- 'embrasurelaw11.WalkHigher': WHATEVER THE INPUT: true; the input reads as it did. -/
def walkHigherSpec : ChangeSpec := { name := "walkHigher", fn := fun _ => fun
  | [d1, d2, d3] => { results := [.lit (.bool true)], args := [d1, d2, d3] }
  | _ => none }
def walkHigherRow : OpenClaim := { program := "ytihpfaeabocdbaa", sum := "7b24de60c8666dcba023ab87bf57f73ce14893032a6f3b1506615fefc3614ab7", func := "embrasure/embrasurelaw11.WalkHigher", spec := "walkHigher", inPlace := ["math/bits.Add64"], unfollowed := true, recurses := true, apart := false }
def WalkHigherSaid : Prop := walkHigherRow.holds Try.pinned (OpenSpec.ofChange walkHigherSpec)

/-- ITS FALSE NEIGHBOUR: 'it returns false'. Refute it at one input. -/
def walkHigherWrong : ChangeSpec := { name := "walkHigher", fn := fun _ => fun
  | [d1, d2, d3] => { results := [.lit (.bool false)], args := [d1, d2, d3] }
  | _ => none }
def WalkHigherWrongFalsely : Prop := walkHigherRow.holds Try.pinned (OpenSpec.ofChange walkHigherWrong)

/- THE SECOND FORM. 'bulk': how many values and letters a reading holds, each counted each time it is reached (what is shared counts as often as it is met; a slice's spare places count too). A statement '..UptoSaid' is the law's where the arguments, and the package variables that the reading takes, are together of bulk at most 1048576: NARROWER than '..Said'. Prove '..Said' where nothing that the law and all that it calls make is longer than what came in: it says more and counts as full. Else prove '..UptoSaid'. A law counts once. -/
mutual
def uptoBulk {H : Type} : DataW H → Nat
  | .lit (.string bytes) => bytes.length + 1
  | .lit _ => 1
  | .nil => 1
  | .ptr d => uptoBulk d + 1
  | .slice elems spare => uptoBulkAll elems + uptoBulkAll spare + 1
  | .agg parts => uptoBulkAll parts + 1
  | .iface _ d => uptoBulk d + 1
  | .map entries => uptoBulkEntries entries + 1
  | .held _ => 1
def uptoBulkAll {H : Type} : List (DataW H) → Nat
  | [] => 0
  | d :: r => uptoBulk d + uptoBulkAll r
def uptoBulkEntries {H : Type} : List (Lit × DataW H) → Nat
  | [] => 0
  | x :: r => uptoBulkEntry x + uptoBulkEntries r
def uptoBulkEntry {H : Type} : Lit × DataW H → Nat
  | (.string bytes, d) => bytes.length + uptoBulk d + 1
  | (_, d) => uptoBulk d + 1
 end
def uptoSmall : (H : Type) → List (DataW H) → Bool := fun _ ds => decide (uptoBulkAll ds ≤ 1048576)
def OpenSpec.upto (s : _root_.Go.ChangeSpec) : _root_.Go.OpenSpec := { _root_.Go.OpenSpec.ofChange s with cond := some uptoSmall }

/-- 'embrasurelaw11.WalkMoves', WHERE WHAT IT READS IS OF BULK AT MOST 1048576: true; the input reads as it did. -/
def walkMovesUptoRow : OpenClaim := { program := "ytihpfaeabocdbaa", sum := "7b24de60c8666dcba023ab87bf57f73ce14893032a6f3b1506615fefc3614ab7", func := "embrasure/embrasurelaw11.WalkMoves", spec := "walkMoves", inPlace := ["math/bits.Add64"], unfollowed := true, recurses := true, apart := false, narrowed := true }
def WalkMovesUptoSaid : Prop := walkMovesUptoRow.holds Try.pinned (OpenSpec.upto walkMovesSpec)

/-- 'embrasurelaw11.WalkRight', WHERE WHAT IT READS IS OF BULK AT MOST 1048576: true; the input reads as it did. -/
def walkRightUptoRow : OpenClaim := { program := "ytihpfaeabocdbaa", sum := "7b24de60c8666dcba023ab87bf57f73ce14893032a6f3b1506615fefc3614ab7", func := "embrasure/embrasurelaw11.WalkRight", spec := "walkRight", inPlace := ["math/bits.Add64"], unfollowed := true, recurses := true, apart := false, narrowed := true }
def WalkRightUptoSaid : Prop := walkRightUptoRow.holds Try.pinned (OpenSpec.upto walkRightSpec)

/-- 'embrasurelaw11.WalkJoins', WHERE WHAT IT READS IS OF BULK AT MOST 1048576: true; the input reads as it did. -/
def walkJoinsUptoRow : OpenClaim := { program := "ytihpfaeabocdbaa", sum := "7b24de60c8666dcba023ab87bf57f73ce14893032a6f3b1506615fefc3614ab7", func := "embrasure/embrasurelaw11.WalkJoins", spec := "walkJoins", inPlace := ["math/bits.Add64"], unfollowed := true, recurses := true, apart := false, narrowed := true }
def WalkJoinsUptoSaid : Prop := walkJoinsUptoRow.holds Try.pinned (OpenSpec.upto walkJoinsSpec)

/-- 'embrasurelaw11.WalkFalls', WHERE WHAT IT READS IS OF BULK AT MOST 1048576: true; the input reads as it did. -/
def walkFallsUptoRow : OpenClaim := { program := "ytihpfaeabocdbaa", sum := "7b24de60c8666dcba023ab87bf57f73ce14893032a6f3b1506615fefc3614ab7", func := "embrasure/embrasurelaw11.WalkFalls", spec := "walkFalls", inPlace := ["math/bits.Add64"], unfollowed := true, recurses := true, apart := false, narrowed := true }
def WalkFallsUptoSaid : Prop := walkFallsUptoRow.holds Try.pinned (OpenSpec.upto walkFallsSpec)

/-- 'embrasurelaw11.WalkStill', WHERE WHAT IT READS IS OF BULK AT MOST 1048576: true; the input reads as it did. -/
def walkStillUptoRow : OpenClaim := { program := "ytihpfaeabocdbaa", sum := "7b24de60c8666dcba023ab87bf57f73ce14893032a6f3b1506615fefc3614ab7", func := "embrasure/embrasurelaw11.WalkStill", spec := "walkStill", inPlace := ["math/bits.Add64"], unfollowed := true, recurses := true, apart := false, narrowed := true }
def WalkStillUptoSaid : Prop := walkStillUptoRow.holds Try.pinned (OpenSpec.upto walkStillSpec)

/-- 'embrasurelaw11.WalkHigher', WHERE WHAT IT READS IS OF BULK AT MOST 1048576: true; the input reads as it did. -/
def walkHigherUptoRow : OpenClaim := { program := "ytihpfaeabocdbaa", sum := "7b24de60c8666dcba023ab87bf57f73ce14893032a6f3b1506615fefc3614ab7", func := "embrasure/embrasurelaw11.WalkHigher", spec := "walkHigher", inPlace := ["math/bits.Add64"], unfollowed := true, recurses := true, apart := false, narrowed := true }
def WalkHigherUptoSaid : Prop := walkHigherUptoRow.holds Try.pinned (OpenSpec.upto walkHigherSpec)

end Rows
end Go.Proofs.Ytihpfaeabocdbaa
