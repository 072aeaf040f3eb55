/-
  No cell of these rows narrows 'for every input' (looked for: loops, veiled, ifaces, maps, wideKeys, modest, calm, conditions, laid).
  DERIVED. THE GIVEN ROWS OF THIS SEAT. 7 by the template 'for every input the law returns true; each argument reads behind the call as it read before'; 0 by the template 'total and deterministic' (their statements: YtnfhlfmcgeaagaaTotals.lean).
  GIVEN WITH THE SEED: the statements are not yours to turn. If you find one false, say at which input.
  Laid BY PROGRAM, IN A SANDBOX (cutbox-rows.mjs): the forced cells as the released guide's own fill.sh prints them over the translation a6ac31060d301f8b… (all of the seat's roots in one cut). By AI agents, Wed Nov 11 2026. No macro, syntax, notation, axiom, sorry.
-/
import Derived.Test.YtnfhlfmcgeaagaaChecked
import GoSem.Claim
import GoSem.ClaimJoined
import GoSem.ClaimMapViews
import Derived.JoinedTies
import Derived.KernelRfl
namespace Go.Proofs.Ytnfhlfmcgeaagaa
/- THE CELL 'sum', in the pinned program and in every row, IS THE sha256 OF THE DUMP (.gsa) THAT YtnfhlfmcgeaagaaProg.lean LOADS. Nothing in Lean hashes anything: it is a label: what it is worth is what the hold of that sum in a sandbox is worth. -/
noncomputable def Try.pinned : Pinned := { name := "ytnfhlfmcgeaagaa", sum := "a6ac31060d301f8b798bb1b746b649d14edbeeb4fa93004b5afc390aa6c0abcd", checked := Try.checked }
namespace Rows
def none {H : Type} : Left H := { results := [], args := [] }

/-- 'embrasurelaw10.TraceTells': WHATEVER THE INPUT: true; the input reads as it did. -/
def traceTellsSpec : ChangeSpec := { name := "traceTells", fn := fun _ => fun
  | [d1, d2, d3] => { results := [.lit (.bool true)], args := [d1, d2, d3] }
  | _ => none }
def traceTellsRow : OpenClaim := { program := "ytnfhlfmcgeaagaa", sum := "a6ac31060d301f8b798bb1b746b649d14edbeeb4fa93004b5afc390aa6c0abcd", func := "embrasure/embrasurelaw10.TraceTells", spec := "traceTells", inPlace := ["math/bits.Add64"], unfollowed := true, recurses := true, apart := false }
def TraceTellsSaid : Prop := traceTellsRow.holds Try.pinned (OpenSpec.ofChange traceTellsSpec)

/-- ITS FALSE NEIGHBOUR: 'it returns false'. Refute it at one input. -/
def traceTellsWrong : ChangeSpec := { name := "traceTells", fn := fun _ => fun
  | [d1, d2, d3] => { results := [.lit (.bool false)], args := [d1, d2, d3] }
  | _ => none }
def TraceTellsWrongFalsely : Prop := traceTellsRow.holds Try.pinned (OpenSpec.ofChange traceTellsWrong)

/-- 'embrasurelaw10.TraceStays': WHATEVER THE INPUT: true; the input reads as it did. -/
def traceStaysSpec : ChangeSpec := { name := "traceStays", fn := fun _ => fun
  | [d1, d2, d3] => { results := [.lit (.bool true)], args := [d1, d2, d3] }
  | _ => none }
def traceStaysRow : OpenClaim := { program := "ytnfhlfmcgeaagaa", sum := "a6ac31060d301f8b798bb1b746b649d14edbeeb4fa93004b5afc390aa6c0abcd", func := "embrasure/embrasurelaw10.TraceStays", spec := "traceStays", inPlace := ["math/bits.Add64"], unfollowed := true, recurses := true, apart := false }
def TraceStaysSaid : Prop := traceStaysRow.holds Try.pinned (OpenSpec.ofChange traceStaysSpec)

/-- ITS FALSE NEIGHBOUR: 'it returns false'. Refute it at one input. -/
def traceStaysWrong : ChangeSpec := { name := "traceStays", fn := fun _ => fun
  | [d1, d2, d3] => { results := [.lit (.bool false)], args := [d1, d2, d3] }
  | _ => none }
def TraceStaysWrongFalsely : Prop := traceStaysRow.holds Try.pinned (OpenSpec.ofChange traceStaysWrong)

/-- 'embrasurelaw10.TraceAxes': WHATEVER THE INPUT: true; the input reads as it did. -/
def traceAxesSpec : ChangeSpec := { name := "traceAxes", fn := fun _ => fun
  | [d1, d2, d3] => { results := [.lit (.bool true)], args := [d1, d2, d3] }
  | _ => none }
def traceAxesRow : OpenClaim := { program := "ytnfhlfmcgeaagaa", sum := "a6ac31060d301f8b798bb1b746b649d14edbeeb4fa93004b5afc390aa6c0abcd", func := "embrasure/embrasurelaw10.TraceAxes", spec := "traceAxes", inPlace := ["math/bits.Add64"], unfollowed := true, recurses := true, apart := false }
def TraceAxesSaid : Prop := traceAxesRow.holds Try.pinned (OpenSpec.ofChange traceAxesSpec)

/-- ITS FALSE NEIGHBOUR: 'it returns false'. Refute it at one input. -/
def traceAxesWrong : ChangeSpec := { name := "traceAxes", fn := fun _ => fun
  | [d1, d2, d3] => { results := [.lit (.bool false)], args := [d1, d2, d3] }
  | _ => none }
def TraceAxesWrongFalsely : Prop := traceAxesRow.holds Try.pinned (OpenSpec.ofChange traceAxesWrong)

/-- 'embrasurelaw10.TraceMore': WHATEVER THE INPUT: true; the input reads as it did. -/
def traceMoreSpec : ChangeSpec := { name := "traceMore", fn := fun _ => fun
  | [d1, d2, d3] => { results := [.lit (.bool true)], args := [d1, d2, d3] }
  | _ => none }
def traceMoreRow : OpenClaim := { program := "ytnfhlfmcgeaagaa", sum := "a6ac31060d301f8b798bb1b746b649d14edbeeb4fa93004b5afc390aa6c0abcd", func := "embrasure/embrasurelaw10.TraceMore", spec := "traceMore", inPlace := ["math/bits.Add64"], unfollowed := true, recurses := true, apart := false }
def TraceMoreSaid : Prop := traceMoreRow.holds Try.pinned (OpenSpec.ofChange traceMoreSpec)

/-- ITS FALSE NEIGHBOUR: 'it returns false'. Refute it at one input. -/
def traceMoreWrong : ChangeSpec := { name := "traceMore", fn := fun _ => fun
  | [d1, d2, d3] => { results := [.lit (.bool false)], args := [d1, d2, d3] }
  | _ => none }
def TraceMoreWrongFalsely : Prop := traceMoreRow.holds Try.pinned (OpenSpec.ofChange traceMoreWrong)

/-- 'embrasurelaw10.TraceHall': WHATEVER THE INPUT: true; the input reads as it did. -/
def traceHallSpec : ChangeSpec := { name := "traceHall", fn := fun _ => fun
  | [d1, d2, d3, d4, d5] => { results := [.lit (.bool true)], args := [d1, d2, d3, d4, d5] }
  | _ => none }
def traceHallRow : OpenClaim := { program := "ytnfhlfmcgeaagaa", sum := "a6ac31060d301f8b798bb1b746b649d14edbeeb4fa93004b5afc390aa6c0abcd", func := "embrasure/embrasurelaw10.TraceHall", spec := "traceHall", inPlace := ["math/bits.Add64"], unfollowed := true, recurses := true, apart := false }
def TraceHallSaid : Prop := traceHallRow.holds Try.pinned (OpenSpec.ofChange traceHallSpec)

/-- ITS FALSE NEIGHBOUR: 'it returns false'. Refute it at one input. -/
def traceHallWrong : ChangeSpec := { name := "traceHall", fn := fun _ => fun
  | [d1, d2, d3, d4, d5] => { results := [.lit (.bool false)], args := [d1, d2, d3, d4, d5] }
  | _ => none }
def TraceHallWrongFalsely : Prop := traceHallRow.holds Try.pinned (OpenSpec.ofChange traceHallWrong)

/-- 'embrasurelaw10.TraceBack': WHATEVER THE INPUT: true; the input reads as it did. -/
def traceBackSpec : ChangeSpec := { name := "traceBack", fn := fun _ => fun
  | [d1, d2, d3, d4, d5] => { results := [.lit (.bool true)], args := [d1, d2, d3, d4, d5] }
  | _ => none }
def traceBackRow : OpenClaim := { program := "ytnfhlfmcgeaagaa", sum := "a6ac31060d301f8b798bb1b746b649d14edbeeb4fa93004b5afc390aa6c0abcd", func := "embrasure/embrasurelaw10.TraceBack", spec := "traceBack", inPlace := ["math/bits.Add64"], unfollowed := true, recurses := true, apart := false }
def TraceBackSaid : Prop := traceBackRow.holds Try.pinned (OpenSpec.ofChange traceBackSpec)

/-- ITS FALSE NEIGHBOUR: 'it returns false'. Refute it at one input. -/
def traceBackWrong : ChangeSpec := { name := "traceBack", fn := fun _ => fun
  | [d1, d2, d3, d4, d5] => { results := [.lit (.bool false)], args := [d1, d2, d3, d4, d5] }
  | _ => none }
def TraceBackWrongFalsely : Prop := traceBackRow.holds Try.pinned (OpenSpec.ofChange traceBackWrong)

/-- 'embrasurelaw10.TraceWalls': WHATEVER THE INPUT: true; the input reads as it did. -/
def traceWallsSpec : ChangeSpec := { name := "traceWalls", fn := fun _ => fun
  | [d1, d2, d3, d4] => { results := [.lit (.bool true)], args := [d1, d2, d3, d4] }
  | _ => none }
def traceWallsRow : OpenClaim := { program := "ytnfhlfmcgeaagaa", sum := "a6ac31060d301f8b798bb1b746b649d14edbeeb4fa93004b5afc390aa6c0abcd", func := "embrasure/embrasurelaw10.TraceWalls", spec := "traceWalls", inPlace := ["math/bits.Add64"], unfollowed := true, recurses := true, apart := false }
def TraceWallsSaid : Prop := traceWallsRow.holds Try.pinned (OpenSpec.ofChange traceWallsSpec)

/-- ITS FALSE NEIGHBOUR: 'it returns false'. Refute it at one input. -/
def traceWallsWrong : ChangeSpec := { name := "traceWalls", fn := fun _ => fun
  | [d1, d2, d3, d4] => { results := [.lit (.bool false)], args := [d1, d2, d3, d4] }
  | _ => none }
def TraceWallsWrongFalsely : Prop := traceWallsRow.holds Try.pinned (OpenSpec.ofChange traceWallsWrong)

/- THE SECOND FORM. 'bulk': how many values and letters a reading holds, each counted each time it is reached (what is shared counts as often as it is met; a slice's spare places count too). A statement '..UptoSaid' is the law's where the arguments, and the package variables that the reading takes, are together of bulk at most 1048576: NARROWER than '..Said'. Prove '..Said' where nothing that the law and all that it calls make is longer than what came in: it says more and counts as full. Else prove '..UptoSaid'. A law counts once. -/
mutual
def uptoBulk {H : Type} : DataW H → Nat
  | .lit (.string bytes) => bytes.length + 1
  | .lit _ => 1
  | .nil => 1
  | .ptr d => uptoBulk d + 1
  | .slice elems spare => uptoBulkAll elems + uptoBulkAll spare + 1
  | .agg parts => uptoBulkAll parts + 1
  | .iface _ d => uptoBulk d + 1
  | .map entries => uptoBulkEntries entries + 1
  | .held _ => 1
def uptoBulkAll {H : Type} : List (DataW H) → Nat
  | [] => 0
  | d :: r => uptoBulk d + uptoBulkAll r
def uptoBulkEntries {H : Type} : List (Lit × DataW H) → Nat
  | [] => 0
  | x :: r => uptoBulkEntry x + uptoBulkEntries r
def uptoBulkEntry {H : Type} : Lit × DataW H → Nat
  | (.string bytes, d) => bytes.length + uptoBulk d + 1
  | (_, d) => uptoBulk d + 1
 end
def uptoSmall : (H : Type) → List (DataW H) → Bool := fun _ ds => decide (uptoBulkAll ds ≤ 1048576)
def OpenSpec.upto (s : _root_.Go.ChangeSpec) : _root_.Go.OpenSpec := { _root_.Go.OpenSpec.ofChange s with cond := some uptoSmall }

/-- 'embrasurelaw10.TraceTells', WHERE WHAT IT READS IS OF BULK AT MOST 1048576: true; the input reads as it did. -/
def traceTellsUptoRow : OpenClaim := { program := "ytnfhlfmcgeaagaa", sum := "a6ac31060d301f8b798bb1b746b649d14edbeeb4fa93004b5afc390aa6c0abcd", func := "embrasure/embrasurelaw10.TraceTells", spec := "traceTells", inPlace := ["math/bits.Add64"], unfollowed := true, recurses := true, apart := false, narrowed := true }
def TraceTellsUptoSaid : Prop := traceTellsUptoRow.holds Try.pinned (OpenSpec.upto traceTellsSpec)

/-- 'embrasurelaw10.TraceStays', WHERE WHAT IT READS IS OF BULK AT MOST 1048576: true; the input reads as it did. -/
def traceStaysUptoRow : OpenClaim := { program := "ytnfhlfmcgeaagaa", sum := "a6ac31060d301f8b798bb1b746b649d14edbeeb4fa93004b5afc390aa6c0abcd", func := "embrasure/embrasurelaw10.TraceStays", spec := "traceStays", inPlace := ["math/bits.Add64"], unfollowed := true, recurses := true, apart := false, narrowed := true }
def TraceStaysUptoSaid : Prop := traceStaysUptoRow.holds Try.pinned (OpenSpec.upto traceStaysSpec)

/-- 'embrasurelaw10.TraceAxes', WHERE WHAT IT READS IS OF BULK AT MOST 1048576: true; the input reads as it did. -/
def traceAxesUptoRow : OpenClaim := { program := "ytnfhlfmcgeaagaa", sum := "a6ac31060d301f8b798bb1b746b649d14edbeeb4fa93004b5afc390aa6c0abcd", func := "embrasure/embrasurelaw10.TraceAxes", spec := "traceAxes", inPlace := ["math/bits.Add64"], unfollowed := true, recurses := true, apart := false, narrowed := true }
def TraceAxesUptoSaid : Prop := traceAxesUptoRow.holds Try.pinned (OpenSpec.upto traceAxesSpec)

/-- 'embrasurelaw10.TraceMore', WHERE WHAT IT READS IS OF BULK AT MOST 1048576: true; the input reads as it did. -/
def traceMoreUptoRow : OpenClaim := { program := "ytnfhlfmcgeaagaa", sum := "a6ac31060d301f8b798bb1b746b649d14edbeeb4fa93004b5afc390aa6c0abcd", func := "embrasure/embrasurelaw10.TraceMore", spec := "traceMore", inPlace := ["math/bits.Add64"], unfollowed := true, recurses := true, apart := false, narrowed := true }
def TraceMoreUptoSaid : Prop := traceMoreUptoRow.holds Try.pinned (OpenSpec.upto traceMoreSpec)

/-- 'embrasurelaw10.TraceHall', WHERE WHAT IT READS IS OF BULK AT MOST 1048576: true; the input reads as it did. -/
def traceHallUptoRow : OpenClaim := { program := "ytnfhlfmcgeaagaa", sum := "a6ac31060d301f8b798bb1b746b649d14edbeeb4fa93004b5afc390aa6c0abcd", func := "embrasure/embrasurelaw10.TraceHall", spec := "traceHall", inPlace := ["math/bits.Add64"], unfollowed := true, recurses := true, apart := false, narrowed := true }
def TraceHallUptoSaid : Prop := traceHallUptoRow.holds Try.pinned (OpenSpec.upto traceHallSpec)

/-- 'embrasurelaw10.TraceBack', WHERE WHAT IT READS IS OF BULK AT MOST 1048576: true; the input reads as it did. -/
def traceBackUptoRow : OpenClaim := { program := "ytnfhlfmcgeaagaa", sum := "a6ac31060d301f8b798bb1b746b649d14edbeeb4fa93004b5afc390aa6c0abcd", func := "embrasure/embrasurelaw10.TraceBack", spec := "traceBack", inPlace := ["math/bits.Add64"], unfollowed := true, recurses := true, apart := false, narrowed := true }
def TraceBackUptoSaid : Prop := traceBackUptoRow.holds Try.pinned (OpenSpec.upto traceBackSpec)

/-- 'embrasurelaw10.TraceWalls', WHERE WHAT IT READS IS OF BULK AT MOST 1048576: true; the input reads as it did. -/
def traceWallsUptoRow : OpenClaim := { program := "ytnfhlfmcgeaagaa", sum := "a6ac31060d301f8b798bb1b746b649d14edbeeb4fa93004b5afc390aa6c0abcd", func := "embrasure/embrasurelaw10.TraceWalls", spec := "traceWalls", inPlace := ["math/bits.Add64"], unfollowed := true, recurses := true, apart := false, narrowed := true }
def TraceWallsUptoSaid : Prop := traceWallsUptoRow.holds Try.pinned (OpenSpec.upto traceWallsSpec)

end Rows
end Go.Proofs.Ytnfhlfmcgeaagaa
