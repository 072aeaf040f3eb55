/-
  No cell of these rows narrows 'for every input' (looked for: loops, veiled, ifaces, maps, wideKeys, modest, calm, conditions, laid).
  DERIVED. THE GIVEN ROWS OF THIS SEAT. 5 by the template 'for every input the law returns true; each argument reads behind the call as it read before'; 0 by the template 'total and deterministic' (their statements: YtboljdeeodeeeaaTotals.lean).
  GIVEN WITH THE SEED: the statements are not yours to turn. If you find one false, say at which input.
  Laid BY PROGRAM, IN A SANDBOX (cutbox-rows.mjs): the forced cells as the released guide's own fill.sh prints them over the translation e52f536b3f55b953… (all of the seat's roots in one cut). By AI agents, Wed Nov 11 2026. No macro, syntax, notation, axiom, sorry.
-/
import Derived.Test.YtboljdeeodeeeaaChecked
import GoSem.Claim
import GoSem.ClaimJoined
import GoSem.ClaimMapViews
import Derived.JoinedTies
import Derived.KernelRfl
namespace Go.Proofs.Ytboljdeeodeeeaa
/- THE CELL 'sum', in the pinned program and in every row, IS THE sha256 OF THE DUMP (.gsa) THAT YtboljdeeodeeeaaProg.lean LOADS. Nothing in Lean hashes anything: it is a label: what it is worth is what the hold of that sum in a sandbox is worth. -/
noncomputable def Try.pinned : Pinned := { name := "ytboljdeeodeeeaa", sum := "e52f536b3f55b9538c70b3302bcf641b9325311ea7959d272fd16415acd31362", checked := Try.checked }
namespace Rows
def none {H : Type} : Left H := { results := [], args := [] }

/-- 'embrasurelaw13.BlastTakes': WHATEVER THE INPUT: true; the input reads as it did. -/
def blastTakesSpec : ChangeSpec := { name := "blastTakes", fn := fun _ => fun
  | [d1, d2] => { results := [.lit (.bool true)], args := [d1, d2] }
  | _ => none }
def blastTakesRow : OpenClaim := { program := "ytboljdeeodeeeaa", sum := "e52f536b3f55b9538c70b3302bcf641b9325311ea7959d272fd16415acd31362", func := "embrasure/embrasurelaw13.BlastTakes", spec := "blastTakes", inPlace := ["math/bits.Add64"], unfollowed := true, recurses := true, apart := false }
def BlastTakesSaid : Prop := blastTakesRow.holds Try.pinned (OpenSpec.ofChange blastTakesSpec)

/-- ITS FALSE NEIGHBOUR: 'it returns false'. Refute it at one input. -/
def blastTakesWrong : ChangeSpec := { name := "blastTakes", fn := fun _ => fun
  | [d1, d2] => { results := [.lit (.bool false)], args := [d1, d2] }
  | _ => none }
def BlastTakesWrongFalsely : Prop := blastTakesRow.holds Try.pinned (OpenSpec.ofChange blastTakesWrong)

/-- 'embrasurelaw13.BlastTells': WHATEVER THE INPUT: true; the input reads as it did. -/
def blastTellsSpec : ChangeSpec := { name := "blastTells", fn := fun _ => fun
  | [d1, d2, d3, d4, d5] => { results := [.lit (.bool true)], args := [d1, d2, d3, d4, d5] }
  | _ => none }
def blastTellsRow : OpenClaim := { program := "ytboljdeeodeeeaa", sum := "e52f536b3f55b9538c70b3302bcf641b9325311ea7959d272fd16415acd31362", func := "embrasure/embrasurelaw13.BlastTells", spec := "blastTells", inPlace := ["math/bits.Add64"], unfollowed := true, recurses := true, apart := false }
def BlastTellsSaid : Prop := blastTellsRow.holds Try.pinned (OpenSpec.ofChange blastTellsSpec)

/-- ITS FALSE NEIGHBOUR: 'it returns false'. Refute it at one input. -/
def blastTellsWrong : ChangeSpec := { name := "blastTells", fn := fun _ => fun
  | [d1, d2, d3, d4, d5] => { results := [.lit (.bool false)], args := [d1, d2, d3, d4, d5] }
  | _ => none }
def BlastTellsWrongFalsely : Prop := blastTellsRow.holds Try.pinned (OpenSpec.ofChange blastTellsWrong)

/-- 'embrasurelaw13.BlastBounds': WHATEVER THE INPUT: true; the input reads as it did. -/
def blastBoundsSpec : ChangeSpec := { name := "blastBounds", fn := fun _ => fun
  | [d1, d2, d3] => { results := [.lit (.bool true)], args := [d1, d2, d3] }
  | _ => none }
def blastBoundsRow : OpenClaim := { program := "ytboljdeeodeeeaa", sum := "e52f536b3f55b9538c70b3302bcf641b9325311ea7959d272fd16415acd31362", func := "embrasure/embrasurelaw13.BlastBounds", spec := "blastBounds", inPlace := ["math/bits.Add64"], unfollowed := true, recurses := true, apart := false }
def BlastBoundsSaid : Prop := blastBoundsRow.holds Try.pinned (OpenSpec.ofChange blastBoundsSpec)

/-- ITS FALSE NEIGHBOUR: 'it returns false'. Refute it at one input. -/
def blastBoundsWrong : ChangeSpec := { name := "blastBounds", fn := fun _ => fun
  | [d1, d2, d3] => { results := [.lit (.bool false)], args := [d1, d2, d3] }
  | _ => none }
def BlastBoundsWrongFalsely : Prop := blastBoundsRow.holds Try.pinned (OpenSpec.ofChange blastBoundsWrong)

/-- 'embrasurelaw13.BlastScores': WHATEVER THE INPUT: true; the input reads as it did. -/
def blastScoresSpec : ChangeSpec := { name := "blastScores", fn := fun _ => fun
  | [d1, d2, d3, d4] => { results := [.lit (.bool true)], args := [d1, d2, d3, d4] }
  | _ => none }
def blastScoresRow : OpenClaim := { program := "ytboljdeeodeeeaa", sum := "e52f536b3f55b9538c70b3302bcf641b9325311ea7959d272fd16415acd31362", func := "embrasure/embrasurelaw13.BlastScores", spec := "blastScores", inPlace := ["math/bits.Add64"], unfollowed := true, recurses := true, apart := false }
def BlastScoresSaid : Prop := blastScoresRow.holds Try.pinned (OpenSpec.ofChange blastScoresSpec)

/-- ITS FALSE NEIGHBOUR: 'it returns false'. Refute it at one input. -/
def blastScoresWrong : ChangeSpec := { name := "blastScores", fn := fun _ => fun
  | [d1, d2, d3, d4] => { results := [.lit (.bool false)], args := [d1, d2, d3, d4] }
  | _ => none }
def BlastScoresWrongFalsely : Prop := blastScoresRow.holds Try.pinned (OpenSpec.ofChange blastScoresWrong)

/-- 'embrasurelaw13.BlastNearer': WHATEVER THE INPUT: true; the input reads as it did. -/
def blastNearerSpec : ChangeSpec := { name := "blastNearer", fn := fun _ => fun
  | [d1, d2, d3, d4] => { results := [.lit (.bool true)], args := [d1, d2, d3, d4] }
  | _ => none }
def blastNearerRow : OpenClaim := { program := "ytboljdeeodeeeaa", sum := "e52f536b3f55b9538c70b3302bcf641b9325311ea7959d272fd16415acd31362", func := "embrasure/embrasurelaw13.BlastNearer", spec := "blastNearer", inPlace := ["math/bits.Add64"], unfollowed := true, recurses := true, apart := false }
def BlastNearerSaid : Prop := blastNearerRow.holds Try.pinned (OpenSpec.ofChange blastNearerSpec)

/-- ITS FALSE NEIGHBOUR: 'it returns false'. Refute it at one input. -/
def blastNearerWrong : ChangeSpec := { name := "blastNearer", fn := fun _ => fun
  | [d1, d2, d3, d4] => { results := [.lit (.bool false)], args := [d1, d2, d3, d4] }
  | _ => none }
def BlastNearerWrongFalsely : Prop := blastNearerRow.holds Try.pinned (OpenSpec.ofChange blastNearerWrong)

/- THE SECOND FORM. 'bulk': how many values and letters a reading holds, each counted each time it is reached (what is shared counts as often as it is met; a slice's spare places count too). A statement '..UptoSaid' is the law's where the arguments, and the package variables that the reading takes, are together of bulk at most 1048576: NARROWER than '..Said'. Prove '..Said' where nothing that the law and all that it calls make is longer than what came in: it says more and counts as full. Else prove '..UptoSaid'. A law counts once. -/
mutual
def uptoBulk {H : Type} : DataW H → Nat
  | .lit (.string bytes) => bytes.length + 1
  | .lit _ => 1
  | .nil => 1
  | .ptr d => uptoBulk d + 1
  | .slice elems spare => uptoBulkAll elems + uptoBulkAll spare + 1
  | .agg parts => uptoBulkAll parts + 1
  | .iface _ d => uptoBulk d + 1
  | .map entries => uptoBulkEntries entries + 1
  | .held _ => 1
def uptoBulkAll {H : Type} : List (DataW H) → Nat
  | [] => 0
  | d :: r => uptoBulk d + uptoBulkAll r
def uptoBulkEntries {H : Type} : List (Lit × DataW H) → Nat
  | [] => 0
  | x :: r => uptoBulkEntry x + uptoBulkEntries r
def uptoBulkEntry {H : Type} : Lit × DataW H → Nat
  | (.string bytes, d) => bytes.length + uptoBulk d + 1
  | (_, d) => uptoBulk d + 1
 end
def uptoSmall : (H : Type) → List (DataW H) → Bool := fun _ ds => decide (uptoBulkAll ds ≤ 1048576)
def OpenSpec.upto (s : _root_.Go.ChangeSpec) : _root_.Go.OpenSpec := { _root_.Go.OpenSpec.ofChange s with cond := some uptoSmall }

/-- 'embrasurelaw13.BlastTakes', WHERE WHAT IT READS IS OF BULK AT MOST 1048576: true; the input reads as it did. -/
def blastTakesUptoRow : OpenClaim := { program := "ytboljdeeodeeeaa", sum := "e52f536b3f55b9538c70b3302bcf641b9325311ea7959d272fd16415acd31362", func := "embrasure/embrasurelaw13.BlastTakes", spec := "blastTakes", inPlace := ["math/bits.Add64"], unfollowed := true, recurses := true, apart := false, narrowed := true }
def BlastTakesUptoSaid : Prop := blastTakesUptoRow.holds Try.pinned (OpenSpec.upto blastTakesSpec)

/-- 'embrasurelaw13.BlastTells', WHERE WHAT IT READS IS OF BULK AT MOST 1048576: true; the input reads as it did. -/
def blastTellsUptoRow : OpenClaim := { program := "ytboljdeeodeeeaa", sum := "e52f536b3f55b9538c70b3302bcf641b9325311ea7959d272fd16415acd31362", func := "embrasure/embrasurelaw13.BlastTells", spec := "blastTells", inPlace := ["math/bits.Add64"], unfollowed := true, recurses := true, apart := false, narrowed := true }
def BlastTellsUptoSaid : Prop := blastTellsUptoRow.holds Try.pinned (OpenSpec.upto blastTellsSpec)

/-- 'embrasurelaw13.BlastBounds', WHERE WHAT IT READS IS OF BULK AT MOST 1048576: true; the input reads as it did. -/
def blastBoundsUptoRow : OpenClaim := { program := "ytboljdeeodeeeaa", sum := "e52f536b3f55b9538c70b3302bcf641b9325311ea7959d272fd16415acd31362", func := "embrasure/embrasurelaw13.BlastBounds", spec := "blastBounds", inPlace := ["math/bits.Add64"], unfollowed := true, recurses := true, apart := false, narrowed := true }
def BlastBoundsUptoSaid : Prop := blastBoundsUptoRow.holds Try.pinned (OpenSpec.upto blastBoundsSpec)

/-- 'embrasurelaw13.BlastScores', WHERE WHAT IT READS IS OF BULK AT MOST 1048576: true; the input reads as it did. -/
def blastScoresUptoRow : OpenClaim := { program := "ytboljdeeodeeeaa", sum := "e52f536b3f55b9538c70b3302bcf641b9325311ea7959d272fd16415acd31362", func := "embrasure/embrasurelaw13.BlastScores", spec := "blastScores", inPlace := ["math/bits.Add64"], unfollowed := true, recurses := true, apart := false, narrowed := true }
def BlastScoresUptoSaid : Prop := blastScoresUptoRow.holds Try.pinned (OpenSpec.upto blastScoresSpec)

/-- 'embrasurelaw13.BlastNearer', WHERE WHAT IT READS IS OF BULK AT MOST 1048576: true; the input reads as it did. -/
def blastNearerUptoRow : OpenClaim := { program := "ytboljdeeodeeeaa", sum := "e52f536b3f55b9538c70b3302bcf641b9325311ea7959d272fd16415acd31362", func := "embrasure/embrasurelaw13.BlastNearer", spec := "blastNearer", inPlace := ["math/bits.Add64"], unfollowed := true, recurses := true, apart := false, narrowed := true }
def BlastNearerUptoSaid : Prop := blastNearerUptoRow.holds Try.pinned (OpenSpec.upto blastNearerSpec)

end Rows
end Go.Proofs.Ytboljdeeodeeeaa
