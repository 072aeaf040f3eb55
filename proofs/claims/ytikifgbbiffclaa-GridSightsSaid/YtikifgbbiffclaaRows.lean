/-
  No cell of these rows narrows 'for every input' (looked for: loops, veiled, ifaces, maps, wideKeys, modest, calm, conditions, laid).
  DERIVED. THE GIVEN ROWS OF THIS SEAT. 10 by the template 'for every input the law returns true; each argument reads behind the call as it read before'; 0 by the template 'total and deterministic' (their statements: YtikifgbbiffclaaTotals.lean).
  GIVEN WITH THE SEED: the statements are not yours to turn. If you find one false, say at which input.
  Laid BY PROGRAM, IN A SANDBOX (cutbox-rows.mjs): the forced cells as the released guide's own fill.sh prints them over the translation 6f82ece582296402… (all of the seat's roots in one cut). By AI agents, Wed Nov 11 2026. No macro, syntax, notation, axiom, sorry.
-/
import Derived.Test.YtikifgbbiffclaaChecked
import GoSem.Claim
import GoSem.ClaimJoined
import GoSem.ClaimMapViews
import Derived.JoinedTies
import Derived.KernelRfl
namespace Go.Proofs.Ytikifgbbiffclaa
/- THE CELL 'sum', in the pinned program and in every row, IS THE sha256 OF THE DUMP (.gsa) THAT YtikifgbbiffclaaProg.lean LOADS. Nothing in Lean hashes anything: it is a label: what it is worth is what the hold of that sum in a sandbox is worth. -/
noncomputable def Try.pinned : Pinned := { name := "ytikifgbbiffclaa", sum := "6f82ece58229640281270745bcc89874a864f83c2f332b671db7f104d2a5bd86", checked := Try.checked }
namespace Rows
def none {H : Type} : Left H := { results := [], args := [] }

/-- 'embrasurelaw09.GridTells': WHATEVER THE INPUT: true; the input reads as it did. -/
def gridTellsSpec : ChangeSpec := { name := "gridTells", fn := fun _ => fun
  | [d1, d2, d3, d4, d5, d6] => { results := [.lit (.bool true)], args := [d1, d2, d3, d4, d5, d6] }
  | _ => none }
def gridTellsRow : OpenClaim := { program := "ytikifgbbiffclaa", sum := "6f82ece58229640281270745bcc89874a864f83c2f332b671db7f104d2a5bd86", func := "embrasure/embrasurelaw09.GridTells", spec := "gridTells", inPlace := ["math/bits.Add64"], unfollowed := true, recurses := true, apart := false }
def GridTellsSaid : Prop := gridTellsRow.holds Try.pinned (OpenSpec.ofChange gridTellsSpec)

/-- ITS FALSE NEIGHBOUR: 'it returns false'. Refute it at one input. -/
def gridTellsWrong : ChangeSpec := { name := "gridTells", fn := fun _ => fun
  | [d1, d2, d3, d4, d5, d6] => { results := [.lit (.bool false)], args := [d1, d2, d3, d4, d5, d6] }
  | _ => none }
def GridTellsWrongFalsely : Prop := gridTellsRow.holds Try.pinned (OpenSpec.ofChange gridTellsWrong)

/-- 'embrasurelaw09.GridSights': WHATEVER THE INPUT: true; the input reads as it did. -/
def gridSightsSpec : ChangeSpec := { name := "gridSights", fn := fun _ => fun
  | [d1, d2, d3] => { results := [.lit (.bool true)], args := [d1, d2, d3] }
  | _ => none }
def gridSightsRow : OpenClaim := { program := "ytikifgbbiffclaa", sum := "6f82ece58229640281270745bcc89874a864f83c2f332b671db7f104d2a5bd86", func := "embrasure/embrasurelaw09.GridSights", spec := "gridSights", inPlace := ["math/bits.Add64"], unfollowed := true, recurses := true, apart := false }
def GridSightsSaid : Prop := gridSightsRow.holds Try.pinned (OpenSpec.ofChange gridSightsSpec)

/-- ITS FALSE NEIGHBOUR: 'it returns false'. Refute it at one input. -/
def gridSightsWrong : ChangeSpec := { name := "gridSights", fn := fun _ => fun
  | [d1, d2, d3] => { results := [.lit (.bool false)], args := [d1, d2, d3] }
  | _ => none }
def GridSightsWrongFalsely : Prop := gridSightsRow.holds Try.pinned (OpenSpec.ofChange gridSightsWrong)

/-- 'embrasurelaw09.GridTurned': WHATEVER THE INPUT: true; the input reads as it did. -/
def gridTurnedSpec : ChangeSpec := { name := "gridTurned", fn := fun _ => fun
  | [d1, d2, d3] => { results := [.lit (.bool true)], args := [d1, d2, d3] }
  | _ => none }
def gridTurnedRow : OpenClaim := { program := "ytikifgbbiffclaa", sum := "6f82ece58229640281270745bcc89874a864f83c2f332b671db7f104d2a5bd86", func := "embrasure/embrasurelaw09.GridTurned", spec := "gridTurned", inPlace := ["math/bits.Add64"], unfollowed := true, recurses := true, apart := false }
def GridTurnedSaid : Prop := gridTurnedRow.holds Try.pinned (OpenSpec.ofChange gridTurnedSpec)

/-- ITS FALSE NEIGHBOUR: 'it returns false'. Refute it at one input. -/
def gridTurnedWrong : ChangeSpec := { name := "gridTurned", fn := fun _ => fun
  | [d1, d2, d3] => { results := [.lit (.bool false)], args := [d1, d2, d3] }
  | _ => none }
def GridTurnedWrongFalsely : Prop := gridTurnedRow.holds Try.pinned (OpenSpec.ofChange gridTurnedWrong)

/-- 'embrasurelaw09.GridHalves': WHATEVER THE INPUT: true; the input reads as it did. -/
def gridHalvesSpec : ChangeSpec := { name := "gridHalves", fn := fun _ => fun
  | [d1, d2, d3] => { results := [.lit (.bool true)], args := [d1, d2, d3] }
  | _ => none }
def gridHalvesRow : OpenClaim := { program := "ytikifgbbiffclaa", sum := "6f82ece58229640281270745bcc89874a864f83c2f332b671db7f104d2a5bd86", func := "embrasure/embrasurelaw09.GridHalves", spec := "gridHalves", inPlace := ["math/bits.Add64"], unfollowed := true, recurses := true, apart := false }
def GridHalvesSaid : Prop := gridHalvesRow.holds Try.pinned (OpenSpec.ofChange gridHalvesSpec)

/-- ITS FALSE NEIGHBOUR: 'it returns false'. Refute it at one input. -/
def gridHalvesWrong : ChangeSpec := { name := "gridHalves", fn := fun _ => fun
  | [d1, d2, d3] => { results := [.lit (.bool false)], args := [d1, d2, d3] }
  | _ => none }
def GridHalvesWrongFalsely : Prop := gridHalvesRow.holds Try.pinned (OpenSpec.ofChange gridHalvesWrong)

/-- 'embrasurelaw09.GridMore': WHATEVER THE INPUT: true; the input reads as it did. -/
def gridMoreSpec : ChangeSpec := { name := "gridMore", fn := fun _ => fun
  | [d1, d2, d3, d4] => { results := [.lit (.bool true)], args := [d1, d2, d3, d4] }
  | _ => none }
def gridMoreRow : OpenClaim := { program := "ytikifgbbiffclaa", sum := "6f82ece58229640281270745bcc89874a864f83c2f332b671db7f104d2a5bd86", func := "embrasure/embrasurelaw09.GridMore", spec := "gridMore", inPlace := ["math/bits.Add64"], unfollowed := true, recurses := true, apart := false }
def GridMoreSaid : Prop := gridMoreRow.holds Try.pinned (OpenSpec.ofChange gridMoreSpec)

/-- ITS FALSE NEIGHBOUR: 'it returns false'. Refute it at one input. -/
def gridMoreWrong : ChangeSpec := { name := "gridMore", fn := fun _ => fun
  | [d1, d2, d3, d4] => { results := [.lit (.bool false)], args := [d1, d2, d3, d4] }
  | _ => none }
def GridMoreWrongFalsely : Prop := gridMoreRow.holds Try.pinned (OpenSpec.ofChange gridMoreWrong)

/-- 'embrasurelaw09.GridFree': WHATEVER THE INPUT: true; the input reads as it did. -/
def gridFreeSpec : ChangeSpec := { name := "gridFree", fn := fun _ => fun
  | [d1, d2, d3, d4, d5] => { results := [.lit (.bool true)], args := [d1, d2, d3, d4, d5] }
  | _ => none }
def gridFreeRow : OpenClaim := { program := "ytikifgbbiffclaa", sum := "6f82ece58229640281270745bcc89874a864f83c2f332b671db7f104d2a5bd86", func := "embrasure/embrasurelaw09.GridFree", spec := "gridFree", inPlace := ["math/bits.Add64"], unfollowed := true, recurses := true, apart := false }
def GridFreeSaid : Prop := gridFreeRow.holds Try.pinned (OpenSpec.ofChange gridFreeSpec)

/-- ITS FALSE NEIGHBOUR: 'it returns false'. Refute it at one input. -/
def gridFreeWrong : ChangeSpec := { name := "gridFree", fn := fun _ => fun
  | [d1, d2, d3, d4, d5] => { results := [.lit (.bool false)], args := [d1, d2, d3, d4, d5] }
  | _ => none }
def GridFreeWrongFalsely : Prop := gridFreeRow.holds Try.pinned (OpenSpec.ofChange gridFreeWrong)

/-- 'embrasurelaw09.GridStraight': WHATEVER THE INPUT: true; the input reads as it did. -/
def gridStraightSpec : ChangeSpec := { name := "gridStraight", fn := fun _ => fun
  | [d1, d2, d3, d4] => { results := [.lit (.bool true)], args := [d1, d2, d3, d4] }
  | _ => none }
def gridStraightRow : OpenClaim := { program := "ytikifgbbiffclaa", sum := "6f82ece58229640281270745bcc89874a864f83c2f332b671db7f104d2a5bd86", func := "embrasure/embrasurelaw09.GridStraight", spec := "gridStraight", inPlace := ["math/bits.Add64"], unfollowed := true, recurses := true, apart := false }
def GridStraightSaid : Prop := gridStraightRow.holds Try.pinned (OpenSpec.ofChange gridStraightSpec)

/-- ITS FALSE NEIGHBOUR: 'it returns false'. Refute it at one input. -/
def gridStraightWrong : ChangeSpec := { name := "gridStraight", fn := fun _ => fun
  | [d1, d2, d3, d4] => { results := [.lit (.bool false)], args := [d1, d2, d3, d4] }
  | _ => none }
def GridStraightWrongFalsely : Prop := gridStraightRow.holds Try.pinned (OpenSpec.ofChange gridStraightWrong)

/-- 'embrasurelaw09.GridBoxes': WHATEVER THE INPUT: true; the input reads as it did. -/
def gridBoxesSpec : ChangeSpec := { name := "gridBoxes", fn := fun _ => fun
  | [d1, d2, d3, d4] => { results := [.lit (.bool true)], args := [d1, d2, d3, d4] }
  | _ => none }
def gridBoxesRow : OpenClaim := { program := "ytikifgbbiffclaa", sum := "6f82ece58229640281270745bcc89874a864f83c2f332b671db7f104d2a5bd86", func := "embrasure/embrasurelaw09.GridBoxes", spec := "gridBoxes", inPlace := ["math/bits.Add64"], unfollowed := true, recurses := true, apart := false }
def GridBoxesSaid : Prop := gridBoxesRow.holds Try.pinned (OpenSpec.ofChange gridBoxesSpec)

/-- ITS FALSE NEIGHBOUR: 'it returns false'. Refute it at one input. -/
def gridBoxesWrong : ChangeSpec := { name := "gridBoxes", fn := fun _ => fun
  | [d1, d2, d3, d4] => { results := [.lit (.bool false)], args := [d1, d2, d3, d4] }
  | _ => none }
def GridBoxesWrongFalsely : Prop := gridBoxesRow.holds Try.pinned (OpenSpec.ofChange gridBoxesWrong)

/-- 'embrasurelaw09.GridAts': WHATEVER THE INPUT: true; the input reads as it did. -/
def gridAtsSpec : ChangeSpec := { name := "gridAts", fn := fun _ => fun
  | [d1, d2] => { results := [.lit (.bool true)], args := [d1, d2] }
  | _ => none }
def gridAtsRow : OpenClaim := { program := "ytikifgbbiffclaa", sum := "6f82ece58229640281270745bcc89874a864f83c2f332b671db7f104d2a5bd86", func := "embrasure/embrasurelaw09.GridAts", spec := "gridAts", inPlace := ["math/bits.Add64"], unfollowed := true, recurses := true, apart := false }
def GridAtsSaid : Prop := gridAtsRow.holds Try.pinned (OpenSpec.ofChange gridAtsSpec)

/-- ITS FALSE NEIGHBOUR: 'it returns false'. Refute it at one input. -/
def gridAtsWrong : ChangeSpec := { name := "gridAts", fn := fun _ => fun
  | [d1, d2] => { results := [.lit (.bool false)], args := [d1, d2] }
  | _ => none }
def GridAtsWrongFalsely : Prop := gridAtsRow.holds Try.pinned (OpenSpec.ofChange gridAtsWrong)

/-- 'embrasurelaw09.GridApart': WHATEVER THE INPUT: true; the input reads as it did. -/
def gridApartSpec : ChangeSpec := { name := "gridApart", fn := fun _ => fun
  | [d1, d2, d3, d4] => { results := [.lit (.bool true)], args := [d1, d2, d3, d4] }
  | _ => none }
def gridApartRow : OpenClaim := { program := "ytikifgbbiffclaa", sum := "6f82ece58229640281270745bcc89874a864f83c2f332b671db7f104d2a5bd86", func := "embrasure/embrasurelaw09.GridApart", spec := "gridApart", inPlace := ["math/bits.Add64"], unfollowed := true, recurses := true, apart := false }
def GridApartSaid : Prop := gridApartRow.holds Try.pinned (OpenSpec.ofChange gridApartSpec)

/-- ITS FALSE NEIGHBOUR: 'it returns false'. Refute it at one input. -/
def gridApartWrong : ChangeSpec := { name := "gridApart", fn := fun _ => fun
  | [d1, d2, d3, d4] => { results := [.lit (.bool false)], args := [d1, d2, d3, d4] }
  | _ => none }
def GridApartWrongFalsely : Prop := gridApartRow.holds Try.pinned (OpenSpec.ofChange gridApartWrong)

/- THE SECOND FORM. 'bulk': how many values and letters a reading holds, each counted each time it is reached (what is shared counts as often as it is met; a slice's spare places count too). A statement '..UptoSaid' is the law's where the arguments, and the package variables that the reading takes, are together of bulk at most 1048576: NARROWER than '..Said'. Prove '..Said' where nothing that the law and all that it calls make is longer than what came in: it says more and counts as full. Else prove '..UptoSaid'. A law counts once. -/
mutual
def uptoBulk {H : Type} : DataW H → Nat
  | .lit (.string bytes) => bytes.length + 1
  | .lit _ => 1
  | .nil => 1
  | .ptr d => uptoBulk d + 1
  | .slice elems spare => uptoBulkAll elems + uptoBulkAll spare + 1
  | .agg parts => uptoBulkAll parts + 1
  | .iface _ d => uptoBulk d + 1
  | .map entries => uptoBulkEntries entries + 1
  | .held _ => 1
def uptoBulkAll {H : Type} : List (DataW H) → Nat
  | [] => 0
  | d :: r => uptoBulk d + uptoBulkAll r
def uptoBulkEntries {H : Type} : List (Lit × DataW H) → Nat
  | [] => 0
  | x :: r => uptoBulkEntry x + uptoBulkEntries r
def uptoBulkEntry {H : Type} : Lit × DataW H → Nat
  | (.string bytes, d) => bytes.length + uptoBulk d + 1
  | (_, d) => uptoBulk d + 1
 end
def uptoSmall : (H : Type) → List (DataW H) → Bool := fun _ ds => decide (uptoBulkAll ds ≤ 1048576)
def OpenSpec.upto (s : _root_.Go.ChangeSpec) : _root_.Go.OpenSpec := { _root_.Go.OpenSpec.ofChange s with cond := some uptoSmall }

/-- 'embrasurelaw09.GridTells', WHERE WHAT IT READS IS OF BULK AT MOST 1048576: true; the input reads as it did. -/
def gridTellsUptoRow : OpenClaim := { program := "ytikifgbbiffclaa", sum := "6f82ece58229640281270745bcc89874a864f83c2f332b671db7f104d2a5bd86", func := "embrasure/embrasurelaw09.GridTells", spec := "gridTells", inPlace := ["math/bits.Add64"], unfollowed := true, recurses := true, apart := false, narrowed := true }
def GridTellsUptoSaid : Prop := gridTellsUptoRow.holds Try.pinned (OpenSpec.upto gridTellsSpec)

/-- 'embrasurelaw09.GridSights', WHERE WHAT IT READS IS OF BULK AT MOST 1048576: true; the input reads as it did. -/
def gridSightsUptoRow : OpenClaim := { program := "ytikifgbbiffclaa", sum := "6f82ece58229640281270745bcc89874a864f83c2f332b671db7f104d2a5bd86", func := "embrasure/embrasurelaw09.GridSights", spec := "gridSights", inPlace := ["math/bits.Add64"], unfollowed := true, recurses := true, apart := false, narrowed := true }
def GridSightsUptoSaid : Prop := gridSightsUptoRow.holds Try.pinned (OpenSpec.upto gridSightsSpec)

/-- 'embrasurelaw09.GridTurned', WHERE WHAT IT READS IS OF BULK AT MOST 1048576: true; the input reads as it did. -/
def gridTurnedUptoRow : OpenClaim := { program := "ytikifgbbiffclaa", sum := "6f82ece58229640281270745bcc89874a864f83c2f332b671db7f104d2a5bd86", func := "embrasure/embrasurelaw09.GridTurned", spec := "gridTurned", inPlace := ["math/bits.Add64"], unfollowed := true, recurses := true, apart := false, narrowed := true }
def GridTurnedUptoSaid : Prop := gridTurnedUptoRow.holds Try.pinned (OpenSpec.upto gridTurnedSpec)

/-- 'embrasurelaw09.GridHalves', WHERE WHAT IT READS IS OF BULK AT MOST 1048576: true; the input reads as it did. -/
def gridHalvesUptoRow : OpenClaim := { program := "ytikifgbbiffclaa", sum := "6f82ece58229640281270745bcc89874a864f83c2f332b671db7f104d2a5bd86", func := "embrasure/embrasurelaw09.GridHalves", spec := "gridHalves", inPlace := ["math/bits.Add64"], unfollowed := true, recurses := true, apart := false, narrowed := true }
def GridHalvesUptoSaid : Prop := gridHalvesUptoRow.holds Try.pinned (OpenSpec.upto gridHalvesSpec)

/-- 'embrasurelaw09.GridMore', WHERE WHAT IT READS IS OF BULK AT MOST 1048576: true; the input reads as it did. -/
def gridMoreUptoRow : OpenClaim := { program := "ytikifgbbiffclaa", sum := "6f82ece58229640281270745bcc89874a864f83c2f332b671db7f104d2a5bd86", func := "embrasure/embrasurelaw09.GridMore", spec := "gridMore", inPlace := ["math/bits.Add64"], unfollowed := true, recurses := true, apart := false, narrowed := true }
def GridMoreUptoSaid : Prop := gridMoreUptoRow.holds Try.pinned (OpenSpec.upto gridMoreSpec)

/-- 'embrasurelaw09.GridFree', WHERE WHAT IT READS IS OF BULK AT MOST 1048576: true; the input reads as it did. -/
def gridFreeUptoRow : OpenClaim := { program := "ytikifgbbiffclaa", sum := "6f82ece58229640281270745bcc89874a864f83c2f332b671db7f104d2a5bd86", func := "embrasure/embrasurelaw09.GridFree", spec := "gridFree", inPlace := ["math/bits.Add64"], unfollowed := true, recurses := true, apart := false, narrowed := true }
def GridFreeUptoSaid : Prop := gridFreeUptoRow.holds Try.pinned (OpenSpec.upto gridFreeSpec)

/-- 'embrasurelaw09.GridStraight', WHERE WHAT IT READS IS OF BULK AT MOST 1048576: true; the input reads as it did. -/
def gridStraightUptoRow : OpenClaim := { program := "ytikifgbbiffclaa", sum := "6f82ece58229640281270745bcc89874a864f83c2f332b671db7f104d2a5bd86", func := "embrasure/embrasurelaw09.GridStraight", spec := "gridStraight", inPlace := ["math/bits.Add64"], unfollowed := true, recurses := true, apart := false, narrowed := true }
def GridStraightUptoSaid : Prop := gridStraightUptoRow.holds Try.pinned (OpenSpec.upto gridStraightSpec)

/-- 'embrasurelaw09.GridBoxes', WHERE WHAT IT READS IS OF BULK AT MOST 1048576: true; the input reads as it did. -/
def gridBoxesUptoRow : OpenClaim := { program := "ytikifgbbiffclaa", sum := "6f82ece58229640281270745bcc89874a864f83c2f332b671db7f104d2a5bd86", func := "embrasure/embrasurelaw09.GridBoxes", spec := "gridBoxes", inPlace := ["math/bits.Add64"], unfollowed := true, recurses := true, apart := false, narrowed := true }
def GridBoxesUptoSaid : Prop := gridBoxesUptoRow.holds Try.pinned (OpenSpec.upto gridBoxesSpec)

/-- 'embrasurelaw09.GridAts', WHERE WHAT IT READS IS OF BULK AT MOST 1048576: true; the input reads as it did. -/
def gridAtsUptoRow : OpenClaim := { program := "ytikifgbbiffclaa", sum := "6f82ece58229640281270745bcc89874a864f83c2f332b671db7f104d2a5bd86", func := "embrasure/embrasurelaw09.GridAts", spec := "gridAts", inPlace := ["math/bits.Add64"], unfollowed := true, recurses := true, apart := false, narrowed := true }
def GridAtsUptoSaid : Prop := gridAtsUptoRow.holds Try.pinned (OpenSpec.upto gridAtsSpec)

/-- 'embrasurelaw09.GridApart', WHERE WHAT IT READS IS OF BULK AT MOST 1048576: true; the input reads as it did. -/
def gridApartUptoRow : OpenClaim := { program := "ytikifgbbiffclaa", sum := "6f82ece58229640281270745bcc89874a864f83c2f332b671db7f104d2a5bd86", func := "embrasure/embrasurelaw09.GridApart", spec := "gridApart", inPlace := ["math/bits.Add64"], unfollowed := true, recurses := true, apart := false, narrowed := true }
def GridApartUptoSaid : Prop := gridApartUptoRow.holds Try.pinned (OpenSpec.upto gridApartSpec)

end Rows
end Go.Proofs.Ytikifgbbiffclaa
