/-
  No cell of these rows narrows 'for every input' (looked for: loops, veiled, ifaces, maps, wideKeys, modest, calm, conditions, laid).
  DERIVED. THE GIVEN ROWS OF THIS SEAT. 7 by the template 'for every input the law returns true; each argument reads behind the call as it read before'; 0 by the template 'total and deterministic' (their statements: YtimkhidniolpeaaTotals.lean).
  GIVEN WITH THE SEED: the statements are not yours to turn. If you find one false, say at which input.
  Laid BY PROGRAM, IN A SANDBOX (cutbox-rows.mjs): the forced cells as the released guide's own fill.sh prints them over the translation 66e0f18801008a64… (all of the seat's roots in one cut). By AI agents, Wed Nov 11 2026. No macro, syntax, notation, axiom, sorry.
-/
import Derived.Test.YtimkhidniolpeaaChecked
import GoSem.Claim
import GoSem.ClaimJoined
import GoSem.ClaimMapViews
import Derived.JoinedTies
import Derived.KernelRfl
namespace Go.Proofs.Ytimkhidniolpeaa
/- THE CELL 'sum', in the pinned program and in every row, IS THE sha256 OF THE DUMP (.gsa) THAT YtimkhidniolpeaaProg.lean LOADS. Nothing in Lean hashes anything: it is a label: what it is worth is what the hold of that sum in a sandbox is worth. -/
noncomputable def Try.pinned : Pinned := { name := "ytimkhidniolpeaa", sum := "66e0f18801008a64b3398a5ced5292e2dce3bec234c23584382f243a75497565", checked := Try.checked }
namespace Rows
def none {H : Type} : Left H := { results := [], args := [] }

/-- 'embrasurelaw16.WorldAhead': WHATEVER THE INPUT: true; the input reads as it did. -/
def worldAheadSpec : ChangeSpec := { name := "worldAhead", fn := fun _ => fun
  | [d1, d2, d3, d4] => { results := [.lit (.bool true)], args := [d1, d2, d3, d4] }
  | _ => none }
def worldAheadRow : OpenClaim := { program := "ytimkhidniolpeaa", sum := "66e0f18801008a64b3398a5ced5292e2dce3bec234c23584382f243a75497565", func := "embrasure/embrasurelaw16.WorldAhead", spec := "worldAhead", inPlace := ["math/bits.Add64"], unfollowed := true, recurses := true, apart := false }
def WorldAheadSaid : Prop := worldAheadRow.holds Try.pinned (OpenSpec.ofChange worldAheadSpec)

/-- ITS FALSE NEIGHBOUR: 'it returns false'. Refute it at one input. -/
def worldAheadWrong : ChangeSpec := { name := "worldAhead", fn := fun _ => fun
  | [d1, d2, d3, d4] => { results := [.lit (.bool false)], args := [d1, d2, d3, d4] }
  | _ => none }
def WorldAheadWrongFalsely : Prop := worldAheadRow.holds Try.pinned (OpenSpec.ofChange worldAheadWrong)

/-- 'embrasurelaw16.WorldBudget': WHATEVER THE INPUT: true; the input reads as it did. -/
def worldBudgetSpec : ChangeSpec := { name := "worldBudget", fn := fun _ => fun
  | [d1, d2, d3] => { results := [.lit (.bool true)], args := [d1, d2, d3] }
  | _ => none }
def worldBudgetRow : OpenClaim := { program := "ytimkhidniolpeaa", sum := "66e0f18801008a64b3398a5ced5292e2dce3bec234c23584382f243a75497565", func := "embrasure/embrasurelaw16.WorldBudget", spec := "worldBudget", inPlace := ["math/bits.Add64"], unfollowed := true, recurses := true, apart := false }
def WorldBudgetSaid : Prop := worldBudgetRow.holds Try.pinned (OpenSpec.ofChange worldBudgetSpec)

/-- ITS FALSE NEIGHBOUR: 'it returns false'. Refute it at one input. -/
def worldBudgetWrong : ChangeSpec := { name := "worldBudget", fn := fun _ => fun
  | [d1, d2, d3] => { results := [.lit (.bool false)], args := [d1, d2, d3] }
  | _ => none }
def WorldBudgetWrongFalsely : Prop := worldBudgetRow.holds Try.pinned (OpenSpec.ofChange worldBudgetWrong)

/-- 'embrasurelaw16.WorldAgain': WHATEVER THE INPUT: true; the input reads as it did. -/
def worldAgainSpec : ChangeSpec := { name := "worldAgain", fn := fun _ => fun
  | [d1, d2] => { results := [.lit (.bool true)], args := [d1, d2] }
  | _ => none }
def worldAgainRow : OpenClaim := { program := "ytimkhidniolpeaa", sum := "66e0f18801008a64b3398a5ced5292e2dce3bec234c23584382f243a75497565", func := "embrasure/embrasurelaw16.WorldAgain", spec := "worldAgain", inPlace := ["math/bits.Add64"], unfollowed := true, recurses := true, apart := false }
def WorldAgainSaid : Prop := worldAgainRow.holds Try.pinned (OpenSpec.ofChange worldAgainSpec)

/-- ITS FALSE NEIGHBOUR: 'it returns false'. Refute it at one input. -/
def worldAgainWrong : ChangeSpec := { name := "worldAgain", fn := fun _ => fun
  | [d1, d2] => { results := [.lit (.bool false)], args := [d1, d2] }
  | _ => none }
def WorldAgainWrongFalsely : Prop := worldAgainRow.holds Try.pinned (OpenSpec.ofChange worldAgainWrong)

/-- 'embrasurelaw16.WorldAmmo': WHATEVER THE INPUT: true; the input reads as it did. -/
def worldAmmoSpec : ChangeSpec := { name := "worldAmmo", fn := fun _ => fun
  | [d1, d2, d3] => { results := [.lit (.bool true)], args := [d1, d2, d3] }
  | _ => none }
def worldAmmoRow : OpenClaim := { program := "ytimkhidniolpeaa", sum := "66e0f18801008a64b3398a5ced5292e2dce3bec234c23584382f243a75497565", func := "embrasure/embrasurelaw16.WorldAmmo", spec := "worldAmmo", inPlace := ["math/bits.Add64"], unfollowed := true, recurses := true, apart := false }
def WorldAmmoSaid : Prop := worldAmmoRow.holds Try.pinned (OpenSpec.ofChange worldAmmoSpec)

/-- ITS FALSE NEIGHBOUR: 'it returns false'. Refute it at one input. -/
def worldAmmoWrong : ChangeSpec := { name := "worldAmmo", fn := fun _ => fun
  | [d1, d2, d3] => { results := [.lit (.bool false)], args := [d1, d2, d3] }
  | _ => none }
def WorldAmmoWrongFalsely : Prop := worldAmmoRow.holds Try.pinned (OpenSpec.ofChange worldAmmoWrong)

/-- 'embrasurelaw16.WorldOwn': WHATEVER THE INPUT: true; the input reads as it did. -/
def worldOwnSpec : ChangeSpec := { name := "worldOwn", fn := fun _ => fun
  | [d1, d2] => { results := [.lit (.bool true)], args := [d1, d2] }
  | _ => none }
def worldOwnRow : OpenClaim := { program := "ytimkhidniolpeaa", sum := "66e0f18801008a64b3398a5ced5292e2dce3bec234c23584382f243a75497565", func := "embrasure/embrasurelaw16.WorldOwn", spec := "worldOwn", inPlace := ["math/bits.Add64"], unfollowed := true, recurses := true, apart := false }
def WorldOwnSaid : Prop := worldOwnRow.holds Try.pinned (OpenSpec.ofChange worldOwnSpec)

/-- ITS FALSE NEIGHBOUR: 'it returns false'. Refute it at one input. -/
def worldOwnWrong : ChangeSpec := { name := "worldOwn", fn := fun _ => fun
  | [d1, d2] => { results := [.lit (.bool false)], args := [d1, d2] }
  | _ => none }
def WorldOwnWrongFalsely : Prop := worldOwnRow.holds Try.pinned (OpenSpec.ofChange worldOwnWrong)

/-- 'embrasurelaw16.WorldRefused': WHATEVER THE INPUT: true; the input reads as it did. -/
def worldRefusedSpec : ChangeSpec := { name := "worldRefused", fn := fun _ => fun
  | [d1, d2, d3] => { results := [.lit (.bool true)], args := [d1, d2, d3] }
  | _ => none }
def worldRefusedRow : OpenClaim := { program := "ytimkhidniolpeaa", sum := "66e0f18801008a64b3398a5ced5292e2dce3bec234c23584382f243a75497565", func := "embrasure/embrasurelaw16.WorldRefused", spec := "worldRefused", inPlace := ["math/bits.Add64"], unfollowed := true, recurses := true, apart := false }
def WorldRefusedSaid : Prop := worldRefusedRow.holds Try.pinned (OpenSpec.ofChange worldRefusedSpec)

/-- ITS FALSE NEIGHBOUR: 'it returns false'. Refute it at one input. -/
def worldRefusedWrong : ChangeSpec := { name := "worldRefused", fn := fun _ => fun
  | [d1, d2, d3] => { results := [.lit (.bool false)], args := [d1, d2, d3] }
  | _ => none }
def WorldRefusedWrongFalsely : Prop := worldRefusedRow.holds Try.pinned (OpenSpec.ofChange worldRefusedWrong)

/-- 'embrasurelaw16.WorldRight': WHATEVER THE INPUT: true; the input reads as it did. -/
def worldRightSpec : ChangeSpec := { name := "worldRight", fn := fun _ => fun
  | [d1, d2] => { results := [.lit (.bool true)], args := [d1, d2] }
  | _ => none }
def worldRightRow : OpenClaim := { program := "ytimkhidniolpeaa", sum := "66e0f18801008a64b3398a5ced5292e2dce3bec234c23584382f243a75497565", func := "embrasure/embrasurelaw16.WorldRight", spec := "worldRight", inPlace := ["math/bits.Add64"], unfollowed := true, recurses := true, apart := false }
def WorldRightSaid : Prop := worldRightRow.holds Try.pinned (OpenSpec.ofChange worldRightSpec)

/-- ITS FALSE NEIGHBOUR: 'it returns false'. Refute it at one input. -/
def worldRightWrong : ChangeSpec := { name := "worldRight", fn := fun _ => fun
  | [d1, d2] => { results := [.lit (.bool false)], args := [d1, d2] }
  | _ => none }
def WorldRightWrongFalsely : Prop := worldRightRow.holds Try.pinned (OpenSpec.ofChange worldRightWrong)

/- THE SECOND FORM. 'bulk': how many values and letters a reading holds, each counted each time it is reached (what is shared counts as often as it is met; a slice's spare places count too). A statement '..UptoSaid' is the law's where the arguments, and the package variables that the reading takes, are together of bulk at most 1048576: NARROWER than '..Said'. Prove '..Said' where nothing that the law and all that it calls make is longer than what came in: it says more and counts as full. Else prove '..UptoSaid'. A law counts once. -/
mutual
def uptoBulk {H : Type} : DataW H → Nat
  | .lit (.string bytes) => bytes.length + 1
  | .lit _ => 1
  | .nil => 1
  | .ptr d => uptoBulk d + 1
  | .slice elems spare => uptoBulkAll elems + uptoBulkAll spare + 1
  | .agg parts => uptoBulkAll parts + 1
  | .iface _ d => uptoBulk d + 1
  | .map entries => uptoBulkEntries entries + 1
  | .held _ => 1
def uptoBulkAll {H : Type} : List (DataW H) → Nat
  | [] => 0
  | d :: r => uptoBulk d + uptoBulkAll r
def uptoBulkEntries {H : Type} : List (Lit × DataW H) → Nat
  | [] => 0
  | x :: r => uptoBulkEntry x + uptoBulkEntries r
def uptoBulkEntry {H : Type} : Lit × DataW H → Nat
  | (.string bytes, d) => bytes.length + uptoBulk d + 1
  | (_, d) => uptoBulk d + 1
 end
def uptoSmall : (H : Type) → List (DataW H) → Bool := fun _ ds => decide (uptoBulkAll ds ≤ 1048576)
def OpenSpec.upto (s : _root_.Go.ChangeSpec) : _root_.Go.OpenSpec := { _root_.Go.OpenSpec.ofChange s with cond := some uptoSmall }

/-- 'embrasurelaw16.WorldAhead', WHERE WHAT IT READS IS OF BULK AT MOST 1048576: true; the input reads as it did. -/
def worldAheadUptoRow : OpenClaim := { program := "ytimkhidniolpeaa", sum := "66e0f18801008a64b3398a5ced5292e2dce3bec234c23584382f243a75497565", func := "embrasure/embrasurelaw16.WorldAhead", spec := "worldAhead", inPlace := ["math/bits.Add64"], unfollowed := true, recurses := true, apart := false, narrowed := true }
def WorldAheadUptoSaid : Prop := worldAheadUptoRow.holds Try.pinned (OpenSpec.upto worldAheadSpec)

/-- 'embrasurelaw16.WorldBudget', WHERE WHAT IT READS IS OF BULK AT MOST 1048576: true; the input reads as it did. -/
def worldBudgetUptoRow : OpenClaim := { program := "ytimkhidniolpeaa", sum := "66e0f18801008a64b3398a5ced5292e2dce3bec234c23584382f243a75497565", func := "embrasure/embrasurelaw16.WorldBudget", spec := "worldBudget", inPlace := ["math/bits.Add64"], unfollowed := true, recurses := true, apart := false, narrowed := true }
def WorldBudgetUptoSaid : Prop := worldBudgetUptoRow.holds Try.pinned (OpenSpec.upto worldBudgetSpec)

/-- 'embrasurelaw16.WorldAgain', WHERE WHAT IT READS IS OF BULK AT MOST 1048576: true; the input reads as it did. -/
def worldAgainUptoRow : OpenClaim := { program := "ytimkhidniolpeaa", sum := "66e0f18801008a64b3398a5ced5292e2dce3bec234c23584382f243a75497565", func := "embrasure/embrasurelaw16.WorldAgain", spec := "worldAgain", inPlace := ["math/bits.Add64"], unfollowed := true, recurses := true, apart := false, narrowed := true }
def WorldAgainUptoSaid : Prop := worldAgainUptoRow.holds Try.pinned (OpenSpec.upto worldAgainSpec)

/-- 'embrasurelaw16.WorldAmmo', WHERE WHAT IT READS IS OF BULK AT MOST 1048576: true; the input reads as it did. -/
def worldAmmoUptoRow : OpenClaim := { program := "ytimkhidniolpeaa", sum := "66e0f18801008a64b3398a5ced5292e2dce3bec234c23584382f243a75497565", func := "embrasure/embrasurelaw16.WorldAmmo", spec := "worldAmmo", inPlace := ["math/bits.Add64"], unfollowed := true, recurses := true, apart := false, narrowed := true }
def WorldAmmoUptoSaid : Prop := worldAmmoUptoRow.holds Try.pinned (OpenSpec.upto worldAmmoSpec)

/-- 'embrasurelaw16.WorldOwn', WHERE WHAT IT READS IS OF BULK AT MOST 1048576: true; the input reads as it did. -/
def worldOwnUptoRow : OpenClaim := { program := "ytimkhidniolpeaa", sum := "66e0f18801008a64b3398a5ced5292e2dce3bec234c23584382f243a75497565", func := "embrasure/embrasurelaw16.WorldOwn", spec := "worldOwn", inPlace := ["math/bits.Add64"], unfollowed := true, recurses := true, apart := false, narrowed := true }
def WorldOwnUptoSaid : Prop := worldOwnUptoRow.holds Try.pinned (OpenSpec.upto worldOwnSpec)

/-- 'embrasurelaw16.WorldRefused', WHERE WHAT IT READS IS OF BULK AT MOST 1048576: true; the input reads as it did. -/
def worldRefusedUptoRow : OpenClaim := { program := "ytimkhidniolpeaa", sum := "66e0f18801008a64b3398a5ced5292e2dce3bec234c23584382f243a75497565", func := "embrasure/embrasurelaw16.WorldRefused", spec := "worldRefused", inPlace := ["math/bits.Add64"], unfollowed := true, recurses := true, apart := false, narrowed := true }
def WorldRefusedUptoSaid : Prop := worldRefusedUptoRow.holds Try.pinned (OpenSpec.upto worldRefusedSpec)

/-- 'embrasurelaw16.WorldRight', WHERE WHAT IT READS IS OF BULK AT MOST 1048576: true; the input reads as it did. -/
def worldRightUptoRow : OpenClaim := { program := "ytimkhidniolpeaa", sum := "66e0f18801008a64b3398a5ced5292e2dce3bec234c23584382f243a75497565", func := "embrasure/embrasurelaw16.WorldRight", spec := "worldRight", inPlace := ["math/bits.Add64"], unfollowed := true, recurses := true, apart := false, narrowed := true }
def WorldRightUptoSaid : Prop := worldRightUptoRow.holds Try.pinned (OpenSpec.upto worldRightSpec)

end Rows
end Go.Proofs.Ytimkhidniolpeaa
