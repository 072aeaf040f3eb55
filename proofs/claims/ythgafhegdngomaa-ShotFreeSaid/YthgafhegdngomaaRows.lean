/-
  No cell of these rows narrows 'for every input' (looked for: loops, veiled, ifaces, maps, wideKeys, modest, calm, conditions, laid).
  DERIVED. THE GIVEN ROWS OF THIS SEAT. 5 by the template 'for every input the law returns true; each argument reads behind the call as it read before'; 0 by the template 'total and deterministic' (their statements: YthgafhegdngomaaTotals.lean).
  GIVEN WITH THE SEED: the statements are not yours to turn. If you find one false, say at which input.
  Laid BY PROGRAM, IN A SANDBOX (cutbox-rows.mjs): the forced cells as the released guide's own fill.sh prints them over the translation fefd8d6f6444654f… (all of the seat's roots in one cut). By AI agents, Wed Nov 11 2026. No macro, syntax, notation, axiom, sorry.
-/
import Derived.Test.YthgafhegdngomaaChecked
import GoSem.Claim
import GoSem.ClaimJoined
import GoSem.ClaimMapViews
import Derived.JoinedTies
import Derived.KernelRfl
namespace Go.Proofs.Ythgafhegdngomaa
/- THE CELL 'sum', in the pinned program and in every row, IS THE sha256 OF THE DUMP (.gsa) THAT YthgafhegdngomaaProg.lean LOADS. Nothing in Lean hashes anything: it is a label: what it is worth is what the hold of that sum in a sandbox is worth. -/
noncomputable def Try.pinned : Pinned := { name := "ythgafhegdngomaa", sum := "fefd8d6f6444654f8ef18cc1fd94e52885533acbd849542492361a57ffcc2d0e", checked := Try.checked }
namespace Rows
def none {H : Type} : Left H := { results := [], args := [] }

/-- 'embrasurelaw12.ShotSpeeds': WHATEVER THE INPUT: true; the input reads as it did. -/
def shotSpeedsSpec : ChangeSpec := { name := "shotSpeeds", fn := fun _ => fun
  | [d1, d2, d3, d4, d5] => { results := [.lit (.bool true)], args := [d1, d2, d3, d4, d5] }
  | _ => none }
def shotSpeedsRow : OpenClaim := { program := "ythgafhegdngomaa", sum := "fefd8d6f6444654f8ef18cc1fd94e52885533acbd849542492361a57ffcc2d0e", func := "embrasure/embrasurelaw12.ShotSpeeds", spec := "shotSpeeds", inPlace := ["math/bits.Add64"], unfollowed := true, recurses := true, apart := false }
def ShotSpeedsSaid : Prop := shotSpeedsRow.holds Try.pinned (OpenSpec.ofChange shotSpeedsSpec)

/-- ITS FALSE NEIGHBOUR: 'it returns false'. Refute it at one input. -/
def shotSpeedsWrong : ChangeSpec := { name := "shotSpeeds", fn := fun _ => fun
  | [d1, d2, d3, d4, d5] => { results := [.lit (.bool false)], args := [d1, d2, d3, d4, d5] }
  | _ => none }
def ShotSpeedsWrongFalsely : Prop := shotSpeedsRow.holds Try.pinned (OpenSpec.ofChange shotSpeedsWrong)

/-- 'embrasurelaw12.ShotTurned': WHATEVER THE INPUT: true; the input reads as it did. -/
def shotTurnedSpec : ChangeSpec := { name := "shotTurned", fn := fun _ => fun
  | [d1, d2, d3] => { results := [.lit (.bool true)], args := [d1, d2, d3] }
  | _ => none }
def shotTurnedRow : OpenClaim := { program := "ythgafhegdngomaa", sum := "fefd8d6f6444654f8ef18cc1fd94e52885533acbd849542492361a57ffcc2d0e", func := "embrasure/embrasurelaw12.ShotTurned", spec := "shotTurned", inPlace := ["math/bits.Add64"], unfollowed := true, recurses := true, apart := false }
def ShotTurnedSaid : Prop := shotTurnedRow.holds Try.pinned (OpenSpec.ofChange shotTurnedSpec)

/-- ITS FALSE NEIGHBOUR: 'it returns false'. Refute it at one input. -/
def shotTurnedWrong : ChangeSpec := { name := "shotTurned", fn := fun _ => fun
  | [d1, d2, d3] => { results := [.lit (.bool false)], args := [d1, d2, d3] }
  | _ => none }
def ShotTurnedWrongFalsely : Prop := shotTurnedRow.holds Try.pinned (OpenSpec.ofChange shotTurnedWrong)

/-- 'embrasurelaw12.ShotFree': WHATEVER THE INPUT: true; the input reads as it did. -/
def shotFreeSpec : ChangeSpec := { name := "shotFree", fn := fun _ => fun
  | [d1, d2, d3, d4] => { results := [.lit (.bool true)], args := [d1, d2, d3, d4] }
  | _ => none }
def shotFreeRow : OpenClaim := { program := "ythgafhegdngomaa", sum := "fefd8d6f6444654f8ef18cc1fd94e52885533acbd849542492361a57ffcc2d0e", func := "embrasure/embrasurelaw12.ShotFree", spec := "shotFree", inPlace := ["math/bits.Add64"], unfollowed := true, recurses := true, apart := false }
def ShotFreeSaid : Prop := shotFreeRow.holds Try.pinned (OpenSpec.ofChange shotFreeSpec)

/-- ITS FALSE NEIGHBOUR: 'it returns false'. Refute it at one input. -/
def shotFreeWrong : ChangeSpec := { name := "shotFree", fn := fun _ => fun
  | [d1, d2, d3, d4] => { results := [.lit (.bool false)], args := [d1, d2, d3, d4] }
  | _ => none }
def ShotFreeWrongFalsely : Prop := shotFreeRow.holds Try.pinned (OpenSpec.ofChange shotFreeWrong)

/-- 'embrasurelaw12.ShotAdvances': WHATEVER THE INPUT: true; the input reads as it did. -/
def shotAdvancesSpec : ChangeSpec := { name := "shotAdvances", fn := fun _ => fun
  | [d1, d2, d3, d4] => { results := [.lit (.bool true)], args := [d1, d2, d3, d4] }
  | _ => none }
def shotAdvancesRow : OpenClaim := { program := "ythgafhegdngomaa", sum := "fefd8d6f6444654f8ef18cc1fd94e52885533acbd849542492361a57ffcc2d0e", func := "embrasure/embrasurelaw12.ShotAdvances", spec := "shotAdvances", inPlace := ["math/bits.Add64"], unfollowed := true, recurses := true, apart := false }
def ShotAdvancesSaid : Prop := shotAdvancesRow.holds Try.pinned (OpenSpec.ofChange shotAdvancesSpec)

/-- ITS FALSE NEIGHBOUR: 'it returns false'. Refute it at one input. -/
def shotAdvancesWrong : ChangeSpec := { name := "shotAdvances", fn := fun _ => fun
  | [d1, d2, d3, d4] => { results := [.lit (.bool false)], args := [d1, d2, d3, d4] }
  | _ => none }
def ShotAdvancesWrongFalsely : Prop := shotAdvancesRow.holds Try.pinned (OpenSpec.ofChange shotAdvancesWrong)

/-- 'embrasurelaw12.ShotRests': WHATEVER THE INPUT: true; the input reads as it did. -/
def shotRestsSpec : ChangeSpec := { name := "shotRests", fn := fun _ => fun
  | [d1, d2] => { results := [.lit (.bool true)], args := [d1, d2] }
  | _ => none }
def shotRestsRow : OpenClaim := { program := "ythgafhegdngomaa", sum := "fefd8d6f6444654f8ef18cc1fd94e52885533acbd849542492361a57ffcc2d0e", func := "embrasure/embrasurelaw12.ShotRests", spec := "shotRests", inPlace := ["math/bits.Add64"], unfollowed := true, recurses := true, apart := false }
def ShotRestsSaid : Prop := shotRestsRow.holds Try.pinned (OpenSpec.ofChange shotRestsSpec)

/-- ITS FALSE NEIGHBOUR: 'it returns false'. Refute it at one input. -/
def shotRestsWrong : ChangeSpec := { name := "shotRests", fn := fun _ => fun
  | [d1, d2] => { results := [.lit (.bool false)], args := [d1, d2] }
  | _ => none }
def ShotRestsWrongFalsely : Prop := shotRestsRow.holds Try.pinned (OpenSpec.ofChange shotRestsWrong)

/- THE SECOND FORM. 'bulk': how many values and letters a reading holds, each counted each time it is reached (what is shared counts as often as it is met; a slice's spare places count too). A statement '..UptoSaid' is the law's where the arguments, and the package variables that the reading takes, are together of bulk at most 1048576: NARROWER than '..Said'. Prove '..Said' where nothing that the law and all that it calls make is longer than what came in: it says more and counts as full. Else prove '..UptoSaid'. A law counts once. -/
mutual
def uptoBulk {H : Type} : DataW H → Nat
  | .lit (.string bytes) => bytes.length + 1
  | .lit _ => 1
  | .nil => 1
  | .ptr d => uptoBulk d + 1
  | .slice elems spare => uptoBulkAll elems + uptoBulkAll spare + 1
  | .agg parts => uptoBulkAll parts + 1
  | .iface _ d => uptoBulk d + 1
  | .map entries => uptoBulkEntries entries + 1
  | .held _ => 1
def uptoBulkAll {H : Type} : List (DataW H) → Nat
  | [] => 0
  | d :: r => uptoBulk d + uptoBulkAll r
def uptoBulkEntries {H : Type} : List (Lit × DataW H) → Nat
  | [] => 0
  | x :: r => uptoBulkEntry x + uptoBulkEntries r
def uptoBulkEntry {H : Type} : Lit × DataW H → Nat
  | (.string bytes, d) => bytes.length + uptoBulk d + 1
  | (_, d) => uptoBulk d + 1
 end
def uptoSmall : (H : Type) → List (DataW H) → Bool := fun _ ds => decide (uptoBulkAll ds ≤ 1048576)
def OpenSpec.upto (s : _root_.Go.ChangeSpec) : _root_.Go.OpenSpec := { _root_.Go.OpenSpec.ofChange s with cond := some uptoSmall }

/-- 'embrasurelaw12.ShotSpeeds', WHERE WHAT IT READS IS OF BULK AT MOST 1048576: true; the input reads as it did. -/
def shotSpeedsUptoRow : OpenClaim := { program := "ythgafhegdngomaa", sum := "fefd8d6f6444654f8ef18cc1fd94e52885533acbd849542492361a57ffcc2d0e", func := "embrasure/embrasurelaw12.ShotSpeeds", spec := "shotSpeeds", inPlace := ["math/bits.Add64"], unfollowed := true, recurses := true, apart := false, narrowed := true }
def ShotSpeedsUptoSaid : Prop := shotSpeedsUptoRow.holds Try.pinned (OpenSpec.upto shotSpeedsSpec)

/-- 'embrasurelaw12.ShotTurned', WHERE WHAT IT READS IS OF BULK AT MOST 1048576: true; the input reads as it did. -/
def shotTurnedUptoRow : OpenClaim := { program := "ythgafhegdngomaa", sum := "fefd8d6f6444654f8ef18cc1fd94e52885533acbd849542492361a57ffcc2d0e", func := "embrasure/embrasurelaw12.ShotTurned", spec := "shotTurned", inPlace := ["math/bits.Add64"], unfollowed := true, recurses := true, apart := false, narrowed := true }
def ShotTurnedUptoSaid : Prop := shotTurnedUptoRow.holds Try.pinned (OpenSpec.upto shotTurnedSpec)

/-- 'embrasurelaw12.ShotFree', WHERE WHAT IT READS IS OF BULK AT MOST 1048576: true; the input reads as it did. -/
def shotFreeUptoRow : OpenClaim := { program := "ythgafhegdngomaa", sum := "fefd8d6f6444654f8ef18cc1fd94e52885533acbd849542492361a57ffcc2d0e", func := "embrasure/embrasurelaw12.ShotFree", spec := "shotFree", inPlace := ["math/bits.Add64"], unfollowed := true, recurses := true, apart := false, narrowed := true }
def ShotFreeUptoSaid : Prop := shotFreeUptoRow.holds Try.pinned (OpenSpec.upto shotFreeSpec)

/-- 'embrasurelaw12.ShotAdvances', WHERE WHAT IT READS IS OF BULK AT MOST 1048576: true; the input reads as it did. -/
def shotAdvancesUptoRow : OpenClaim := { program := "ythgafhegdngomaa", sum := "fefd8d6f6444654f8ef18cc1fd94e52885533acbd849542492361a57ffcc2d0e", func := "embrasure/embrasurelaw12.ShotAdvances", spec := "shotAdvances", inPlace := ["math/bits.Add64"], unfollowed := true, recurses := true, apart := false, narrowed := true }
def ShotAdvancesUptoSaid : Prop := shotAdvancesUptoRow.holds Try.pinned (OpenSpec.upto shotAdvancesSpec)

/-- 'embrasurelaw12.ShotRests', WHERE WHAT IT READS IS OF BULK AT MOST 1048576: true; the input reads as it did. -/
def shotRestsUptoRow : OpenClaim := { program := "ythgafhegdngomaa", sum := "fefd8d6f6444654f8ef18cc1fd94e52885533acbd849542492361a57ffcc2d0e", func := "embrasure/embrasurelaw12.ShotRests", spec := "shotRests", inPlace := ["math/bits.Add64"], unfollowed := true, recurses := true, apart := false, narrowed := true }
def ShotRestsUptoSaid : Prop := shotRestsUptoRow.holds Try.pinned (OpenSpec.upto shotRestsSpec)

end Rows
end Go.Proofs.Ythgafhegdngomaa
