/-
  No cell of these rows narrows 'for every input' (looked for: loops, veiled, ifaces, maps, wideKeys, modest, calm, conditions, laid).
  DERIVED. THE GIVEN ROWS OF THIS SEAT. 4 by the template 'for every input the law returns true; each argument reads behind the call as it read before'; 0 by the template 'total and deterministic' (their statements: YtfhjfnbaoajleaaTotals.lean).
  GIVEN WITH THE SEED: the statements are not yours to turn. If you find one false, say at which input.
  Laid BY PROGRAM, IN A SANDBOX (cutbox-rows.mjs): the forced cells as the released guide's own fill.sh prints them over the translation 693d4a10cace416a… (all of the seat's roots in one cut). By AI agents, Wed Nov 11 2026. No macro, syntax, notation, axiom, sorry.
-/
import Derived.Test.YtfhjfnbaoajleaaChecked
import GoSem.Claim
import GoSem.ClaimJoined
import GoSem.ClaimMapViews
import Derived.JoinedTies
import Derived.KernelRfl
namespace Go.Proofs.Ytfhjfnbaoajleaa
/- THE CELL 'sum', in the pinned program and in every row, IS THE sha256 OF THE DUMP (.gsa) THAT YtfhjfnbaoajleaaProg.lean LOADS. Nothing in Lean hashes anything: it is a label: what it is worth is what the hold of that sum in a sandbox is worth. -/
noncomputable def Try.pinned : Pinned := { name := "ytfhjfnbaoajleaa", sum := "693d4a10cace416a58327aa8be01a9354537dd052e4a450fa173913bfe5d0224", checked := Try.checked }
namespace Rows
def none {H : Type} : Left H := { results := [], args := [] }

/-- 'embrasurelaw14.ArmsWait': WHATEVER THE INPUT: true; the input reads as it did. -/
def armsWaitSpec : ChangeSpec := { name := "armsWait", fn := fun _ => fun
  | [d1, d2, d3] => { results := [.lit (.bool true)], args := [d1, d2, d3] }
  | _ => none }
def armsWaitRow : OpenClaim := { program := "ytfhjfnbaoajleaa", sum := "693d4a10cace416a58327aa8be01a9354537dd052e4a450fa173913bfe5d0224", func := "embrasure/embrasurelaw14.ArmsWait", spec := "armsWait", apart := false }
def ArmsWaitSaid : Prop := armsWaitRow.holds Try.pinned (OpenSpec.ofChange armsWaitSpec)

/-- ITS FALSE NEIGHBOUR: 'it returns false'. Refute it at one input. -/
def armsWaitWrong : ChangeSpec := { name := "armsWait", fn := fun _ => fun
  | [d1, d2, d3] => { results := [.lit (.bool false)], args := [d1, d2, d3] }
  | _ => none }
def ArmsWaitWrongFalsely : Prop := armsWaitRow.holds Try.pinned (OpenSpec.ofChange armsWaitWrong)

/-- 'embrasurelaw14.ArmsApart': WHATEVER THE INPUT: true; the input reads as it did. -/
def armsApartSpec : ChangeSpec := { name := "armsApart", fn := fun _ => fun
  | [d1, d2] => { results := [.lit (.bool true)], args := [d1, d2] }
  | _ => none }
def armsApartRow : OpenClaim := { program := "ytfhjfnbaoajleaa", sum := "693d4a10cace416a58327aa8be01a9354537dd052e4a450fa173913bfe5d0224", func := "embrasure/embrasurelaw14.ArmsApart", spec := "armsApart", apart := false }
def ArmsApartSaid : Prop := armsApartRow.holds Try.pinned (OpenSpec.ofChange armsApartSpec)

/-- ITS FALSE NEIGHBOUR: 'it returns false'. Refute it at one input. -/
def armsApartWrong : ChangeSpec := { name := "armsApart", fn := fun _ => fun
  | [d1, d2] => { results := [.lit (.bool false)], args := [d1, d2] }
  | _ => none }
def ArmsApartWrongFalsely : Prop := armsApartRow.holds Try.pinned (OpenSpec.ofChange armsApartWrong)

/-- 'embrasurelaw14.ArmsTells': WHATEVER THE INPUT: true; the input reads as it did. -/
def armsTellsSpec : ChangeSpec := { name := "armsTells", fn := fun _ => fun
  | [d1, d2, d3, d4] => { results := [.lit (.bool true)], args := [d1, d2, d3, d4] }
  | _ => none }
def armsTellsRow : OpenClaim := { program := "ytfhjfnbaoajleaa", sum := "693d4a10cace416a58327aa8be01a9354537dd052e4a450fa173913bfe5d0224", func := "embrasure/embrasurelaw14.ArmsTells", spec := "armsTells", apart := false }
def ArmsTellsSaid : Prop := armsTellsRow.holds Try.pinned (OpenSpec.ofChange armsTellsSpec)

/-- ITS FALSE NEIGHBOUR: 'it returns false'. Refute it at one input. -/
def armsTellsWrong : ChangeSpec := { name := "armsTells", fn := fun _ => fun
  | [d1, d2, d3, d4] => { results := [.lit (.bool false)], args := [d1, d2, d3, d4] }
  | _ => none }
def ArmsTellsWrongFalsely : Prop := armsTellsRow.holds Try.pinned (OpenSpec.ofChange armsTellsWrong)

/-- 'embrasurelaw14.ArmsBack': WHATEVER THE INPUT: true; the input reads as it did. -/
def armsBackSpec : ChangeSpec := { name := "armsBack", fn := fun _ => fun
  | [d1, d2, d3] => { results := [.lit (.bool true)], args := [d1, d2, d3] }
  | _ => none }
def armsBackRow : OpenClaim := { program := "ytfhjfnbaoajleaa", sum := "693d4a10cace416a58327aa8be01a9354537dd052e4a450fa173913bfe5d0224", func := "embrasure/embrasurelaw14.ArmsBack", spec := "armsBack", apart := false }
def ArmsBackSaid : Prop := armsBackRow.holds Try.pinned (OpenSpec.ofChange armsBackSpec)

/-- ITS FALSE NEIGHBOUR: 'it returns false'. Refute it at one input. -/
def armsBackWrong : ChangeSpec := { name := "armsBack", fn := fun _ => fun
  | [d1, d2, d3] => { results := [.lit (.bool false)], args := [d1, d2, d3] }
  | _ => none }
def ArmsBackWrongFalsely : Prop := armsBackRow.holds Try.pinned (OpenSpec.ofChange armsBackWrong)

/- THE SECOND FORM. 'bulk': how many values and letters a reading holds, each counted each time it is reached (what is shared counts as often as it is met; a slice's spare places count too). A statement '..UptoSaid' is the law's where the arguments, and the package variables that the reading takes, are together of bulk at most 1048576: NARROWER than '..Said'. Prove '..Said' where nothing that the law and all that it calls make is longer than what came in: it says more and counts as full. Else prove '..UptoSaid'. A law counts once. -/
mutual
def uptoBulk {H : Type} : DataW H → Nat
  | .lit (.string bytes) => bytes.length + 1
  | .lit _ => 1
  | .nil => 1
  | .ptr d => uptoBulk d + 1
  | .slice elems spare => uptoBulkAll elems + uptoBulkAll spare + 1
  | .agg parts => uptoBulkAll parts + 1
  | .iface _ d => uptoBulk d + 1
  | .map entries => uptoBulkEntries entries + 1
  | .held _ => 1
def uptoBulkAll {H : Type} : List (DataW H) → Nat
  | [] => 0
  | d :: r => uptoBulk d + uptoBulkAll r
def uptoBulkEntries {H : Type} : List (Lit × DataW H) → Nat
  | [] => 0
  | x :: r => uptoBulkEntry x + uptoBulkEntries r
def uptoBulkEntry {H : Type} : Lit × DataW H → Nat
  | (.string bytes, d) => bytes.length + uptoBulk d + 1
  | (_, d) => uptoBulk d + 1
 end
def uptoSmall : (H : Type) → List (DataW H) → Bool := fun _ ds => decide (uptoBulkAll ds ≤ 1048576)
def OpenSpec.upto (s : _root_.Go.ChangeSpec) : _root_.Go.OpenSpec := { _root_.Go.OpenSpec.ofChange s with cond := some uptoSmall }

/-- 'embrasurelaw14.ArmsWait', WHERE WHAT IT READS IS OF BULK AT MOST 1048576: true; the input reads as it did. -/
def armsWaitUptoRow : OpenClaim := { program := "ytfhjfnbaoajleaa", sum := "693d4a10cace416a58327aa8be01a9354537dd052e4a450fa173913bfe5d0224", func := "embrasure/embrasurelaw14.ArmsWait", spec := "armsWait", apart := false, narrowed := true }
def ArmsWaitUptoSaid : Prop := armsWaitUptoRow.holds Try.pinned (OpenSpec.upto armsWaitSpec)

/-- 'embrasurelaw14.ArmsApart', WHERE WHAT IT READS IS OF BULK AT MOST 1048576: true; the input reads as it did. -/
def armsApartUptoRow : OpenClaim := { program := "ytfhjfnbaoajleaa", sum := "693d4a10cace416a58327aa8be01a9354537dd052e4a450fa173913bfe5d0224", func := "embrasure/embrasurelaw14.ArmsApart", spec := "armsApart", apart := false, narrowed := true }
def ArmsApartUptoSaid : Prop := armsApartUptoRow.holds Try.pinned (OpenSpec.upto armsApartSpec)

/-- 'embrasurelaw14.ArmsTells', WHERE WHAT IT READS IS OF BULK AT MOST 1048576: true; the input reads as it did. -/
def armsTellsUptoRow : OpenClaim := { program := "ytfhjfnbaoajleaa", sum := "693d4a10cace416a58327aa8be01a9354537dd052e4a450fa173913bfe5d0224", func := "embrasure/embrasurelaw14.ArmsTells", spec := "armsTells", apart := false, narrowed := true }
def ArmsTellsUptoSaid : Prop := armsTellsUptoRow.holds Try.pinned (OpenSpec.upto armsTellsSpec)

/-- 'embrasurelaw14.ArmsBack', WHERE WHAT IT READS IS OF BULK AT MOST 1048576: true; the input reads as it did. -/
def armsBackUptoRow : OpenClaim := { program := "ytfhjfnbaoajleaa", sum := "693d4a10cace416a58327aa8be01a9354537dd052e4a450fa173913bfe5d0224", func := "embrasure/embrasurelaw14.ArmsBack", spec := "armsBack", apart := false, narrowed := true }
def ArmsBackUptoSaid : Prop := armsBackUptoRow.holds Try.pinned (OpenSpec.upto armsBackSpec)

end Rows
end Go.Proofs.Ytfhjfnbaoajleaa
