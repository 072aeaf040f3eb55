/- The values of the program's structs, and small words for contracts. -/
import Derived.Test.YtboljdeeodeeeaaLaw
import Derived.WalkKit
import Derived.WalkSpells
import Derived.WalkLawsBesides
import Derived.Laws.ByValue
import Derived.Lib.Hide
import Derived.Handy
import Derived.Deep.QuietTactic
import Derived.BigQuiet
import Derived.KernelRfl
namespace Go.Proofs.Ytboljdeeodeeeaa
set_option linter.unusedSimpArgs false
set_option linter.unusedVariables false
set_option maxRecDepth 100000
open Go.RowKit

/-- An int64 or int as a value. -/
abbrev I (n : Int) : Value := .int .i64 n

/-- A vector. -/
structure V3 where
  x : Int
  y : Int
  z : Int
  deriving DecidableEq

def V3.cs (a : V3) : Array Value := #[.int .i64 a.x, .int .i64 a.y, .int .i64 a.z]
def V3.v (a : V3) : Value := .agg a.cs

/-- A player. -/
structure Pl where
  id : Int
  pos : V3
  vel : V3
  ground : Bool
  health : Int
  armour : Int
  score : Int
  a0 : Int
  a1 : Int
  wait : Int
  dead : Int
  deriving DecidableEq

def Pl.cs (p : Pl) : Array Value := #[.int .i64 p.id, .int .i64 p.pos.x, .int .i64 p.pos.y, .int .i64 p.pos.z, .int .i64 p.vel.x, .int .i64 p.vel.y, .int .i64 p.vel.z, .bool p.ground, .int .i64 p.health, .int .i64 p.armour, .int .i64 p.score, .int .i64 p.a0, .int .i64 p.a1, .int .i64 p.wait, .int .i64 p.dead]
def Pl.v (p : Pl) : Value := .agg p.cs

/-- A call ends with this value, and nothing that was there has changed. -/
def Ret (w : World) (v : Value) (e : Ending) (w' : World) : Prop := e = .returned v ∧ Below w.heap.size w w'

/-- The value that a call is to end with, kept from the walk behind a name. -/
theorem calls_hide {P : Program} {f : FuncId} {args : Array Value} {w w0 : World} {v : Value} (h : ∀ V : Value, Hid (V = v) → Calls P f args w (Ret w0 V)) : Calls P f args w (Ret w0 v) := h v rfl

/-- What a callee's 'Below' says to the walk. -/
theorem bcell {W w1 : World} (hb : Below W.heap.size W w1) : (∀ b o, b < W.heap.size → w1.cell? ⟨b, o, none⟩ = W.cell? ⟨b, o, none⟩) ∧ (∀ b o, b < W.heap.size → w1.frozen? ⟨b, o, none⟩ = W.frozen? ⟨b, o, none⟩) :=
  ⟨fun b o h => hb.cell (p := ⟨b, o, none⟩) h, fun b o h => hb.frozen (p := ⟨b, o, none⟩) h⟩

end Go.Proofs.Ytboljdeeodeeeaa
