/- blast's Take, as a contract. -/
import Derived.Test.YtboljdeeodeeeaaVmOrb
namespace Go.Proofs.Ytboljdeeodeeeaa
set_option linter.unusedSimpArgs false
set_option linter.unusedVariables false
set_option maxRecDepth 100000
open Go.RowKit

noncomputable def xTp : Ctx := ctxOf [] []
theorem xTp_ok : COk Try.prog xTp := ctxOf_ok (by kernel_rfl)

set_option maxRecDepth 100000 in
set_option maxHeartbeats 0 in
theorem take_tree (p : Pl) (n : Int) : runK xTp (fun _ _ => none) 200 9 Try.f9 0 [.agg p.sv, .int .i64 n] [] =
  bif bif decide (p.dead > 0) == false then decide (n < 1) else true then
    some
      (SV.agg
          [SV.int IntKind.i64 p.id, SV.int IntKind.i64 p.pos.x, SV.int IntKind.i64 p.pos.y, SV.int IntKind.i64 p.pos.z, SV.int IntKind.i64 p.vel.x, SV.int IntKind.i64 p.vel.y,
            SV.int IntKind.i64 p.vel.z, SV.bool p.ground, SV.int IntKind.i64 p.health, SV.int IntKind.i64 p.armour, SV.int IntKind.i64 p.score, SV.int IntKind.i64 p.a0, SV.int IntKind.i64 p.a1,
            SV.int IntKind.i64 p.wait, SV.int IntKind.i64 p.dead],
        [])
  else
    bif decide (IntKind.i64.wrap (p.health - IntKind.i64.wrap (n - min (IntKind.i64.wrap (n.tdiv 2)) p.armour)) ≤ 0) then
      some
        (SV.agg
            [SV.int IntKind.i64 p.id, SV.int IntKind.i64 p.pos.x, SV.int IntKind.i64 p.pos.y, SV.int IntKind.i64 p.pos.z, SV.int IntKind.i64 p.vel.x, SV.int IntKind.i64 p.vel.y,
              SV.int IntKind.i64 p.vel.z, SV.bool p.ground, SV.int IntKind.i64 0, SV.int IntKind.i64 (IntKind.i64.wrap (p.armour - min (IntKind.i64.wrap (n.tdiv 2)) p.armour)),
              SV.int IntKind.i64 p.score, SV.int IntKind.i64 p.a0, SV.int IntKind.i64 p.a1, SV.int IntKind.i64 p.wait, SV.int IntKind.i64 30],
          [])
    else
      some
        (SV.agg
            [SV.int IntKind.i64 p.id, SV.int IntKind.i64 p.pos.x, SV.int IntKind.i64 p.pos.y, SV.int IntKind.i64 p.pos.z, SV.int IntKind.i64 p.vel.x, SV.int IntKind.i64 p.vel.y,
              SV.int IntKind.i64 p.vel.z, SV.bool p.ground, SV.int IntKind.i64 (IntKind.i64.wrap (p.health - IntKind.i64.wrap (n - min (IntKind.i64.wrap (n.tdiv 2)) p.armour))),
              SV.int IntKind.i64 (IntKind.i64.wrap (p.armour - min (IntKind.i64.wrap (n.tdiv 2)) p.armour)), SV.int IntKind.i64 p.score, SV.int IntKind.i64 p.a0, SV.int IntKind.i64 p.a1,
              SV.int IntKind.i64 p.wait, SV.int IntKind.i64 p.dead],
          []) := by kernel_rfl

/-- A player that was hurt. -/
def takeOff (p : Pl) (n : Int) : Int := min (IntKind.i64.wrap (n.tdiv 2)) p.armour
def takeH (p : Pl) (n : Int) : Int := IntKind.i64.wrap (p.health - IntKind.i64.wrap (n - takeOff p n))
def takeP (p : Pl) (n : Int) : Pl := bif decide (p.dead > 0) || decide (n < 1) then p else
  bif decide (takeH p n ≤ 0) then { p with health := 0, armour := IntKind.i64.wrap (p.armour - takeOff p n), dead := 30 } else { p with health := takeH p n, armour := IntKind.i64.wrap (p.armour - takeOff p n) }
theorem take_val (p : Pl) (n : Int) : runK xTp (fun _ _ => none) 200 9 Try.f9 0 [.agg p.sv, .int .i64 n] [] = some (.agg (takeP p n).sv, []) := by
  rw [take_tree]
  simp only [or_form]
  unfold takeP
  rw [show IntKind.i64.wrap (p.health - IntKind.i64.wrap (n - min (IntKind.i64.wrap (n.tdiv 2)) p.armour)) = takeH p n from rfl]
  cases (decide (p.dead > 0) || decide (n < 1))
  · cases decide (takeH p n ≤ 0) <;> rfl
  · rfl
def oTake : List SV → Option Eff
  | [.agg [.int .i64 a0, .int .i64 a1, .int .i64 a2, .int .i64 a3, .int .i64 a4, .int .i64 a5, .int .i64 a6, .bool a7, .int .i64 a8, .int .i64 a9, .int .i64 a10, .int .i64 a11, .int .i64 a12, .int .i64 a13, .int .i64 a14], .int .i64 n] => some { val := .agg (takeP ⟨a0, ⟨a1, a2, a3⟩, ⟨a4, a5, a6⟩, a7, a8, a9, a10, a11, a12, a13, a14⟩ n).sv }
  | _ => none
set_option maxHeartbeats 0 in
theorem oTake_ok {m : Nat → Option Row} {n : Nat} {args : List SV} {e : Eff} (h : oTake args = some e) : FnOk Try.prog 9 args m n e := by
  unfold oTake at h
  split at h
  · rename_i a0 a1 a2 a3 a4 a5 a6 a7 a8 a9 a10 a11 a12 a13 a14 nn
    cases h
    obtain ⟨rows', hc, _⟩ := runK_ok xTp_ok lok_none Try.func9 (take_val ⟨a0, ⟨a1, a2, a3⟩, ⟨a4, a5, a6⟩, a7, a8, a9, a10, a11, a12, a13, a14⟩ nn)
    exact fnOk_pure hc rfl rfl
  · cases h
noncomputable def orcTake : Orc := ⟨9, fun args _ => oTake args, fun _ _ _ h _ => oTake_ok h, bodied Try.func9 (by kernel_rfl)⟩

end Go.Proofs.Ytboljdeeodeeeaa
