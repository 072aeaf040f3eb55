/- The reference's walk: Tick and Right as contracts. -/
import Derived.Test.YtihpfaeabocdbaaVmRm
import Derived.Test.YtihpfaeabocdbaaVmSw
import Derived.Test.YtihpfaeabocdbaaVmRw
namespace Go.Proofs.Ytihpfaeabocdbaa
set_option linter.unusedSimpArgs false
set_option linter.unusedVariables false
set_option maxRecDepth 100000
open Go.RowKit

noncomputable def xRt0 : Ctx := ctxOf [] []
theorem xRt0_ok : COk Try.prog xRt0 := ctxOf_ok (by kernel_rfl)

set_option maxRecDepth 100000 in
set_option maxHeartbeats 0 in
theorem rcut_tree (n : Int) : runK xRt0 (fun _ _ => none) 200 25 Try.f25 0 [.int .i64 n] [] =
  some (SV.int IntKind.i64 (max (-32768) (min n 32768)), []) := by kernel_rfl

set_option maxRecDepth 100000 in
set_option maxHeartbeats 0 in
theorem rwants_tree (n : Int) : runK xRt0 (fun _ _ => none) 200 28 Try.f28 0 [.int .i8 n] [] =
  some (SV.int IntKind.i64 (IntKind.i64.wrap ((IntKind.i64.wrap (IntKind.i64.wrap n * 16384)).tdiv 127)), []) := by kernel_rfl

def wantsV (d : Int) : Int := IntKind.i64.wrap ((IntKind.i64.wrap (IntKind.i64.wrap d * 16384)).tdiv 127)
def oRWants : List SV → Option Eff
  | [.int .i8 n] => some { val := .int .i64 (wantsV n) }
  | _ => none
theorem oRWants_ok {m : Nat → Option Row} {n : Nat} {args : List SV} {e : Eff} (h : oRWants args = some e) : FnOk Try.prog 28 args m n e := by
  unfold oRWants at h
  split at h
  · rename_i k
    cases h
    obtain ⟨rows', hc, _⟩ := runK_ok xRt0_ok lok_none Try.func28 (rwants_tree k)
    exact fnOk_pure hc rfl rfl
  · cases h
noncomputable def orcRWants : Orc := ⟨28, fun args _ => oRWants args, fun _ _ _ h _ => oRWants_ok h, bodied Try.func28 (by kernel_rfl)⟩
theorem rcut_val (n : Int) : runK xRt0 (fun _ _ => none) 200 25 Try.f25 0 [.int .i64 n] [] = some (.int .i64 (cutM n), []) := by
  rw [rcut_tree]
  unfold cutM
  congr 3
  omega
def oRCut : List SV → Option Eff
  | [.int .i64 n] => some { val := .int .i64 (cutM n) }
  | _ => none
theorem oRCut_ok {m : Nat → Option Row} {n : Nat} {args : List SV} {e : Eff} (h : oRCut args = some e) : FnOk Try.prog 25 args m n e := by
  unfold oRCut at h
  split at h
  · rename_i k
    cases h
    obtain ⟨rows', hc, _⟩ := runK_ok xRt0_ok lok_none Try.func25 (rcut_val k)
    exact fnOk_pure hc rfl rfl
  · cases h
noncomputable def orcRCut : Orc := ⟨25, fun args _ => oRCut args, fun _ _ _ h _ => oRCut_ok h, bodied Try.func25 (by kernel_rfl)⟩
noncomputable def xRto : Ctx := ctxOf [] [orcRSlide, orcRFree, orcRCut, orcRWants]
theorem xRto_ok : COk Try.prog xRto := ctxOf_ok (by kernel_rfl)

set_option maxRecDepth 100000 in
set_option maxHeartbeats 0 in
theorem rtick_tree (w d h : Int) (len off : Nat) (xs : List Bool) (p : Pl) (c : Cm) : runK xRto (fun _ _ => none) 400 14 Try.f14 0 [mapS w d h (.slice 0 1 off len none) .unk, .agg p.sv, .agg c.sv] [.vec true .bool xs] =
  bif decide (p.dead > 0) then
  some
  (SV.agg
  [SV.int IntKind.i64 p.id, SV.int IntKind.i64 p.pos.x, SV.int IntKind.i64 p.pos.y, SV.int IntKind.i64 p.pos.z, SV.int IntKind.i64 p.vel.x, SV.int IntKind.i64 p.vel.y,
  SV.int IntKind.i64 p.vel.z, SV.bool p.ground, SV.int IntKind.i64 p.health, SV.int IntKind.i64 p.armour, SV.int IntKind.i64 p.score, SV.int IntKind.i64 p.a0, SV.int IntKind.i64 p.a1,
  SV.int IntKind.i64 p.wait, SV.int IntKind.i64 p.dead],
  [])
  else
  bif bif p.ground == true then IntKind.u8.wrap (↑(BitVec.ofInt IntKind.u8.bits c.buttons &&& BitVec.ofInt IntKind.u8.bits 2).toNat : Int) == 0 else false then
  bif bif p.ground == true then IntKind.u8.wrap (↑(BitVec.ofInt IntKind.u8.bits c.buttons &&& BitVec.ofInt IntKind.u8.bits 1).toNat : Int) != 0 else false then
  bif fitsB p.pos && decide (off + len ≤ xs.length) then
  bif
  ((mpOf w d h len fun j => xs.getD (off + j) false).slide p.pos
  (V3.mk (cutM (IntKind.i64.wrap (p.vel.x + IntKind.i64.wrap ((IntKind.i64.wrap (wantsV c.dx - p.vel.x)).tdiv 4))))
  (cutM (IntKind.i64.wrap (p.vel.y + IntKind.i64.wrap ((IntKind.i64.wrap (wantsV c.dy - p.vel.y)).tdiv 4)))) (cutM (IntKind.i64.wrap (24576 - 1024))))).snd.fst then
  bif
  ((mpOf w d h len fun j => xs.getD (off + j) false).slide p.pos
  (V3.mk (cutM (IntKind.i64.wrap (p.vel.x + IntKind.i64.wrap ((IntKind.i64.wrap (wantsV c.dx - p.vel.x)).tdiv 4))))
  (cutM (IntKind.i64.wrap (p.vel.y + IntKind.i64.wrap ((IntKind.i64.wrap (wantsV c.dy - p.vel.y)).tdiv 4)))) (cutM (IntKind.i64.wrap (24576 - 1024))))).snd.snd.fst then
  bif
  ((mpOf w d h len fun j => xs.getD (off + j) false).slide p.pos
  (V3.mk (cutM (IntKind.i64.wrap (p.vel.x + IntKind.i64.wrap ((IntKind.i64.wrap (wantsV c.dx - p.vel.x)).tdiv 4))))
  (cutM (IntKind.i64.wrap (p.vel.y + IntKind.i64.wrap ((IntKind.i64.wrap (wantsV c.dy - p.vel.y)).tdiv 4)))) (cutM (IntKind.i64.wrap (24576 - 1024))))).snd.snd.snd then
  some
  (SV.agg
  [SV.int IntKind.i64 p.id,
  SV.int IntKind.i64
  ((mpOf w d h len fun j => xs.getD (off + j) false).slide p.pos
  (V3.mk (cutM (IntKind.i64.wrap (p.vel.x + IntKind.i64.wrap ((IntKind.i64.wrap (wantsV c.dx - p.vel.x)).tdiv 4))))
  (cutM (IntKind.i64.wrap (p.vel.y + IntKind.i64.wrap ((IntKind.i64.wrap (wantsV c.dy - p.vel.y)).tdiv 4)))) (cutM (IntKind.i64.wrap (24576 - 1024))))).fst.x,
  SV.int IntKind.i64
  ((mpOf w d h len fun j => xs.getD (off + j) false).slide p.pos
  (V3.mk (cutM (IntKind.i64.wrap (p.vel.x + IntKind.i64.wrap ((IntKind.i64.wrap (wantsV c.dx - p.vel.x)).tdiv 4))))
  (cutM (IntKind.i64.wrap (p.vel.y + IntKind.i64.wrap ((IntKind.i64.wrap (wantsV c.dy - p.vel.y)).tdiv 4)))) (cutM (IntKind.i64.wrap (24576 - 1024))))).fst.y,
  SV.int IntKind.i64
  ((mpOf w d h len fun j => xs.getD (off + j) false).slide p.pos
  (V3.mk (cutM (IntKind.i64.wrap (p.vel.x + IntKind.i64.wrap ((IntKind.i64.wrap (wantsV c.dx - p.vel.x)).tdiv 4))))
  (cutM (IntKind.i64.wrap (p.vel.y + IntKind.i64.wrap ((IntKind.i64.wrap (wantsV c.dy - p.vel.y)).tdiv 4)))) (cutM (IntKind.i64.wrap (24576 - 1024))))).fst.z,
  SV.int IntKind.i64 0, SV.int IntKind.i64 0, SV.int IntKind.i64 0,
  SV.bool
  (bif
  ((mpOf w d h len fun j => xs.getD (off + j) false).slide p.pos
  (V3.mk (cutM (IntKind.i64.wrap (p.vel.x + IntKind.i64.wrap ((IntKind.i64.wrap (wantsV c.dx - p.vel.x)).tdiv 4))))
  (cutM (IntKind.i64.wrap (p.vel.y + IntKind.i64.wrap ((IntKind.i64.wrap (wantsV c.dy - p.vel.y)).tdiv 4))))
  (cutM (IntKind.i64.wrap (24576 - 1024))))).snd.snd.snd ==
  true then
  false
  else false),
  SV.int IntKind.i64 p.health, SV.int IntKind.i64 p.armour, SV.int IntKind.i64 p.score, SV.int IntKind.i64 p.a0, SV.int IntKind.i64 p.a1, SV.int IntKind.i64 p.wait,
  SV.int IntKind.i64 p.dead],
  [])
  else
  some
  (SV.agg
  [SV.int IntKind.i64 p.id,
  SV.int IntKind.i64
  ((mpOf w d h len fun j => xs.getD (off + j) false).slide p.pos
  (V3.mk (cutM (IntKind.i64.wrap (p.vel.x + IntKind.i64.wrap ((IntKind.i64.wrap (wantsV c.dx - p.vel.x)).tdiv 4))))
  (cutM (IntKind.i64.wrap (p.vel.y + IntKind.i64.wrap ((IntKind.i64.wrap (wantsV c.dy - p.vel.y)).tdiv 4)))) (cutM (IntKind.i64.wrap (24576 - 1024))))).fst.x,
  SV.int IntKind.i64
  ((mpOf w d h len fun j => xs.getD (off + j) false).slide p.pos
  (V3.mk (cutM (IntKind.i64.wrap (p.vel.x + IntKind.i64.wrap ((IntKind.i64.wrap (wantsV c.dx - p.vel.x)).tdiv 4))))
  (cutM (IntKind.i64.wrap (p.vel.y + IntKind.i64.wrap ((IntKind.i64.wrap (wantsV c.dy - p.vel.y)).tdiv 4)))) (cutM (IntKind.i64.wrap (24576 - 1024))))).fst.y,
  SV.int IntKind.i64
  ((mpOf w d h len fun j => xs.getD (off + j) false).slide p.pos
  (V3.mk (cutM (IntKind.i64.wrap (p.vel.x + IntKind.i64.wrap ((IntKind.i64.wrap (wantsV c.dx - p.vel.x)).tdiv 4))))
  (cutM (IntKind.i64.wrap (p.vel.y + IntKind.i64.wrap ((IntKind.i64.wrap (wantsV c.dy - p.vel.y)).tdiv 4)))) (cutM (IntKind.i64.wrap (24576 - 1024))))).fst.z,
  SV.int IntKind.i64 0, SV.int IntKind.i64 0, SV.int IntKind.i64 (cutM (IntKind.i64.wrap (24576 - 1024))),
  SV.bool
  (bif
  ((mpOf w d h len fun j => xs.getD (off + j) false).slide p.pos
  (V3.mk (cutM (IntKind.i64.wrap (p.vel.x + IntKind.i64.wrap ((IntKind.i64.wrap (wantsV c.dx - p.vel.x)).tdiv 4))))
  (cutM (IntKind.i64.wrap (p.vel.y + IntKind.i64.wrap ((IntKind.i64.wrap (wantsV c.dy - p.vel.y)).tdiv 4))))
  (cutM (IntKind.i64.wrap (24576 - 1024))))).snd.snd.snd ==
  true then
  false
  else false),
  SV.int IntKind.i64 p.health, SV.int IntKind.i64 p.armour, SV.int IntKind.i64 p.score, SV.int IntKind.i64 p.a0, SV.int IntKind.i64 p.a1, SV.int IntKind.i64 p.wait,
  SV.int IntKind.i64 p.dead],
  [])
  else
  bif
  ((mpOf w d h len fun j => xs.getD (off + j) false).slide p.pos
  (V3.mk (cutM (IntKind.i64.wrap (p.vel.x + IntKind.i64.wrap ((IntKind.i64.wrap (wantsV c.dx - p.vel.x)).tdiv 4))))
  (cutM (IntKind.i64.wrap (p.vel.y + IntKind.i64.wrap ((IntKind.i64.wrap (wantsV c.dy - p.vel.y)).tdiv 4)))) (cutM (IntKind.i64.wrap (24576 - 1024))))).snd.snd.snd then
  some
  (SV.agg
  [SV.int IntKind.i64 p.id,
  SV.int IntKind.i64
  ((mpOf w d h len fun j => xs.getD (off + j) false).slide p.pos
  (V3.mk (cutM (IntKind.i64.wrap (p.vel.x + IntKind.i64.wrap ((IntKind.i64.wrap (wantsV c.dx - p.vel.x)).tdiv 4))))
  (cutM (IntKind.i64.wrap (p.vel.y + IntKind.i64.wrap ((IntKind.i64.wrap (wantsV c.dy - p.vel.y)).tdiv 4)))) (cutM (IntKind.i64.wrap (24576 - 1024))))).fst.x,
  SV.int IntKind.i64
  ((mpOf w d h len fun j => xs.getD (off + j) false).slide p.pos
  (V3.mk (cutM (IntKind.i64.wrap (p.vel.x + IntKind.i64.wrap ((IntKind.i64.wrap (wantsV c.dx - p.vel.x)).tdiv 4))))
  (cutM (IntKind.i64.wrap (p.vel.y + IntKind.i64.wrap ((IntKind.i64.wrap (wantsV c.dy - p.vel.y)).tdiv 4)))) (cutM (IntKind.i64.wrap (24576 - 1024))))).fst.y,
  SV.int IntKind.i64
  ((mpOf w d h len fun j => xs.getD (off + j) false).slide p.pos
  (V3.mk (cutM (IntKind.i64.wrap (p.vel.x + IntKind.i64.wrap ((IntKind.i64.wrap (wantsV c.dx - p.vel.x)).tdiv 4))))
  (cutM (IntKind.i64.wrap (p.vel.y + IntKind.i64.wrap ((IntKind.i64.wrap (wantsV c.dy - p.vel.y)).tdiv 4)))) (cutM (IntKind.i64.wrap (24576 - 1024))))).fst.z,
  SV.int IntKind.i64 0, SV.int IntKind.i64 (cutM (IntKind.i64.wrap (p.vel.y + IntKind.i64.wrap ((IntKind.i64.wrap (wantsV c.dy - p.vel.y)).tdiv 4)))), SV.int IntKind.i64 0,
  SV.bool
  (bif
  ((mpOf w d h len fun j => xs.getD (off + j) false).slide p.pos
  (V3.mk (cutM (IntKind.i64.wrap (p.vel.x + IntKind.i64.wrap ((IntKind.i64.wrap (wantsV c.dx - p.vel.x)).tdiv 4))))
  (cutM (IntKind.i64.wrap (p.vel.y + IntKind.i64.wrap ((IntKind.i64.wrap (wantsV c.dy - p.vel.y)).tdiv 4))))
  (cutM (IntKind.i64.wrap (24576 - 1024))))).snd.snd.snd ==
  true then
  false
  else false),
  SV.int IntKind.i64 p.health, SV.int IntKind.i64 p.armour, SV.int IntKind.i64 p.score, SV.int IntKind.i64 p.a0, SV.int IntKind.i64 p.a1, SV.int IntKind.i64 p.wait,
  SV.int IntKind.i64 p.dead],
  [])
  else
  some
  (SV.agg
  [SV.int IntKind.i64 p.id,
  SV.int IntKind.i64
  ((mpOf w d h len fun j => xs.getD (off + j) false).slide p.pos
  (V3.mk (cutM (IntKind.i64.wrap (p.vel.x + IntKind.i64.wrap ((IntKind.i64.wrap (wantsV c.dx - p.vel.x)).tdiv 4))))
  (cutM (IntKind.i64.wrap (p.vel.y + IntKind.i64.wrap ((IntKind.i64.wrap (wantsV c.dy - p.vel.y)).tdiv 4)))) (cutM (IntKind.i64.wrap (24576 - 1024))))).fst.x,
  SV.int IntKind.i64
  ((mpOf w d h len fun j => xs.getD (off + j) false).slide p.pos
  (V3.mk (cutM (IntKind.i64.wrap (p.vel.x + IntKind.i64.wrap ((IntKind.i64.wrap (wantsV c.dx - p.vel.x)).tdiv 4))))
  (cutM (IntKind.i64.wrap (p.vel.y + IntKind.i64.wrap ((IntKind.i64.wrap (wantsV c.dy - p.vel.y)).tdiv 4)))) (cutM (IntKind.i64.wrap (24576 - 1024))))).fst.y,
  SV.int IntKind.i64
  ((mpOf w d h len fun j => xs.getD (off + j) false).slide p.pos
  (V3.mk (cutM (IntKind.i64.wrap (p.vel.x + IntKind.i64.wrap ((IntKind.i64.wrap (wantsV c.dx - p.vel.x)).tdiv 4))))
  (cutM (IntKind.i64.wrap (p.vel.y + IntKind.i64.wrap ((IntKind.i64.wrap (wantsV c.dy - p.vel.y)).tdiv 4)))) (cutM (IntKind.i64.wrap (24576 - 1024))))).fst.z,
  SV.int IntKind.i64 0, SV.int IntKind.i64 (cutM (IntKind.i64.wrap (p.vel.y + IntKind.i64.wrap ((IntKind.i64.wrap (wantsV c.dy - p.vel.y)).tdiv 4)))),
  SV.int IntKind.i64 (cutM (IntKind.i64.wrap (24576 - 1024))),
  SV.bool
  (bif
  ((mpOf w d h len fun j => xs.getD (off + j) false).slide p.pos
  (V3.mk (cutM (IntKind.i64.wrap (p.vel.x + IntKind.i64.wrap ((IntKind.i64.wrap (wantsV c.dx - p.vel.x)).tdiv 4))))
  (cutM (IntKind.i64.wrap (p.vel.y + IntKind.i64.wrap ((IntKind.i64.wrap (wantsV c.dy - p.vel.y)).tdiv 4))))
  (cutM (IntKind.i64.wrap (24576 - 1024))))).snd.snd.snd ==
  true then
  false
  else false),
  SV.int IntKind.i64 p.health, SV.int IntKind.i64 p.armour, SV.int IntKind.i64 p.score, SV.int IntKind.i64 p.a0, SV.int IntKind.i64 p.a1, SV.int IntKind.i64 p.wait,
  SV.int IntKind.i64 p.dead],
  [])
  else
  bif
  ((mpOf w d h len fun j => xs.getD (off + j) false).slide p.pos
  (V3.mk (cutM (IntKind.i64.wrap (p.vel.x + IntKind.i64.wrap ((IntKind.i64.wrap (wantsV c.dx - p.vel.x)).tdiv 4))))
  (cutM (IntKind.i64.wrap (p.vel.y + IntKind.i64.wrap ((IntKind.i64.wrap (wantsV c.dy - p.vel.y)).tdiv 4)))) (cutM (IntKind.i64.wrap (24576 - 1024))))).snd.snd.fst then
  bif
  ((mpOf w d h len fun j => xs.getD (off + j) false).slide p.pos
  (V3.mk (cutM (IntKind.i64.wrap (p.vel.x + IntKind.i64.wrap ((IntKind.i64.wrap (wantsV c.dx - p.vel.x)).tdiv 4))))
  (cutM (IntKind.i64.wrap (p.vel.y + IntKind.i64.wrap ((IntKind.i64.wrap (wantsV c.dy - p.vel.y)).tdiv 4)))) (cutM (IntKind.i64.wrap (24576 - 1024))))).snd.snd.snd then
  some
  (SV.agg
  [SV.int IntKind.i64 p.id,
  SV.int IntKind.i64
  ((mpOf w d h len fun j => xs.getD (off + j) false).slide p.pos
  (V3.mk (cutM (IntKind.i64.wrap (p.vel.x + IntKind.i64.wrap ((IntKind.i64.wrap (wantsV c.dx - p.vel.x)).tdiv 4))))
  (cutM (IntKind.i64.wrap (p.vel.y + IntKind.i64.wrap ((IntKind.i64.wrap (wantsV c.dy - p.vel.y)).tdiv 4)))) (cutM (IntKind.i64.wrap (24576 - 1024))))).fst.x,
  SV.int IntKind.i64
  ((mpOf w d h len fun j => xs.getD (off + j) false).slide p.pos
  (V3.mk (cutM (IntKind.i64.wrap (p.vel.x + IntKind.i64.wrap ((IntKind.i64.wrap (wantsV c.dx - p.vel.x)).tdiv 4))))
  (cutM (IntKind.i64.wrap (p.vel.y + IntKind.i64.wrap ((IntKind.i64.wrap (wantsV c.dy - p.vel.y)).tdiv 4)))) (cutM (IntKind.i64.wrap (24576 - 1024))))).fst.y,
  SV.int IntKind.i64
  ((mpOf w d h len fun j => xs.getD (off + j) false).slide p.pos
  (V3.mk (cutM (IntKind.i64.wrap (p.vel.x + IntKind.i64.wrap ((IntKind.i64.wrap (wantsV c.dx - p.vel.x)).tdiv 4))))
  (cutM (IntKind.i64.wrap (p.vel.y + IntKind.i64.wrap ((IntKind.i64.wrap (wantsV c.dy - p.vel.y)).tdiv 4)))) (cutM (IntKind.i64.wrap (24576 - 1024))))).fst.z,
  SV.int IntKind.i64 (cutM (IntKind.i64.wrap (p.vel.x + IntKind.i64.wrap ((IntKind.i64.wrap (wantsV c.dx - p.vel.x)).tdiv 4)))), SV.int IntKind.i64 0, SV.int IntKind.i64 0,
  SV.bool
  (bif
  ((mpOf w d h len fun j => xs.getD (off + j) false).slide p.pos
  (V3.mk (cutM (IntKind.i64.wrap (p.vel.x + IntKind.i64.wrap ((IntKind.i64.wrap (wantsV c.dx - p.vel.x)).tdiv 4))))
  (cutM (IntKind.i64.wrap (p.vel.y + IntKind.i64.wrap ((IntKind.i64.wrap (wantsV c.dy - p.vel.y)).tdiv 4))))
  (cutM (IntKind.i64.wrap (24576 - 1024))))).snd.snd.snd ==
  true then
  false
  else false),
  SV.int IntKind.i64 p.health, SV.int IntKind.i64 p.armour, SV.int IntKind.i64 p.score, SV.int IntKind.i64 p.a0, SV.int IntKind.i64 p.a1, SV.int IntKind.i64 p.wait,
  SV.int IntKind.i64 p.dead],
  [])
  else
  some
  (SV.agg
  [SV.int IntKind.i64 p.id,
  SV.int IntKind.i64
  ((mpOf w d h len fun j => xs.getD (off + j) false).slide p.pos
  (V3.mk (cutM (IntKind.i64.wrap (p.vel.x + IntKind.i64.wrap ((IntKind.i64.wrap (wantsV c.dx - p.vel.x)).tdiv 4))))
  (cutM (IntKind.i64.wrap (p.vel.y + IntKind.i64.wrap ((IntKind.i64.wrap (wantsV c.dy - p.vel.y)).tdiv 4)))) (cutM (IntKind.i64.wrap (24576 - 1024))))).fst.x,
  SV.int IntKind.i64
  ((mpOf w d h len fun j => xs.getD (off + j) false).slide p.pos
  (V3.mk (cutM (IntKind.i64.wrap (p.vel.x + IntKind.i64.wrap ((IntKind.i64.wrap (wantsV c.dx - p.vel.x)).tdiv 4))))
  (cutM (IntKind.i64.wrap (p.vel.y + IntKind.i64.wrap ((IntKind.i64.wrap (wantsV c.dy - p.vel.y)).tdiv 4)))) (cutM (IntKind.i64.wrap (24576 - 1024))))).fst.y,
  SV.int IntKind.i64
  ((mpOf w d h len fun j => xs.getD (off + j) false).slide p.pos
  (V3.mk (cutM (IntKind.i64.wrap (p.vel.x + IntKind.i64.wrap ((IntKind.i64.wrap (wantsV c.dx - p.vel.x)).tdiv 4))))
  (cutM (IntKind.i64.wrap (p.vel.y + IntKind.i64.wrap ((IntKind.i64.wrap (wantsV c.dy - p.vel.y)).tdiv 4)))) (cutM (IntKind.i64.wrap (24576 - 1024))))).fst.z,
  SV.int IntKind.i64 (cutM (IntKind.i64.wrap (p.vel.x + IntKind.i64.wrap ((IntKind.i64.wrap (wantsV c.dx - p.vel.x)).tdiv 4)))), SV.int IntKind.i64 0,
  SV.int IntKind.i64 (cutM (IntKind.i64.wrap (24576 - 1024))),
  SV.bool
  (bif
  ((mpOf w d h len fun j => xs.getD (off + j) false).slide p.pos
  (V3.mk (cutM (IntKind.i64.wrap (p.vel.x + IntKind.i64.wrap ((IntKind.i64.wrap (wantsV c.dx - p.vel.x)).tdiv 4))))
  (cutM (IntKind.i64.wrap (p.vel.y + IntKind.i64.wrap ((IntKind.i64.wrap (wantsV c.dy - p.vel.y)).tdiv 4))))
  (cutM (IntKind.i64.wrap (24576 - 1024))))).snd.snd.snd ==
  true then
  false
  else false),
  SV.int IntKind.i64 p.health, SV.int IntKind.i64 p.armour, SV.int IntKind.i64 p.score, SV.int IntKind.i64 p.a0, SV.int IntKind.i64 p.a1, SV.int IntKind.i64 p.wait,
  SV.int IntKind.i64 p.dead],
  [])
  else
  bif
  ((mpOf w d h len fun j => xs.getD (off + j) false).slide p.pos
  (V3.mk (cutM (IntKind.i64.wrap (p.vel.x + IntKind.i64.wrap ((IntKind.i64.wrap (wantsV c.dx - p.vel.x)).tdiv 4))))
  (cutM (IntKind.i64.wrap (p.vel.y + IntKind.i64.wrap ((IntKind.i64.wrap (wantsV c.dy - p.vel.y)).tdiv 4)))) (cutM (IntKind.i64.wrap (24576 - 1024))))).snd.snd.snd then
  some
  (SV.agg
  [SV.int IntKind.i64 p.id,
  SV.int IntKind.i64
  ((mpOf w d h len fun j => xs.getD (off + j) false).slide p.pos
  (V3.mk (cutM (IntKind.i64.wrap (p.vel.x + IntKind.i64.wrap ((IntKind.i64.wrap (wantsV c.dx - p.vel.x)).tdiv 4))))
  (cutM (IntKind.i64.wrap (p.vel.y + IntKind.i64.wrap ((IntKind.i64.wrap (wantsV c.dy - p.vel.y)).tdiv 4)))) (cutM (IntKind.i64.wrap (24576 - 1024))))).fst.x,
  SV.int IntKind.i64
  ((mpOf w d h len fun j => xs.getD (off + j) false).slide p.pos
  (V3.mk (cutM (IntKind.i64.wrap (p.vel.x + IntKind.i64.wrap ((IntKind.i64.wrap (wantsV c.dx - p.vel.x)).tdiv 4))))
  (cutM (IntKind.i64.wrap (p.vel.y + IntKind.i64.wrap ((IntKind.i64.wrap (wantsV c.dy - p.vel.y)).tdiv 4)))) (cutM (IntKind.i64.wrap (24576 - 1024))))).fst.y,
  SV.int IntKind.i64
  ((mpOf w d h len fun j => xs.getD (off + j) false).slide p.pos
  (V3.mk (cutM (IntKind.i64.wrap (p.vel.x + IntKind.i64.wrap ((IntKind.i64.wrap (wantsV c.dx - p.vel.x)).tdiv 4))))
  (cutM (IntKind.i64.wrap (p.vel.y + IntKind.i64.wrap ((IntKind.i64.wrap (wantsV c.dy - p.vel.y)).tdiv 4)))) (cutM (IntKind.i64.wrap (24576 - 1024))))).fst.z,
  SV.int IntKind.i64 (cutM (IntKind.i64.wrap (p.vel.x + IntKind.i64.wrap ((IntKind.i64.wrap (wantsV c.dx - p.vel.x)).tdiv 4)))),
  SV.int IntKind.i64 (cutM (IntKind.i64.wrap (p.vel.y + IntKind.i64.wrap ((IntKind.i64.wrap (wantsV c.dy - p.vel.y)).tdiv 4)))), SV.int IntKind.i64 0,
  SV.bool
  (bif
  ((mpOf w d h len fun j => xs.getD (off + j) false).slide p.pos
  (V3.mk (cutM (IntKind.i64.wrap (p.vel.x + IntKind.i64.wrap ((IntKind.i64.wrap (wantsV c.dx - p.vel.x)).tdiv 4))))
  (cutM (IntKind.i64.wrap (p.vel.y + IntKind.i64.wrap ((IntKind.i64.wrap (wantsV c.dy - p.vel.y)).tdiv 4))))
  (cutM (IntKind.i64.wrap (24576 - 1024))))).snd.snd.snd ==
  true then
  false
  else false),
  SV.int IntKind.i64 p.health, SV.int IntKind.i64 p.armour, SV.int IntKind.i64 p.score, SV.int IntKind.i64 p.a0, SV.int IntKind.i64 p.a1, SV.int IntKind.i64 p.wait,
  SV.int IntKind.i64 p.dead],
  [])
  else
  some
  (SV.agg
  [SV.int IntKind.i64 p.id,
  SV.int IntKind.i64
  ((mpOf w d h len fun j => xs.getD (off + j) false).slide p.pos
  (V3.mk (cutM (IntKind.i64.wrap (p.vel.x + IntKind.i64.wrap ((IntKind.i64.wrap (wantsV c.dx - p.vel.x)).tdiv 4))))
  (cutM (IntKind.i64.wrap (p.vel.y + IntKind.i64.wrap ((IntKind.i64.wrap (wantsV c.dy - p.vel.y)).tdiv 4)))) (cutM (IntKind.i64.wrap (24576 - 1024))))).fst.x,
  SV.int IntKind.i64
  ((mpOf w d h len fun j => xs.getD (off + j) false).slide p.pos
  (V3.mk (cutM (IntKind.i64.wrap (p.vel.x + IntKind.i64.wrap ((IntKind.i64.wrap (wantsV c.dx - p.vel.x)).tdiv 4))))
  (cutM (IntKind.i64.wrap (p.vel.y + IntKind.i64.wrap ((IntKind.i64.wrap (wantsV c.dy - p.vel.y)).tdiv 4)))) (cutM (IntKind.i64.wrap (24576 - 1024))))).fst.y,
  SV.int IntKind.i64
  ((mpOf w d h len fun j => xs.getD (off + j) false).slide p.pos
  (V3.mk (cutM (IntKind.i64.wrap (p.vel.x + IntKind.i64.wrap ((IntKind.i64.wrap (wantsV c.dx - p.vel.x)).tdiv 4))))
  (cutM (IntKind.i64.wrap (p.vel.y + IntKind.i64.wrap ((IntKind.i64.wrap (wantsV c.dy - p.vel.y)).tdiv 4)))) (cutM (IntKind.i64.wrap (24576 - 1024))))).fst.z,
  SV.int IntKind.i64 (cutM (IntKind.i64.wrap (p.vel.x + IntKind.i64.wrap ((IntKind.i64.wrap (wantsV c.dx - p.vel.x)).tdiv 4)))),
  SV.int IntKind.i64 (cutM (IntKind.i64.wrap (p.vel.y + IntKind.i64.wrap ((IntKind.i64.wrap (wantsV c.dy - p.vel.y)).tdiv 4)))),
  SV.int IntKind.i64 (cutM (IntKind.i64.wrap (24576 - 1024))),
  SV.bool
  (bif
  ((mpOf w d h len fun j => xs.getD (off + j) false).slide p.pos
  (V3.mk (cutM (IntKind.i64.wrap (p.vel.x + IntKind.i64.wrap ((IntKind.i64.wrap (wantsV c.dx - p.vel.x)).tdiv 4))))
  (cutM (IntKind.i64.wrap (p.vel.y + IntKind.i64.wrap ((IntKind.i64.wrap (wantsV c.dy - p.vel.y)).tdiv 4))))
  (cutM (IntKind.i64.wrap (24576 - 1024))))).snd.snd.snd ==
  true then
  false
  else false),
  SV.int IntKind.i64 p.health, SV.int IntKind.i64 p.armour, SV.int IntKind.i64 p.score, SV.int IntKind.i64 p.a0, SV.int IntKind.i64 p.a1, SV.int IntKind.i64 p.wait,
  SV.int IntKind.i64 p.dead],
  [])
  else none
  else
  bif fitsB p.pos && decide (off + len ≤ xs.length) then
  bif
  ((mpOf w d h len fun j => xs.getD (off + j) false).slide p.pos
  (V3.mk (cutM (IntKind.i64.wrap (p.vel.x + IntKind.i64.wrap ((IntKind.i64.wrap (wantsV c.dx - p.vel.x)).tdiv 4))))
  (cutM (IntKind.i64.wrap (p.vel.y + IntKind.i64.wrap ((IntKind.i64.wrap (wantsV c.dy - p.vel.y)).tdiv 4)))) (cutM (IntKind.i64.wrap (p.vel.z - 1024))))).snd.fst then
  bif
  ((mpOf w d h len fun j => xs.getD (off + j) false).slide p.pos
  (V3.mk (cutM (IntKind.i64.wrap (p.vel.x + IntKind.i64.wrap ((IntKind.i64.wrap (wantsV c.dx - p.vel.x)).tdiv 4))))
  (cutM (IntKind.i64.wrap (p.vel.y + IntKind.i64.wrap ((IntKind.i64.wrap (wantsV c.dy - p.vel.y)).tdiv 4)))) (cutM (IntKind.i64.wrap (p.vel.z - 1024))))).snd.snd.fst then
  bif
  ((mpOf w d h len fun j => xs.getD (off + j) false).slide p.pos
  (V3.mk (cutM (IntKind.i64.wrap (p.vel.x + IntKind.i64.wrap ((IntKind.i64.wrap (wantsV c.dx - p.vel.x)).tdiv 4))))
  (cutM (IntKind.i64.wrap (p.vel.y + IntKind.i64.wrap ((IntKind.i64.wrap (wantsV c.dy - p.vel.y)).tdiv 4)))) (cutM (IntKind.i64.wrap (p.vel.z - 1024))))).snd.snd.snd then
  some
  (SV.agg
  [SV.int IntKind.i64 p.id,
  SV.int IntKind.i64
  ((mpOf w d h len fun j => xs.getD (off + j) false).slide p.pos
  (V3.mk (cutM (IntKind.i64.wrap (p.vel.x + IntKind.i64.wrap ((IntKind.i64.wrap (wantsV c.dx - p.vel.x)).tdiv 4))))
  (cutM (IntKind.i64.wrap (p.vel.y + IntKind.i64.wrap ((IntKind.i64.wrap (wantsV c.dy - p.vel.y)).tdiv 4)))) (cutM (IntKind.i64.wrap (p.vel.z - 1024))))).fst.x,
  SV.int IntKind.i64
  ((mpOf w d h len fun j => xs.getD (off + j) false).slide p.pos
  (V3.mk (cutM (IntKind.i64.wrap (p.vel.x + IntKind.i64.wrap ((IntKind.i64.wrap (wantsV c.dx - p.vel.x)).tdiv 4))))
  (cutM (IntKind.i64.wrap (p.vel.y + IntKind.i64.wrap ((IntKind.i64.wrap (wantsV c.dy - p.vel.y)).tdiv 4)))) (cutM (IntKind.i64.wrap (p.vel.z - 1024))))).fst.y,
  SV.int IntKind.i64
  ((mpOf w d h len fun j => xs.getD (off + j) false).slide p.pos
  (V3.mk (cutM (IntKind.i64.wrap (p.vel.x + IntKind.i64.wrap ((IntKind.i64.wrap (wantsV c.dx - p.vel.x)).tdiv 4))))
  (cutM (IntKind.i64.wrap (p.vel.y + IntKind.i64.wrap ((IntKind.i64.wrap (wantsV c.dy - p.vel.y)).tdiv 4)))) (cutM (IntKind.i64.wrap (p.vel.z - 1024))))).fst.z,
  SV.int IntKind.i64 0, SV.int IntKind.i64 0, SV.int IntKind.i64 0,
  SV.bool
  (bif
  ((mpOf w d h len fun j => xs.getD (off + j) false).slide p.pos
  (V3.mk (cutM (IntKind.i64.wrap (p.vel.x + IntKind.i64.wrap ((IntKind.i64.wrap (wantsV c.dx - p.vel.x)).tdiv 4))))
  (cutM (IntKind.i64.wrap (p.vel.y + IntKind.i64.wrap ((IntKind.i64.wrap (wantsV c.dy - p.vel.y)).tdiv 4))))
  (cutM (IntKind.i64.wrap (p.vel.z - 1024))))).snd.snd.snd ==
  true then
  decide (cutM (IntKind.i64.wrap (p.vel.z - 1024)) < 0)
  else false),
  SV.int IntKind.i64 p.health, SV.int IntKind.i64 p.armour, SV.int IntKind.i64 p.score, SV.int IntKind.i64 p.a0, SV.int IntKind.i64 p.a1, SV.int IntKind.i64 p.wait,
  SV.int IntKind.i64 p.dead],
  [])
  else
  some
  (SV.agg
  [SV.int IntKind.i64 p.id,
  SV.int IntKind.i64
  ((mpOf w d h len fun j => xs.getD (off + j) false).slide p.pos
  (V3.mk (cutM (IntKind.i64.wrap (p.vel.x + IntKind.i64.wrap ((IntKind.i64.wrap (wantsV c.dx - p.vel.x)).tdiv 4))))
  (cutM (IntKind.i64.wrap (p.vel.y + IntKind.i64.wrap ((IntKind.i64.wrap (wantsV c.dy - p.vel.y)).tdiv 4)))) (cutM (IntKind.i64.wrap (p.vel.z - 1024))))).fst.x,
  SV.int IntKind.i64
  ((mpOf w d h len fun j => xs.getD (off + j) false).slide p.pos
  (V3.mk (cutM (IntKind.i64.wrap (p.vel.x + IntKind.i64.wrap ((IntKind.i64.wrap (wantsV c.dx - p.vel.x)).tdiv 4))))
  (cutM (IntKind.i64.wrap (p.vel.y + IntKind.i64.wrap ((IntKind.i64.wrap (wantsV c.dy - p.vel.y)).tdiv 4)))) (cutM (IntKind.i64.wrap (p.vel.z - 1024))))).fst.y,
  SV.int IntKind.i64
  ((mpOf w d h len fun j => xs.getD (off + j) false).slide p.pos
  (V3.mk (cutM (IntKind.i64.wrap (p.vel.x + IntKind.i64.wrap ((IntKind.i64.wrap (wantsV c.dx - p.vel.x)).tdiv 4))))
  (cutM (IntKind.i64.wrap (p.vel.y + IntKind.i64.wrap ((IntKind.i64.wrap (wantsV c.dy - p.vel.y)).tdiv 4)))) (cutM (IntKind.i64.wrap (p.vel.z - 1024))))).fst.z,
  SV.int IntKind.i64 0, SV.int IntKind.i64 0, SV.int IntKind.i64 (cutM (IntKind.i64.wrap (p.vel.z - 1024))),
  SV.bool
  (bif
  ((mpOf w d h len fun j => xs.getD (off + j) false).slide p.pos
  (V3.mk (cutM (IntKind.i64.wrap (p.vel.x + IntKind.i64.wrap ((IntKind.i64.wrap (wantsV c.dx - p.vel.x)).tdiv 4))))
  (cutM (IntKind.i64.wrap (p.vel.y + IntKind.i64.wrap ((IntKind.i64.wrap (wantsV c.dy - p.vel.y)).tdiv 4))))
  (cutM (IntKind.i64.wrap (p.vel.z - 1024))))).snd.snd.snd ==
  true then
  decide (cutM (IntKind.i64.wrap (p.vel.z - 1024)) < 0)
  else false),
  SV.int IntKind.i64 p.health, SV.int IntKind.i64 p.armour, SV.int IntKind.i64 p.score, SV.int IntKind.i64 p.a0, SV.int IntKind.i64 p.a1, SV.int IntKind.i64 p.wait,
  SV.int IntKind.i64 p.dead],
  [])
  else
  bif
  ((mpOf w d h len fun j => xs.getD (off + j) false).slide p.pos
  (V3.mk (cutM (IntKind.i64.wrap (p.vel.x + IntKind.i64.wrap ((IntKind.i64.wrap (wantsV c.dx - p.vel.x)).tdiv 4))))
  (cutM (IntKind.i64.wrap (p.vel.y + IntKind.i64.wrap ((IntKind.i64.wrap (wantsV c.dy - p.vel.y)).tdiv 4)))) (cutM (IntKind.i64.wrap (p.vel.z - 1024))))).snd.snd.snd then
  some
  (SV.agg
  [SV.int IntKind.i64 p.id,
  SV.int IntKind.i64
  ((mpOf w d h len fun j => xs.getD (off + j) false).slide p.pos
  (V3.mk (cutM (IntKind.i64.wrap (p.vel.x + IntKind.i64.wrap ((IntKind.i64.wrap (wantsV c.dx - p.vel.x)).tdiv 4))))
  (cutM (IntKind.i64.wrap (p.vel.y + IntKind.i64.wrap ((IntKind.i64.wrap (wantsV c.dy - p.vel.y)).tdiv 4)))) (cutM (IntKind.i64.wrap (p.vel.z - 1024))))).fst.x,
  SV.int IntKind.i64
  ((mpOf w d h len fun j => xs.getD (off + j) false).slide p.pos
  (V3.mk (cutM (IntKind.i64.wrap (p.vel.x + IntKind.i64.wrap ((IntKind.i64.wrap (wantsV c.dx - p.vel.x)).tdiv 4))))
  (cutM (IntKind.i64.wrap (p.vel.y + IntKind.i64.wrap ((IntKind.i64.wrap (wantsV c.dy - p.vel.y)).tdiv 4)))) (cutM (IntKind.i64.wrap (p.vel.z - 1024))))).fst.y,
  SV.int IntKind.i64
  ((mpOf w d h len fun j => xs.getD (off + j) false).slide p.pos
  (V3.mk (cutM (IntKind.i64.wrap (p.vel.x + IntKind.i64.wrap ((IntKind.i64.wrap (wantsV c.dx - p.vel.x)).tdiv 4))))
  (cutM (IntKind.i64.wrap (p.vel.y + IntKind.i64.wrap ((IntKind.i64.wrap (wantsV c.dy - p.vel.y)).tdiv 4)))) (cutM (IntKind.i64.wrap (p.vel.z - 1024))))).fst.z,
  SV.int IntKind.i64 0, SV.int IntKind.i64 (cutM (IntKind.i64.wrap (p.vel.y + IntKind.i64.wrap ((IntKind.i64.wrap (wantsV c.dy - p.vel.y)).tdiv 4)))), SV.int IntKind.i64 0,
  SV.bool
  (bif
  ((mpOf w d h len fun j => xs.getD (off + j) false).slide p.pos
  (V3.mk (cutM (IntKind.i64.wrap (p.vel.x + IntKind.i64.wrap ((IntKind.i64.wrap (wantsV c.dx - p.vel.x)).tdiv 4))))
  (cutM (IntKind.i64.wrap (p.vel.y + IntKind.i64.wrap ((IntKind.i64.wrap (wantsV c.dy - p.vel.y)).tdiv 4))))
  (cutM (IntKind.i64.wrap (p.vel.z - 1024))))).snd.snd.snd ==
  true then
  decide (cutM (IntKind.i64.wrap (p.vel.z - 1024)) < 0)
  else false),
  SV.int IntKind.i64 p.health, SV.int IntKind.i64 p.armour, SV.int IntKind.i64 p.score, SV.int IntKind.i64 p.a0, SV.int IntKind.i64 p.a1, SV.int IntKind.i64 p.wait,
  SV.int IntKind.i64 p.dead],
  [])
  else
  some
  (SV.agg
  [SV.int IntKind.i64 p.id,
  SV.int IntKind.i64
  ((mpOf w d h len fun j => xs.getD (off + j) false).slide p.pos
  (V3.mk (cutM (IntKind.i64.wrap (p.vel.x + IntKind.i64.wrap ((IntKind.i64.wrap (wantsV c.dx - p.vel.x)).tdiv 4))))
  (cutM (IntKind.i64.wrap (p.vel.y + IntKind.i64.wrap ((IntKind.i64.wrap (wantsV c.dy - p.vel.y)).tdiv 4)))) (cutM (IntKind.i64.wrap (p.vel.z - 1024))))).fst.x,
  SV.int IntKind.i64
  ((mpOf w d h len fun j => xs.getD (off + j) false).slide p.pos
  (V3.mk (cutM (IntKind.i64.wrap (p.vel.x + IntKind.i64.wrap ((IntKind.i64.wrap (wantsV c.dx - p.vel.x)).tdiv 4))))
  (cutM (IntKind.i64.wrap (p.vel.y + IntKind.i64.wrap ((IntKind.i64.wrap (wantsV c.dy - p.vel.y)).tdiv 4)))) (cutM (IntKind.i64.wrap (p.vel.z - 1024))))).fst.y,
  SV.int IntKind.i64
  ((mpOf w d h len fun j => xs.getD (off + j) false).slide p.pos
  (V3.mk (cutM (IntKind.i64.wrap (p.vel.x + IntKind.i64.wrap ((IntKind.i64.wrap (wantsV c.dx - p.vel.x)).tdiv 4))))
  (cutM (IntKind.i64.wrap (p.vel.y + IntKind.i64.wrap ((IntKind.i64.wrap (wantsV c.dy - p.vel.y)).tdiv 4)))) (cutM (IntKind.i64.wrap (p.vel.z - 1024))))).fst.z,
  SV.int IntKind.i64 0, SV.int IntKind.i64 (cutM (IntKind.i64.wrap (p.vel.y + IntKind.i64.wrap ((IntKind.i64.wrap (wantsV c.dy - p.vel.y)).tdiv 4)))),
  SV.int IntKind.i64 (cutM (IntKind.i64.wrap (p.vel.z - 1024))),
  SV.bool
  (bif
  ((mpOf w d h len fun j => xs.getD (off + j) false).slide p.pos
  (V3.mk (cutM (IntKind.i64.wrap (p.vel.x + IntKind.i64.wrap ((IntKind.i64.wrap (wantsV c.dx - p.vel.x)).tdiv 4))))
  (cutM (IntKind.i64.wrap (p.vel.y + IntKind.i64.wrap ((IntKind.i64.wrap (wantsV c.dy - p.vel.y)).tdiv 4))))
  (cutM (IntKind.i64.wrap (p.vel.z - 1024))))).snd.snd.snd ==
  true then
  decide (cutM (IntKind.i64.wrap (p.vel.z - 1024)) < 0)
  else false),
  SV.int IntKind.i64 p.health, SV.int IntKind.i64 p.armour, SV.int IntKind.i64 p.score, SV.int IntKind.i64 p.a0, SV.int IntKind.i64 p.a1, SV.int IntKind.i64 p.wait,
  SV.int IntKind.i64 p.dead],
  [])
  else
  bif
  ((mpOf w d h len fun j => xs.getD (off + j) false).slide p.pos
  (V3.mk (cutM (IntKind.i64.wrap (p.vel.x + IntKind.i64.wrap ((IntKind.i64.wrap (wantsV c.dx - p.vel.x)).tdiv 4))))
  (cutM (IntKind.i64.wrap (p.vel.y + IntKind.i64.wrap ((IntKind.i64.wrap (wantsV c.dy - p.vel.y)).tdiv 4)))) (cutM (IntKind.i64.wrap (p.vel.z - 1024))))).snd.snd.fst then
  bif
  ((mpOf w d h len fun j => xs.getD (off + j) false).slide p.pos
  (V3.mk (cutM (IntKind.i64.wrap (p.vel.x + IntKind.i64.wrap ((IntKind.i64.wrap (wantsV c.dx - p.vel.x)).tdiv 4))))
  (cutM (IntKind.i64.wrap (p.vel.y + IntKind.i64.wrap ((IntKind.i64.wrap (wantsV c.dy - p.vel.y)).tdiv 4)))) (cutM (IntKind.i64.wrap (p.vel.z - 1024))))).snd.snd.snd then
  some
  (SV.agg
  [SV.int IntKind.i64 p.id,
  SV.int IntKind.i64
  ((mpOf w d h len fun j => xs.getD (off + j) false).slide p.pos
  (V3.mk (cutM (IntKind.i64.wrap (p.vel.x + IntKind.i64.wrap ((IntKind.i64.wrap (wantsV c.dx - p.vel.x)).tdiv 4))))
  (cutM (IntKind.i64.wrap (p.vel.y + IntKind.i64.wrap ((IntKind.i64.wrap (wantsV c.dy - p.vel.y)).tdiv 4)))) (cutM (IntKind.i64.wrap (p.vel.z - 1024))))).fst.x,
  SV.int IntKind.i64
  ((mpOf w d h len fun j => xs.getD (off + j) false).slide p.pos
  (V3.mk (cutM (IntKind.i64.wrap (p.vel.x + IntKind.i64.wrap ((IntKind.i64.wrap (wantsV c.dx - p.vel.x)).tdiv 4))))
  (cutM (IntKind.i64.wrap (p.vel.y + IntKind.i64.wrap ((IntKind.i64.wrap (wantsV c.dy - p.vel.y)).tdiv 4)))) (cutM (IntKind.i64.wrap (p.vel.z - 1024))))).fst.y,
  SV.int IntKind.i64
  ((mpOf w d h len fun j => xs.getD (off + j) false).slide p.pos
  (V3.mk (cutM (IntKind.i64.wrap (p.vel.x + IntKind.i64.wrap ((IntKind.i64.wrap (wantsV c.dx - p.vel.x)).tdiv 4))))
  (cutM (IntKind.i64.wrap (p.vel.y + IntKind.i64.wrap ((IntKind.i64.wrap (wantsV c.dy - p.vel.y)).tdiv 4)))) (cutM (IntKind.i64.wrap (p.vel.z - 1024))))).fst.z,
  SV.int IntKind.i64 (cutM (IntKind.i64.wrap (p.vel.x + IntKind.i64.wrap ((IntKind.i64.wrap (wantsV c.dx - p.vel.x)).tdiv 4)))), SV.int IntKind.i64 0, SV.int IntKind.i64 0,
  SV.bool
  (bif
  ((mpOf w d h len fun j => xs.getD (off + j) false).slide p.pos
  (V3.mk (cutM (IntKind.i64.wrap (p.vel.x + IntKind.i64.wrap ((IntKind.i64.wrap (wantsV c.dx - p.vel.x)).tdiv 4))))
  (cutM (IntKind.i64.wrap (p.vel.y + IntKind.i64.wrap ((IntKind.i64.wrap (wantsV c.dy - p.vel.y)).tdiv 4))))
  (cutM (IntKind.i64.wrap (p.vel.z - 1024))))).snd.snd.snd ==
  true then
  decide (cutM (IntKind.i64.wrap (p.vel.z - 1024)) < 0)
  else false),
  SV.int IntKind.i64 p.health, SV.int IntKind.i64 p.armour, SV.int IntKind.i64 p.score, SV.int IntKind.i64 p.a0, SV.int IntKind.i64 p.a1, SV.int IntKind.i64 p.wait,
  SV.int IntKind.i64 p.dead],
  [])
  else
  some
  (SV.agg
  [SV.int IntKind.i64 p.id,
  SV.int IntKind.i64
  ((mpOf w d h len fun j => xs.getD (off + j) false).slide p.pos
  (V3.mk (cutM (IntKind.i64.wrap (p.vel.x + IntKind.i64.wrap ((IntKind.i64.wrap (wantsV c.dx - p.vel.x)).tdiv 4))))
  (cutM (IntKind.i64.wrap (p.vel.y + IntKind.i64.wrap ((IntKind.i64.wrap (wantsV c.dy - p.vel.y)).tdiv 4)))) (cutM (IntKind.i64.wrap (p.vel.z - 1024))))).fst.x,
  SV.int IntKind.i64
  ((mpOf w d h len fun j => xs.getD (off + j) false).slide p.pos
  (V3.mk (cutM (IntKind.i64.wrap (p.vel.x + IntKind.i64.wrap ((IntKind.i64.wrap (wantsV c.dx - p.vel.x)).tdiv 4))))
  (cutM (IntKind.i64.wrap (p.vel.y + IntKind.i64.wrap ((IntKind.i64.wrap (wantsV c.dy - p.vel.y)).tdiv 4)))) (cutM (IntKind.i64.wrap (p.vel.z - 1024))))).fst.y,
  SV.int IntKind.i64
  ((mpOf w d h len fun j => xs.getD (off + j) false).slide p.pos
  (V3.mk (cutM (IntKind.i64.wrap (p.vel.x + IntKind.i64.wrap ((IntKind.i64.wrap (wantsV c.dx - p.vel.x)).tdiv 4))))
  (cutM (IntKind.i64.wrap (p.vel.y + IntKind.i64.wrap ((IntKind.i64.wrap (wantsV c.dy - p.vel.y)).tdiv 4)))) (cutM (IntKind.i64.wrap (p.vel.z - 1024))))).fst.z,
  SV.int IntKind.i64 (cutM (IntKind.i64.wrap (p.vel.x + IntKind.i64.wrap ((IntKind.i64.wrap (wantsV c.dx - p.vel.x)).tdiv 4)))), SV.int IntKind.i64 0,
  SV.int IntKind.i64 (cutM (IntKind.i64.wrap (p.vel.z - 1024))),
  SV.bool
  (bif
  ((mpOf w d h len fun j => xs.getD (off + j) false).slide p.pos
  (V3.mk (cutM (IntKind.i64.wrap (p.vel.x + IntKind.i64.wrap ((IntKind.i64.wrap (wantsV c.dx - p.vel.x)).tdiv 4))))
  (cutM (IntKind.i64.wrap (p.vel.y + IntKind.i64.wrap ((IntKind.i64.wrap (wantsV c.dy - p.vel.y)).tdiv 4))))
  (cutM (IntKind.i64.wrap (p.vel.z - 1024))))).snd.snd.snd ==
  true then
  decide (cutM (IntKind.i64.wrap (p.vel.z - 1024)) < 0)
  else false),
  SV.int IntKind.i64 p.health, SV.int IntKind.i64 p.armour, SV.int IntKind.i64 p.score, SV.int IntKind.i64 p.a0, SV.int IntKind.i64 p.a1, SV.int IntKind.i64 p.wait,
  SV.int IntKind.i64 p.dead],
  [])
  else
  bif
  ((mpOf w d h len fun j => xs.getD (off + j) false).slide p.pos
  (V3.mk (cutM (IntKind.i64.wrap (p.vel.x + IntKind.i64.wrap ((IntKind.i64.wrap (wantsV c.dx - p.vel.x)).tdiv 4))))
  (cutM (IntKind.i64.wrap (p.vel.y + IntKind.i64.wrap ((IntKind.i64.wrap (wantsV c.dy - p.vel.y)).tdiv 4)))) (cutM (IntKind.i64.wrap (p.vel.z - 1024))))).snd.snd.snd then
  some
  (SV.agg
  [SV.int IntKind.i64 p.id,
  SV.int IntKind.i64
  ((mpOf w d h len fun j => xs.getD (off + j) false).slide p.pos
  (V3.mk (cutM (IntKind.i64.wrap (p.vel.x + IntKind.i64.wrap ((IntKind.i64.wrap (wantsV c.dx - p.vel.x)).tdiv 4))))
  (cutM (IntKind.i64.wrap (p.vel.y + IntKind.i64.wrap ((IntKind.i64.wrap (wantsV c.dy - p.vel.y)).tdiv 4)))) (cutM (IntKind.i64.wrap (p.vel.z - 1024))))).fst.x,
  SV.int IntKind.i64
  ((mpOf w d h len fun j => xs.getD (off + j) false).slide p.pos
  (V3.mk (cutM (IntKind.i64.wrap (p.vel.x + IntKind.i64.wrap ((IntKind.i64.wrap (wantsV c.dx - p.vel.x)).tdiv 4))))
  (cutM (IntKind.i64.wrap (p.vel.y + IntKind.i64.wrap ((IntKind.i64.wrap (wantsV c.dy - p.vel.y)).tdiv 4)))) (cutM (IntKind.i64.wrap (p.vel.z - 1024))))).fst.y,
  SV.int IntKind.i64
  ((mpOf w d h len fun j => xs.getD (off + j) false).slide p.pos
  (V3.mk (cutM (IntKind.i64.wrap (p.vel.x + IntKind.i64.wrap ((IntKind.i64.wrap (wantsV c.dx - p.vel.x)).tdiv 4))))
  (cutM (IntKind.i64.wrap (p.vel.y + IntKind.i64.wrap ((IntKind.i64.wrap (wantsV c.dy - p.vel.y)).tdiv 4)))) (cutM (IntKind.i64.wrap (p.vel.z - 1024))))).fst.z,
  SV.int IntKind.i64 (cutM (IntKind.i64.wrap (p.vel.x + IntKind.i64.wrap ((IntKind.i64.wrap (wantsV c.dx - p.vel.x)).tdiv 4)))),
  SV.int IntKind.i64 (cutM (IntKind.i64.wrap (p.vel.y + IntKind.i64.wrap ((IntKind.i64.wrap (wantsV c.dy - p.vel.y)).tdiv 4)))), SV.int IntKind.i64 0,
  SV.bool
  (bif
  ((mpOf w d h len fun j => xs.getD (off + j) false).slide p.pos
  (V3.mk (cutM (IntKind.i64.wrap (p.vel.x + IntKind.i64.wrap ((IntKind.i64.wrap (wantsV c.dx - p.vel.x)).tdiv 4))))
  (cutM (IntKind.i64.wrap (p.vel.y + IntKind.i64.wrap ((IntKind.i64.wrap (wantsV c.dy - p.vel.y)).tdiv 4))))
  (cutM (IntKind.i64.wrap (p.vel.z - 1024))))).snd.snd.snd ==
  true then
  decide (cutM (IntKind.i64.wrap (p.vel.z - 1024)) < 0)
  else false),
  SV.int IntKind.i64 p.health, SV.int IntKind.i64 p.armour, SV.int IntKind.i64 p.score, SV.int IntKind.i64 p.a0, SV.int IntKind.i64 p.a1, SV.int IntKind.i64 p.wait,
  SV.int IntKind.i64 p.dead],
  [])
  else
  some
  (SV.agg
  [SV.int IntKind.i64 p.id,
  SV.int IntKind.i64
  ((mpOf w d h len fun j => xs.getD (off + j) false).slide p.pos
  (V3.mk (cutM (IntKind.i64.wrap (p.vel.x + IntKind.i64.wrap ((IntKind.i64.wrap (wantsV c.dx - p.vel.x)).tdiv 4))))
  (cutM (IntKind.i64.wrap (p.vel.y + IntKind.i64.wrap ((IntKind.i64.wrap (wantsV c.dy - p.vel.y)).tdiv 4)))) (cutM (IntKind.i64.wrap (p.vel.z - 1024))))).fst.x,
  SV.int IntKind.i64
  ((mpOf w d h len fun j => xs.getD (off + j) false).slide p.pos
  (V3.mk (cutM (IntKind.i64.wrap (p.vel.x + IntKind.i64.wrap ((IntKind.i64.wrap (wantsV c.dx - p.vel.x)).tdiv 4))))
  (cutM (IntKind.i64.wrap (p.vel.y + IntKind.i64.wrap ((IntKind.i64.wrap (wantsV c.dy - p.vel.y)).tdiv 4)))) (cutM (IntKind.i64.wrap (p.vel.z - 1024))))).fst.y,
  SV.int IntKind.i64
  ((mpOf w d h len fun j => xs.getD (off + j) false).slide p.pos
  (V3.mk (cutM (IntKind.i64.wrap (p.vel.x + IntKind.i64.wrap ((IntKind.i64.wrap (wantsV c.dx - p.vel.x)).tdiv 4))))
  (cutM (IntKind.i64.wrap (p.vel.y + IntKind.i64.wrap ((IntKind.i64.wrap (wantsV c.dy - p.vel.y)).tdiv 4)))) (cutM (IntKind.i64.wrap (p.vel.z - 1024))))).fst.z,
  SV.int IntKind.i64 (cutM (IntKind.i64.wrap (p.vel.x + IntKind.i64.wrap ((IntKind.i64.wrap (wantsV c.dx - p.vel.x)).tdiv 4)))),
  SV.int IntKind.i64 (cutM (IntKind.i64.wrap (p.vel.y + IntKind.i64.wrap ((IntKind.i64.wrap (wantsV c.dy - p.vel.y)).tdiv 4)))),
  SV.int IntKind.i64 (cutM (IntKind.i64.wrap (p.vel.z - 1024))),
  SV.bool
  (bif
  ((mpOf w d h len fun j => xs.getD (off + j) false).slide p.pos
  (V3.mk (cutM (IntKind.i64.wrap (p.vel.x + IntKind.i64.wrap ((IntKind.i64.wrap (wantsV c.dx - p.vel.x)).tdiv 4))))
  (cutM (IntKind.i64.wrap (p.vel.y + IntKind.i64.wrap ((IntKind.i64.wrap (wantsV c.dy - p.vel.y)).tdiv 4))))
  (cutM (IntKind.i64.wrap (p.vel.z - 1024))))).snd.snd.snd ==
  true then
  decide (cutM (IntKind.i64.wrap (p.vel.z - 1024)) < 0)
  else false),
  SV.int IntKind.i64 p.health, SV.int IntKind.i64 p.armour, SV.int IntKind.i64 p.score, SV.int IntKind.i64 p.a0, SV.int IntKind.i64 p.a1, SV.int IntKind.i64 p.wait,
  SV.int IntKind.i64 p.dead],
  [])
  else none
  else
  bif bif p.ground == true then IntKind.u8.wrap (↑(BitVec.ofInt IntKind.u8.bits c.buttons &&& BitVec.ofInt IntKind.u8.bits 1).toNat : Int) != 0 else false then
  bif fitsB p.pos && decide (off + len ≤ xs.length) then
  bif
  ((mpOf w d h len fun j => xs.getD (off + j) false).slide p.pos
  (V3.mk (cutM (IntKind.i64.wrap (p.vel.x + IntKind.i64.wrap ((IntKind.i64.wrap (wantsV c.dx - p.vel.x)).tdiv 16))))
  (cutM (IntKind.i64.wrap (p.vel.y + IntKind.i64.wrap ((IntKind.i64.wrap (wantsV c.dy - p.vel.y)).tdiv 16)))) (cutM (IntKind.i64.wrap (24576 - 1024))))).snd.fst then
  bif
  ((mpOf w d h len fun j => xs.getD (off + j) false).slide p.pos
  (V3.mk (cutM (IntKind.i64.wrap (p.vel.x + IntKind.i64.wrap ((IntKind.i64.wrap (wantsV c.dx - p.vel.x)).tdiv 16))))
  (cutM (IntKind.i64.wrap (p.vel.y + IntKind.i64.wrap ((IntKind.i64.wrap (wantsV c.dy - p.vel.y)).tdiv 16)))) (cutM (IntKind.i64.wrap (24576 - 1024))))).snd.snd.fst then
  bif
  ((mpOf w d h len fun j => xs.getD (off + j) false).slide p.pos
  (V3.mk (cutM (IntKind.i64.wrap (p.vel.x + IntKind.i64.wrap ((IntKind.i64.wrap (wantsV c.dx - p.vel.x)).tdiv 16))))
  (cutM (IntKind.i64.wrap (p.vel.y + IntKind.i64.wrap ((IntKind.i64.wrap (wantsV c.dy - p.vel.y)).tdiv 16)))) (cutM (IntKind.i64.wrap (24576 - 1024))))).snd.snd.snd then
  some
  (SV.agg
  [SV.int IntKind.i64 p.id,
  SV.int IntKind.i64
  ((mpOf w d h len fun j => xs.getD (off + j) false).slide p.pos
  (V3.mk (cutM (IntKind.i64.wrap (p.vel.x + IntKind.i64.wrap ((IntKind.i64.wrap (wantsV c.dx - p.vel.x)).tdiv 16))))
  (cutM (IntKind.i64.wrap (p.vel.y + IntKind.i64.wrap ((IntKind.i64.wrap (wantsV c.dy - p.vel.y)).tdiv 16)))) (cutM (IntKind.i64.wrap (24576 - 1024))))).fst.x,
  SV.int IntKind.i64
  ((mpOf w d h len fun j => xs.getD (off + j) false).slide p.pos
  (V3.mk (cutM (IntKind.i64.wrap (p.vel.x + IntKind.i64.wrap ((IntKind.i64.wrap (wantsV c.dx - p.vel.x)).tdiv 16))))
  (cutM (IntKind.i64.wrap (p.vel.y + IntKind.i64.wrap ((IntKind.i64.wrap (wantsV c.dy - p.vel.y)).tdiv 16)))) (cutM (IntKind.i64.wrap (24576 - 1024))))).fst.y,
  SV.int IntKind.i64
  ((mpOf w d h len fun j => xs.getD (off + j) false).slide p.pos
  (V3.mk (cutM (IntKind.i64.wrap (p.vel.x + IntKind.i64.wrap ((IntKind.i64.wrap (wantsV c.dx - p.vel.x)).tdiv 16))))
  (cutM (IntKind.i64.wrap (p.vel.y + IntKind.i64.wrap ((IntKind.i64.wrap (wantsV c.dy - p.vel.y)).tdiv 16)))) (cutM (IntKind.i64.wrap (24576 - 1024))))).fst.z,
  SV.int IntKind.i64 0, SV.int IntKind.i64 0, SV.int IntKind.i64 0,
  SV.bool
  (bif
  ((mpOf w d h len fun j => xs.getD (off + j) false).slide p.pos
  (V3.mk (cutM (IntKind.i64.wrap (p.vel.x + IntKind.i64.wrap ((IntKind.i64.wrap (wantsV c.dx - p.vel.x)).tdiv 16))))
  (cutM (IntKind.i64.wrap (p.vel.y + IntKind.i64.wrap ((IntKind.i64.wrap (wantsV c.dy - p.vel.y)).tdiv 16))))
  (cutM (IntKind.i64.wrap (24576 - 1024))))).snd.snd.snd ==
  true then
  false
  else false),
  SV.int IntKind.i64 p.health, SV.int IntKind.i64 p.armour, SV.int IntKind.i64 p.score, SV.int IntKind.i64 p.a0, SV.int IntKind.i64 p.a1, SV.int IntKind.i64 p.wait,
  SV.int IntKind.i64 p.dead],
  [])
  else
  some
  (SV.agg
  [SV.int IntKind.i64 p.id,
  SV.int IntKind.i64
  ((mpOf w d h len fun j => xs.getD (off + j) false).slide p.pos
  (V3.mk (cutM (IntKind.i64.wrap (p.vel.x + IntKind.i64.wrap ((IntKind.i64.wrap (wantsV c.dx - p.vel.x)).tdiv 16))))
  (cutM (IntKind.i64.wrap (p.vel.y + IntKind.i64.wrap ((IntKind.i64.wrap (wantsV c.dy - p.vel.y)).tdiv 16)))) (cutM (IntKind.i64.wrap (24576 - 1024))))).fst.x,
  SV.int IntKind.i64
  ((mpOf w d h len fun j => xs.getD (off + j) false).slide p.pos
  (V3.mk (cutM (IntKind.i64.wrap (p.vel.x + IntKind.i64.wrap ((IntKind.i64.wrap (wantsV c.dx - p.vel.x)).tdiv 16))))
  (cutM (IntKind.i64.wrap (p.vel.y + IntKind.i64.wrap ((IntKind.i64.wrap (wantsV c.dy - p.vel.y)).tdiv 16)))) (cutM (IntKind.i64.wrap (24576 - 1024))))).fst.y,
  SV.int IntKind.i64
  ((mpOf w d h len fun j => xs.getD (off + j) false).slide p.pos
  (V3.mk (cutM (IntKind.i64.wrap (p.vel.x + IntKind.i64.wrap ((IntKind.i64.wrap (wantsV c.dx - p.vel.x)).tdiv 16))))
  (cutM (IntKind.i64.wrap (p.vel.y + IntKind.i64.wrap ((IntKind.i64.wrap (wantsV c.dy - p.vel.y)).tdiv 16)))) (cutM (IntKind.i64.wrap (24576 - 1024))))).fst.z,
  SV.int IntKind.i64 0, SV.int IntKind.i64 0, SV.int IntKind.i64 (cutM (IntKind.i64.wrap (24576 - 1024))),
  SV.bool
  (bif
  ((mpOf w d h len fun j => xs.getD (off + j) false).slide p.pos
  (V3.mk (cutM (IntKind.i64.wrap (p.vel.x + IntKind.i64.wrap ((IntKind.i64.wrap (wantsV c.dx - p.vel.x)).tdiv 16))))
  (cutM (IntKind.i64.wrap (p.vel.y + IntKind.i64.wrap ((IntKind.i64.wrap (wantsV c.dy - p.vel.y)).tdiv 16))))
  (cutM (IntKind.i64.wrap (24576 - 1024))))).snd.snd.snd ==
  true then
  false
  else false),
  SV.int IntKind.i64 p.health, SV.int IntKind.i64 p.armour, SV.int IntKind.i64 p.score, SV.int IntKind.i64 p.a0, SV.int IntKind.i64 p.a1, SV.int IntKind.i64 p.wait,
  SV.int IntKind.i64 p.dead],
  [])
  else
  bif
  ((mpOf w d h len fun j => xs.getD (off + j) false).slide p.pos
  (V3.mk (cutM (IntKind.i64.wrap (p.vel.x + IntKind.i64.wrap ((IntKind.i64.wrap (wantsV c.dx - p.vel.x)).tdiv 16))))
  (cutM (IntKind.i64.wrap (p.vel.y + IntKind.i64.wrap ((IntKind.i64.wrap (wantsV c.dy - p.vel.y)).tdiv 16)))) (cutM (IntKind.i64.wrap (24576 - 1024))))).snd.snd.snd then
  some
  (SV.agg
  [SV.int IntKind.i64 p.id,
  SV.int IntKind.i64
  ((mpOf w d h len fun j => xs.getD (off + j) false).slide p.pos
  (V3.mk (cutM (IntKind.i64.wrap (p.vel.x + IntKind.i64.wrap ((IntKind.i64.wrap (wantsV c.dx - p.vel.x)).tdiv 16))))
  (cutM (IntKind.i64.wrap (p.vel.y + IntKind.i64.wrap ((IntKind.i64.wrap (wantsV c.dy - p.vel.y)).tdiv 16)))) (cutM (IntKind.i64.wrap (24576 - 1024))))).fst.x,
  SV.int IntKind.i64
  ((mpOf w d h len fun j => xs.getD (off + j) false).slide p.pos
  (V3.mk (cutM (IntKind.i64.wrap (p.vel.x + IntKind.i64.wrap ((IntKind.i64.wrap (wantsV c.dx - p.vel.x)).tdiv 16))))
  (cutM (IntKind.i64.wrap (p.vel.y + IntKind.i64.wrap ((IntKind.i64.wrap (wantsV c.dy - p.vel.y)).tdiv 16)))) (cutM (IntKind.i64.wrap (24576 - 1024))))).fst.y,
  SV.int IntKind.i64
  ((mpOf w d h len fun j => xs.getD (off + j) false).slide p.pos
  (V3.mk (cutM (IntKind.i64.wrap (p.vel.x + IntKind.i64.wrap ((IntKind.i64.wrap (wantsV c.dx - p.vel.x)).tdiv 16))))
  (cutM (IntKind.i64.wrap (p.vel.y + IntKind.i64.wrap ((IntKind.i64.wrap (wantsV c.dy - p.vel.y)).tdiv 16)))) (cutM (IntKind.i64.wrap (24576 - 1024))))).fst.z,
  SV.int IntKind.i64 0, SV.int IntKind.i64 (cutM (IntKind.i64.wrap (p.vel.y + IntKind.i64.wrap ((IntKind.i64.wrap (wantsV c.dy - p.vel.y)).tdiv 16)))), SV.int IntKind.i64 0,
  SV.bool
  (bif
  ((mpOf w d h len fun j => xs.getD (off + j) false).slide p.pos
  (V3.mk (cutM (IntKind.i64.wrap (p.vel.x + IntKind.i64.wrap ((IntKind.i64.wrap (wantsV c.dx - p.vel.x)).tdiv 16))))
  (cutM (IntKind.i64.wrap (p.vel.y + IntKind.i64.wrap ((IntKind.i64.wrap (wantsV c.dy - p.vel.y)).tdiv 16))))
  (cutM (IntKind.i64.wrap (24576 - 1024))))).snd.snd.snd ==
  true then
  false
  else false),
  SV.int IntKind.i64 p.health, SV.int IntKind.i64 p.armour, SV.int IntKind.i64 p.score, SV.int IntKind.i64 p.a0, SV.int IntKind.i64 p.a1, SV.int IntKind.i64 p.wait,
  SV.int IntKind.i64 p.dead],
  [])
  else
  some
  (SV.agg
  [SV.int IntKind.i64 p.id,
  SV.int IntKind.i64
  ((mpOf w d h len fun j => xs.getD (off + j) false).slide p.pos
  (V3.mk (cutM (IntKind.i64.wrap (p.vel.x + IntKind.i64.wrap ((IntKind.i64.wrap (wantsV c.dx - p.vel.x)).tdiv 16))))
  (cutM (IntKind.i64.wrap (p.vel.y + IntKind.i64.wrap ((IntKind.i64.wrap (wantsV c.dy - p.vel.y)).tdiv 16)))) (cutM (IntKind.i64.wrap (24576 - 1024))))).fst.x,
  SV.int IntKind.i64
  ((mpOf w d h len fun j => xs.getD (off + j) false).slide p.pos
  (V3.mk (cutM (IntKind.i64.wrap (p.vel.x + IntKind.i64.wrap ((IntKind.i64.wrap (wantsV c.dx - p.vel.x)).tdiv 16))))
  (cutM (IntKind.i64.wrap (p.vel.y + IntKind.i64.wrap ((IntKind.i64.wrap (wantsV c.dy - p.vel.y)).tdiv 16)))) (cutM (IntKind.i64.wrap (24576 - 1024))))).fst.y,
  SV.int IntKind.i64
  ((mpOf w d h len fun j => xs.getD (off + j) false).slide p.pos
  (V3.mk (cutM (IntKind.i64.wrap (p.vel.x + IntKind.i64.wrap ((IntKind.i64.wrap (wantsV c.dx - p.vel.x)).tdiv 16))))
  (cutM (IntKind.i64.wrap (p.vel.y + IntKind.i64.wrap ((IntKind.i64.wrap (wantsV c.dy - p.vel.y)).tdiv 16)))) (cutM (IntKind.i64.wrap (24576 - 1024))))).fst.z,
  SV.int IntKind.i64 0, SV.int IntKind.i64 (cutM (IntKind.i64.wrap (p.vel.y + IntKind.i64.wrap ((IntKind.i64.wrap (wantsV c.dy - p.vel.y)).tdiv 16)))),
  SV.int IntKind.i64 (cutM (IntKind.i64.wrap (24576 - 1024))),
  SV.bool
  (bif
  ((mpOf w d h len fun j => xs.getD (off + j) false).slide p.pos
  (V3.mk (cutM (IntKind.i64.wrap (p.vel.x + IntKind.i64.wrap ((IntKind.i64.wrap (wantsV c.dx - p.vel.x)).tdiv 16))))
  (cutM (IntKind.i64.wrap (p.vel.y + IntKind.i64.wrap ((IntKind.i64.wrap (wantsV c.dy - p.vel.y)).tdiv 16))))
  (cutM (IntKind.i64.wrap (24576 - 1024))))).snd.snd.snd ==
  true then
  false
  else false),
  SV.int IntKind.i64 p.health, SV.int IntKind.i64 p.armour, SV.int IntKind.i64 p.score, SV.int IntKind.i64 p.a0, SV.int IntKind.i64 p.a1, SV.int IntKind.i64 p.wait,
  SV.int IntKind.i64 p.dead],
  [])
  else
  bif
  ((mpOf w d h len fun j => xs.getD (off + j) false).slide p.pos
  (V3.mk (cutM (IntKind.i64.wrap (p.vel.x + IntKind.i64.wrap ((IntKind.i64.wrap (wantsV c.dx - p.vel.x)).tdiv 16))))
  (cutM (IntKind.i64.wrap (p.vel.y + IntKind.i64.wrap ((IntKind.i64.wrap (wantsV c.dy - p.vel.y)).tdiv 16)))) (cutM (IntKind.i64.wrap (24576 - 1024))))).snd.snd.fst then
  bif
  ((mpOf w d h len fun j => xs.getD (off + j) false).slide p.pos
  (V3.mk (cutM (IntKind.i64.wrap (p.vel.x + IntKind.i64.wrap ((IntKind.i64.wrap (wantsV c.dx - p.vel.x)).tdiv 16))))
  (cutM (IntKind.i64.wrap (p.vel.y + IntKind.i64.wrap ((IntKind.i64.wrap (wantsV c.dy - p.vel.y)).tdiv 16)))) (cutM (IntKind.i64.wrap (24576 - 1024))))).snd.snd.snd then
  some
  (SV.agg
  [SV.int IntKind.i64 p.id,
  SV.int IntKind.i64
  ((mpOf w d h len fun j => xs.getD (off + j) false).slide p.pos
  (V3.mk (cutM (IntKind.i64.wrap (p.vel.x + IntKind.i64.wrap ((IntKind.i64.wrap (wantsV c.dx - p.vel.x)).tdiv 16))))
  (cutM (IntKind.i64.wrap (p.vel.y + IntKind.i64.wrap ((IntKind.i64.wrap (wantsV c.dy - p.vel.y)).tdiv 16)))) (cutM (IntKind.i64.wrap (24576 - 1024))))).fst.x,
  SV.int IntKind.i64
  ((mpOf w d h len fun j => xs.getD (off + j) false).slide p.pos
  (V3.mk (cutM (IntKind.i64.wrap (p.vel.x + IntKind.i64.wrap ((IntKind.i64.wrap (wantsV c.dx - p.vel.x)).tdiv 16))))
  (cutM (IntKind.i64.wrap (p.vel.y + IntKind.i64.wrap ((IntKind.i64.wrap (wantsV c.dy - p.vel.y)).tdiv 16)))) (cutM (IntKind.i64.wrap (24576 - 1024))))).fst.y,
  SV.int IntKind.i64
  ((mpOf w d h len fun j => xs.getD (off + j) false).slide p.pos
  (V3.mk (cutM (IntKind.i64.wrap (p.vel.x + IntKind.i64.wrap ((IntKind.i64.wrap (wantsV c.dx - p.vel.x)).tdiv 16))))
  (cutM (IntKind.i64.wrap (p.vel.y + IntKind.i64.wrap ((IntKind.i64.wrap (wantsV c.dy - p.vel.y)).tdiv 16)))) (cutM (IntKind.i64.wrap (24576 - 1024))))).fst.z,
  SV.int IntKind.i64 (cutM (IntKind.i64.wrap (p.vel.x + IntKind.i64.wrap ((IntKind.i64.wrap (wantsV c.dx - p.vel.x)).tdiv 16)))), SV.int IntKind.i64 0, SV.int IntKind.i64 0,
  SV.bool
  (bif
  ((mpOf w d h len fun j => xs.getD (off + j) false).slide p.pos
  (V3.mk (cutM (IntKind.i64.wrap (p.vel.x + IntKind.i64.wrap ((IntKind.i64.wrap (wantsV c.dx - p.vel.x)).tdiv 16))))
  (cutM (IntKind.i64.wrap (p.vel.y + IntKind.i64.wrap ((IntKind.i64.wrap (wantsV c.dy - p.vel.y)).tdiv 16))))
  (cutM (IntKind.i64.wrap (24576 - 1024))))).snd.snd.snd ==
  true then
  false
  else false),
  SV.int IntKind.i64 p.health, SV.int IntKind.i64 p.armour, SV.int IntKind.i64 p.score, SV.int IntKind.i64 p.a0, SV.int IntKind.i64 p.a1, SV.int IntKind.i64 p.wait,
  SV.int IntKind.i64 p.dead],
  [])
  else
  some
  (SV.agg
  [SV.int IntKind.i64 p.id,
  SV.int IntKind.i64
  ((mpOf w d h len fun j => xs.getD (off + j) false).slide p.pos
  (V3.mk (cutM (IntKind.i64.wrap (p.vel.x + IntKind.i64.wrap ((IntKind.i64.wrap (wantsV c.dx - p.vel.x)).tdiv 16))))
  (cutM (IntKind.i64.wrap (p.vel.y + IntKind.i64.wrap ((IntKind.i64.wrap (wantsV c.dy - p.vel.y)).tdiv 16)))) (cutM (IntKind.i64.wrap (24576 - 1024))))).fst.x,
  SV.int IntKind.i64
  ((mpOf w d h len fun j => xs.getD (off + j) false).slide p.pos
  (V3.mk (cutM (IntKind.i64.wrap (p.vel.x + IntKind.i64.wrap ((IntKind.i64.wrap (wantsV c.dx - p.vel.x)).tdiv 16))))
  (cutM (IntKind.i64.wrap (p.vel.y + IntKind.i64.wrap ((IntKind.i64.wrap (wantsV c.dy - p.vel.y)).tdiv 16)))) (cutM (IntKind.i64.wrap (24576 - 1024))))).fst.y,
  SV.int IntKind.i64
  ((mpOf w d h len fun j => xs.getD (off + j) false).slide p.pos
  (V3.mk (cutM (IntKind.i64.wrap (p.vel.x + IntKind.i64.wrap ((IntKind.i64.wrap (wantsV c.dx - p.vel.x)).tdiv 16))))
  (cutM (IntKind.i64.wrap (p.vel.y + IntKind.i64.wrap ((IntKind.i64.wrap (wantsV c.dy - p.vel.y)).tdiv 16)))) (cutM (IntKind.i64.wrap (24576 - 1024))))).fst.z,
  SV.int IntKind.i64 (cutM (IntKind.i64.wrap (p.vel.x + IntKind.i64.wrap ((IntKind.i64.wrap (wantsV c.dx - p.vel.x)).tdiv 16)))), SV.int IntKind.i64 0,
  SV.int IntKind.i64 (cutM (IntKind.i64.wrap (24576 - 1024))),
  SV.bool
  (bif
  ((mpOf w d h len fun j => xs.getD (off + j) false).slide p.pos
  (V3.mk (cutM (IntKind.i64.wrap (p.vel.x + IntKind.i64.wrap ((IntKind.i64.wrap (wantsV c.dx - p.vel.x)).tdiv 16))))
  (cutM (IntKind.i64.wrap (p.vel.y + IntKind.i64.wrap ((IntKind.i64.wrap (wantsV c.dy - p.vel.y)).tdiv 16))))
  (cutM (IntKind.i64.wrap (24576 - 1024))))).snd.snd.snd ==
  true then
  false
  else false),
  SV.int IntKind.i64 p.health, SV.int IntKind.i64 p.armour, SV.int IntKind.i64 p.score, SV.int IntKind.i64 p.a0, SV.int IntKind.i64 p.a1, SV.int IntKind.i64 p.wait,
  SV.int IntKind.i64 p.dead],
  [])
  else
  bif
  ((mpOf w d h len fun j => xs.getD (off + j) false).slide p.pos
  (V3.mk (cutM (IntKind.i64.wrap (p.vel.x + IntKind.i64.wrap ((IntKind.i64.wrap (wantsV c.dx - p.vel.x)).tdiv 16))))
  (cutM (IntKind.i64.wrap (p.vel.y + IntKind.i64.wrap ((IntKind.i64.wrap (wantsV c.dy - p.vel.y)).tdiv 16)))) (cutM (IntKind.i64.wrap (24576 - 1024))))).snd.snd.snd then
  some
  (SV.agg
  [SV.int IntKind.i64 p.id,
  SV.int IntKind.i64
  ((mpOf w d h len fun j => xs.getD (off + j) false).slide p.pos
  (V3.mk (cutM (IntKind.i64.wrap (p.vel.x + IntKind.i64.wrap ((IntKind.i64.wrap (wantsV c.dx - p.vel.x)).tdiv 16))))
  (cutM (IntKind.i64.wrap (p.vel.y + IntKind.i64.wrap ((IntKind.i64.wrap (wantsV c.dy - p.vel.y)).tdiv 16)))) (cutM (IntKind.i64.wrap (24576 - 1024))))).fst.x,
  SV.int IntKind.i64
  ((mpOf w d h len fun j => xs.getD (off + j) false).slide p.pos
  (V3.mk (cutM (IntKind.i64.wrap (p.vel.x + IntKind.i64.wrap ((IntKind.i64.wrap (wantsV c.dx - p.vel.x)).tdiv 16))))
  (cutM (IntKind.i64.wrap (p.vel.y + IntKind.i64.wrap ((IntKind.i64.wrap (wantsV c.dy - p.vel.y)).tdiv 16)))) (cutM (IntKind.i64.wrap (24576 - 1024))))).fst.y,
  SV.int IntKind.i64
  ((mpOf w d h len fun j => xs.getD (off + j) false).slide p.pos
  (V3.mk (cutM (IntKind.i64.wrap (p.vel.x + IntKind.i64.wrap ((IntKind.i64.wrap (wantsV c.dx - p.vel.x)).tdiv 16))))
  (cutM (IntKind.i64.wrap (p.vel.y + IntKind.i64.wrap ((IntKind.i64.wrap (wantsV c.dy - p.vel.y)).tdiv 16)))) (cutM (IntKind.i64.wrap (24576 - 1024))))).fst.z,
  SV.int IntKind.i64 (cutM (IntKind.i64.wrap (p.vel.x + IntKind.i64.wrap ((IntKind.i64.wrap (wantsV c.dx - p.vel.x)).tdiv 16)))),
  SV.int IntKind.i64 (cutM (IntKind.i64.wrap (p.vel.y + IntKind.i64.wrap ((IntKind.i64.wrap (wantsV c.dy - p.vel.y)).tdiv 16)))), SV.int IntKind.i64 0,
  SV.bool
  (bif
  ((mpOf w d h len fun j => xs.getD (off + j) false).slide p.pos
  (V3.mk (cutM (IntKind.i64.wrap (p.vel.x + IntKind.i64.wrap ((IntKind.i64.wrap (wantsV c.dx - p.vel.x)).tdiv 16))))
  (cutM (IntKind.i64.wrap (p.vel.y + IntKind.i64.wrap ((IntKind.i64.wrap (wantsV c.dy - p.vel.y)).tdiv 16))))
  (cutM (IntKind.i64.wrap (24576 - 1024))))).snd.snd.snd ==
  true then
  false
  else false),
  SV.int IntKind.i64 p.health, SV.int IntKind.i64 p.armour, SV.int IntKind.i64 p.score, SV.int IntKind.i64 p.a0, SV.int IntKind.i64 p.a1, SV.int IntKind.i64 p.wait,
  SV.int IntKind.i64 p.dead],
  [])
  else
  some
  (SV.agg
  [SV.int IntKind.i64 p.id,
  SV.int IntKind.i64
  ((mpOf w d h len fun j => xs.getD (off + j) false).slide p.pos
  (V3.mk (cutM (IntKind.i64.wrap (p.vel.x + IntKind.i64.wrap ((IntKind.i64.wrap (wantsV c.dx - p.vel.x)).tdiv 16))))
  (cutM (IntKind.i64.wrap (p.vel.y + IntKind.i64.wrap ((IntKind.i64.wrap (wantsV c.dy - p.vel.y)).tdiv 16)))) (cutM (IntKind.i64.wrap (24576 - 1024))))).fst.x,
  SV.int IntKind.i64
  ((mpOf w d h len fun j => xs.getD (off + j) false).slide p.pos
  (V3.mk (cutM (IntKind.i64.wrap (p.vel.x + IntKind.i64.wrap ((IntKind.i64.wrap (wantsV c.dx - p.vel.x)).tdiv 16))))
  (cutM (IntKind.i64.wrap (p.vel.y + IntKind.i64.wrap ((IntKind.i64.wrap (wantsV c.dy - p.vel.y)).tdiv 16)))) (cutM (IntKind.i64.wrap (24576 - 1024))))).fst.y,
  SV.int IntKind.i64
  ((mpOf w d h len fun j => xs.getD (off + j) false).slide p.pos
  (V3.mk (cutM (IntKind.i64.wrap (p.vel.x + IntKind.i64.wrap ((IntKind.i64.wrap (wantsV c.dx - p.vel.x)).tdiv 16))))
  (cutM (IntKind.i64.wrap (p.vel.y + IntKind.i64.wrap ((IntKind.i64.wrap (wantsV c.dy - p.vel.y)).tdiv 16)))) (cutM (IntKind.i64.wrap (24576 - 1024))))).fst.z,
  SV.int IntKind.i64 (cutM (IntKind.i64.wrap (p.vel.x + IntKind.i64.wrap ((IntKind.i64.wrap (wantsV c.dx - p.vel.x)).tdiv 16)))),
  SV.int IntKind.i64 (cutM (IntKind.i64.wrap (p.vel.y + IntKind.i64.wrap ((IntKind.i64.wrap (wantsV c.dy - p.vel.y)).tdiv 16)))),
  SV.int IntKind.i64 (cutM (IntKind.i64.wrap (24576 - 1024))),
  SV.bool
  (bif
  ((mpOf w d h len fun j => xs.getD (off + j) false).slide p.pos
  (V3.mk (cutM (IntKind.i64.wrap (p.vel.x + IntKind.i64.wrap ((IntKind.i64.wrap (wantsV c.dx - p.vel.x)).tdiv 16))))
  (cutM (IntKind.i64.wrap (p.vel.y + IntKind.i64.wrap ((IntKind.i64.wrap (wantsV c.dy - p.vel.y)).tdiv 16))))
  (cutM (IntKind.i64.wrap (24576 - 1024))))).snd.snd.snd ==
  true then
  false
  else false),
  SV.int IntKind.i64 p.health, SV.int IntKind.i64 p.armour, SV.int IntKind.i64 p.score, SV.int IntKind.i64 p.a0, SV.int IntKind.i64 p.a1, SV.int IntKind.i64 p.wait,
  SV.int IntKind.i64 p.dead],
  [])
  else none
  else
  bif fitsB p.pos && decide (off + len ≤ xs.length) then
  bif
  ((mpOf w d h len fun j => xs.getD (off + j) false).slide p.pos
  (V3.mk (cutM (IntKind.i64.wrap (p.vel.x + IntKind.i64.wrap ((IntKind.i64.wrap (wantsV c.dx - p.vel.x)).tdiv 16))))
  (cutM (IntKind.i64.wrap (p.vel.y + IntKind.i64.wrap ((IntKind.i64.wrap (wantsV c.dy - p.vel.y)).tdiv 16)))) (cutM (IntKind.i64.wrap (p.vel.z - 1024))))).snd.fst then
  bif
  ((mpOf w d h len fun j => xs.getD (off + j) false).slide p.pos
  (V3.mk (cutM (IntKind.i64.wrap (p.vel.x + IntKind.i64.wrap ((IntKind.i64.wrap (wantsV c.dx - p.vel.x)).tdiv 16))))
  (cutM (IntKind.i64.wrap (p.vel.y + IntKind.i64.wrap ((IntKind.i64.wrap (wantsV c.dy - p.vel.y)).tdiv 16)))) (cutM (IntKind.i64.wrap (p.vel.z - 1024))))).snd.snd.fst then
  bif
  ((mpOf w d h len fun j => xs.getD (off + j) false).slide p.pos
  (V3.mk (cutM (IntKind.i64.wrap (p.vel.x + IntKind.i64.wrap ((IntKind.i64.wrap (wantsV c.dx - p.vel.x)).tdiv 16))))
  (cutM (IntKind.i64.wrap (p.vel.y + IntKind.i64.wrap ((IntKind.i64.wrap (wantsV c.dy - p.vel.y)).tdiv 16)))) (cutM (IntKind.i64.wrap (p.vel.z - 1024))))).snd.snd.snd then
  some
  (SV.agg
  [SV.int IntKind.i64 p.id,
  SV.int IntKind.i64
  ((mpOf w d h len fun j => xs.getD (off + j) false).slide p.pos
  (V3.mk (cutM (IntKind.i64.wrap (p.vel.x + IntKind.i64.wrap ((IntKind.i64.wrap (wantsV c.dx - p.vel.x)).tdiv 16))))
  (cutM (IntKind.i64.wrap (p.vel.y + IntKind.i64.wrap ((IntKind.i64.wrap (wantsV c.dy - p.vel.y)).tdiv 16)))) (cutM (IntKind.i64.wrap (p.vel.z - 1024))))).fst.x,
  SV.int IntKind.i64
  ((mpOf w d h len fun j => xs.getD (off + j) false).slide p.pos
  (V3.mk (cutM (IntKind.i64.wrap (p.vel.x + IntKind.i64.wrap ((IntKind.i64.wrap (wantsV c.dx - p.vel.x)).tdiv 16))))
  (cutM (IntKind.i64.wrap (p.vel.y + IntKind.i64.wrap ((IntKind.i64.wrap (wantsV c.dy - p.vel.y)).tdiv 16)))) (cutM (IntKind.i64.wrap (p.vel.z - 1024))))).fst.y,
  SV.int IntKind.i64
  ((mpOf w d h len fun j => xs.getD (off + j) false).slide p.pos
  (V3.mk (cutM (IntKind.i64.wrap (p.vel.x + IntKind.i64.wrap ((IntKind.i64.wrap (wantsV c.dx - p.vel.x)).tdiv 16))))
  (cutM (IntKind.i64.wrap (p.vel.y + IntKind.i64.wrap ((IntKind.i64.wrap (wantsV c.dy - p.vel.y)).tdiv 16)))) (cutM (IntKind.i64.wrap (p.vel.z - 1024))))).fst.z,
  SV.int IntKind.i64 0, SV.int IntKind.i64 0, SV.int IntKind.i64 0,
  SV.bool
  (bif
  ((mpOf w d h len fun j => xs.getD (off + j) false).slide p.pos
  (V3.mk (cutM (IntKind.i64.wrap (p.vel.x + IntKind.i64.wrap ((IntKind.i64.wrap (wantsV c.dx - p.vel.x)).tdiv 16))))
  (cutM (IntKind.i64.wrap (p.vel.y + IntKind.i64.wrap ((IntKind.i64.wrap (wantsV c.dy - p.vel.y)).tdiv 16))))
  (cutM (IntKind.i64.wrap (p.vel.z - 1024))))).snd.snd.snd ==
  true then
  decide (cutM (IntKind.i64.wrap (p.vel.z - 1024)) < 0)
  else false),
  SV.int IntKind.i64 p.health, SV.int IntKind.i64 p.armour, SV.int IntKind.i64 p.score, SV.int IntKind.i64 p.a0, SV.int IntKind.i64 p.a1, SV.int IntKind.i64 p.wait,
  SV.int IntKind.i64 p.dead],
  [])
  else
  some
  (SV.agg
  [SV.int IntKind.i64 p.id,
  SV.int IntKind.i64
  ((mpOf w d h len fun j => xs.getD (off + j) false).slide p.pos
  (V3.mk (cutM (IntKind.i64.wrap (p.vel.x + IntKind.i64.wrap ((IntKind.i64.wrap (wantsV c.dx - p.vel.x)).tdiv 16))))
  (cutM (IntKind.i64.wrap (p.vel.y + IntKind.i64.wrap ((IntKind.i64.wrap (wantsV c.dy - p.vel.y)).tdiv 16)))) (cutM (IntKind.i64.wrap (p.vel.z - 1024))))).fst.x,
  SV.int IntKind.i64
  ((mpOf w d h len fun j => xs.getD (off + j) false).slide p.pos
  (V3.mk (cutM (IntKind.i64.wrap (p.vel.x + IntKind.i64.wrap ((IntKind.i64.wrap (wantsV c.dx - p.vel.x)).tdiv 16))))
  (cutM (IntKind.i64.wrap (p.vel.y + IntKind.i64.wrap ((IntKind.i64.wrap (wantsV c.dy - p.vel.y)).tdiv 16)))) (cutM (IntKind.i64.wrap (p.vel.z - 1024))))).fst.y,
  SV.int IntKind.i64
  ((mpOf w d h len fun j => xs.getD (off + j) false).slide p.pos
  (V3.mk (cutM (IntKind.i64.wrap (p.vel.x + IntKind.i64.wrap ((IntKind.i64.wrap (wantsV c.dx - p.vel.x)).tdiv 16))))
  (cutM (IntKind.i64.wrap (p.vel.y + IntKind.i64.wrap ((IntKind.i64.wrap (wantsV c.dy - p.vel.y)).tdiv 16)))) (cutM (IntKind.i64.wrap (p.vel.z - 1024))))).fst.z,
  SV.int IntKind.i64 0, SV.int IntKind.i64 0, SV.int IntKind.i64 (cutM (IntKind.i64.wrap (p.vel.z - 1024))),
  SV.bool
  (bif
  ((mpOf w d h len fun j => xs.getD (off + j) false).slide p.pos
  (V3.mk (cutM (IntKind.i64.wrap (p.vel.x + IntKind.i64.wrap ((IntKind.i64.wrap (wantsV c.dx - p.vel.x)).tdiv 16))))
  (cutM (IntKind.i64.wrap (p.vel.y + IntKind.i64.wrap ((IntKind.i64.wrap (wantsV c.dy - p.vel.y)).tdiv 16))))
  (cutM (IntKind.i64.wrap (p.vel.z - 1024))))).snd.snd.snd ==
  true then
  decide (cutM (IntKind.i64.wrap (p.vel.z - 1024)) < 0)
  else false),
  SV.int IntKind.i64 p.health, SV.int IntKind.i64 p.armour, SV.int IntKind.i64 p.score, SV.int IntKind.i64 p.a0, SV.int IntKind.i64 p.a1, SV.int IntKind.i64 p.wait,
  SV.int IntKind.i64 p.dead],
  [])
  else
  bif
  ((mpOf w d h len fun j => xs.getD (off + j) false).slide p.pos
  (V3.mk (cutM (IntKind.i64.wrap (p.vel.x + IntKind.i64.wrap ((IntKind.i64.wrap (wantsV c.dx - p.vel.x)).tdiv 16))))
  (cutM (IntKind.i64.wrap (p.vel.y + IntKind.i64.wrap ((IntKind.i64.wrap (wantsV c.dy - p.vel.y)).tdiv 16)))) (cutM (IntKind.i64.wrap (p.vel.z - 1024))))).snd.snd.snd then
  some
  (SV.agg
  [SV.int IntKind.i64 p.id,
  SV.int IntKind.i64
  ((mpOf w d h len fun j => xs.getD (off + j) false).slide p.pos
  (V3.mk (cutM (IntKind.i64.wrap (p.vel.x + IntKind.i64.wrap ((IntKind.i64.wrap (wantsV c.dx - p.vel.x)).tdiv 16))))
  (cutM (IntKind.i64.wrap (p.vel.y + IntKind.i64.wrap ((IntKind.i64.wrap (wantsV c.dy - p.vel.y)).tdiv 16)))) (cutM (IntKind.i64.wrap (p.vel.z - 1024))))).fst.x,
  SV.int IntKind.i64
  ((mpOf w d h len fun j => xs.getD (off + j) false).slide p.pos
  (V3.mk (cutM (IntKind.i64.wrap (p.vel.x + IntKind.i64.wrap ((IntKind.i64.wrap (wantsV c.dx - p.vel.x)).tdiv 16))))
  (cutM (IntKind.i64.wrap (p.vel.y + IntKind.i64.wrap ((IntKind.i64.wrap (wantsV c.dy - p.vel.y)).tdiv 16)))) (cutM (IntKind.i64.wrap (p.vel.z - 1024))))).fst.y,
  SV.int IntKind.i64
  ((mpOf w d h len fun j => xs.getD (off + j) false).slide p.pos
  (V3.mk (cutM (IntKind.i64.wrap (p.vel.x + IntKind.i64.wrap ((IntKind.i64.wrap (wantsV c.dx - p.vel.x)).tdiv 16))))
  (cutM (IntKind.i64.wrap (p.vel.y + IntKind.i64.wrap ((IntKind.i64.wrap (wantsV c.dy - p.vel.y)).tdiv 16)))) (cutM (IntKind.i64.wrap (p.vel.z - 1024))))).fst.z,
  SV.int IntKind.i64 0, SV.int IntKind.i64 (cutM (IntKind.i64.wrap (p.vel.y + IntKind.i64.wrap ((IntKind.i64.wrap (wantsV c.dy - p.vel.y)).tdiv 16)))), SV.int IntKind.i64 0,
  SV.bool
  (bif
  ((mpOf w d h len fun j => xs.getD (off + j) false).slide p.pos
  (V3.mk (cutM (IntKind.i64.wrap (p.vel.x + IntKind.i64.wrap ((IntKind.i64.wrap (wantsV c.dx - p.vel.x)).tdiv 16))))
  (cutM (IntKind.i64.wrap (p.vel.y + IntKind.i64.wrap ((IntKind.i64.wrap (wantsV c.dy - p.vel.y)).tdiv 16))))
  (cutM (IntKind.i64.wrap (p.vel.z - 1024))))).snd.snd.snd ==
  true then
  decide (cutM (IntKind.i64.wrap (p.vel.z - 1024)) < 0)
  else false),
  SV.int IntKind.i64 p.health, SV.int IntKind.i64 p.armour, SV.int IntKind.i64 p.score, SV.int IntKind.i64 p.a0, SV.int IntKind.i64 p.a1, SV.int IntKind.i64 p.wait,
  SV.int IntKind.i64 p.dead],
  [])
  else
  some
  (SV.agg
  [SV.int IntKind.i64 p.id,
  SV.int IntKind.i64
  ((mpOf w d h len fun j => xs.getD (off + j) false).slide p.pos
  (V3.mk (cutM (IntKind.i64.wrap (p.vel.x + IntKind.i64.wrap ((IntKind.i64.wrap (wantsV c.dx - p.vel.x)).tdiv 16))))
  (cutM (IntKind.i64.wrap (p.vel.y + IntKind.i64.wrap ((IntKind.i64.wrap (wantsV c.dy - p.vel.y)).tdiv 16)))) (cutM (IntKind.i64.wrap (p.vel.z - 1024))))).fst.x,
  SV.int IntKind.i64
  ((mpOf w d h len fun j => xs.getD (off + j) false).slide p.pos
  (V3.mk (cutM (IntKind.i64.wrap (p.vel.x + IntKind.i64.wrap ((IntKind.i64.wrap (wantsV c.dx - p.vel.x)).tdiv 16))))
  (cutM (IntKind.i64.wrap (p.vel.y + IntKind.i64.wrap ((IntKind.i64.wrap (wantsV c.dy - p.vel.y)).tdiv 16)))) (cutM (IntKind.i64.wrap (p.vel.z - 1024))))).fst.y,
  SV.int IntKind.i64
  ((mpOf w d h len fun j => xs.getD (off + j) false).slide p.pos
  (V3.mk (cutM (IntKind.i64.wrap (p.vel.x + IntKind.i64.wrap ((IntKind.i64.wrap (wantsV c.dx - p.vel.x)).tdiv 16))))
  (cutM (IntKind.i64.wrap (p.vel.y + IntKind.i64.wrap ((IntKind.i64.wrap (wantsV c.dy - p.vel.y)).tdiv 16)))) (cutM (IntKind.i64.wrap (p.vel.z - 1024))))).fst.z,
  SV.int IntKind.i64 0, SV.int IntKind.i64 (cutM (IntKind.i64.wrap (p.vel.y + IntKind.i64.wrap ((IntKind.i64.wrap (wantsV c.dy - p.vel.y)).tdiv 16)))),
  SV.int IntKind.i64 (cutM (IntKind.i64.wrap (p.vel.z - 1024))),
  SV.bool
  (bif
  ((mpOf w d h len fun j => xs.getD (off + j) false).slide p.pos
  (V3.mk (cutM (IntKind.i64.wrap (p.vel.x + IntKind.i64.wrap ((IntKind.i64.wrap (wantsV c.dx - p.vel.x)).tdiv 16))))
  (cutM (IntKind.i64.wrap (p.vel.y + IntKind.i64.wrap ((IntKind.i64.wrap (wantsV c.dy - p.vel.y)).tdiv 16))))
  (cutM (IntKind.i64.wrap (p.vel.z - 1024))))).snd.snd.snd ==
  true then
  decide (cutM (IntKind.i64.wrap (p.vel.z - 1024)) < 0)
  else false),
  SV.int IntKind.i64 p.health, SV.int IntKind.i64 p.armour, SV.int IntKind.i64 p.score, SV.int IntKind.i64 p.a0, SV.int IntKind.i64 p.a1, SV.int IntKind.i64 p.wait,
  SV.int IntKind.i64 p.dead],
  [])
  else
  bif
  ((mpOf w d h len fun j => xs.getD (off + j) false).slide p.pos
  (V3.mk (cutM (IntKind.i64.wrap (p.vel.x + IntKind.i64.wrap ((IntKind.i64.wrap (wantsV c.dx - p.vel.x)).tdiv 16))))
  (cutM (IntKind.i64.wrap (p.vel.y + IntKind.i64.wrap ((IntKind.i64.wrap (wantsV c.dy - p.vel.y)).tdiv 16)))) (cutM (IntKind.i64.wrap (p.vel.z - 1024))))).snd.snd.fst then
  bif
  ((mpOf w d h len fun j => xs.getD (off + j) false).slide p.pos
  (V3.mk (cutM (IntKind.i64.wrap (p.vel.x + IntKind.i64.wrap ((IntKind.i64.wrap (wantsV c.dx - p.vel.x)).tdiv 16))))
  (cutM (IntKind.i64.wrap (p.vel.y + IntKind.i64.wrap ((IntKind.i64.wrap (wantsV c.dy - p.vel.y)).tdiv 16)))) (cutM (IntKind.i64.wrap (p.vel.z - 1024))))).snd.snd.snd then
  some
  (SV.agg
  [SV.int IntKind.i64 p.id,
  SV.int IntKind.i64
  ((mpOf w d h len fun j => xs.getD (off + j) false).slide p.pos
  (V3.mk (cutM (IntKind.i64.wrap (p.vel.x + IntKind.i64.wrap ((IntKind.i64.wrap (wantsV c.dx - p.vel.x)).tdiv 16))))
  (cutM (IntKind.i64.wrap (p.vel.y + IntKind.i64.wrap ((IntKind.i64.wrap (wantsV c.dy - p.vel.y)).tdiv 16)))) (cutM (IntKind.i64.wrap (p.vel.z - 1024))))).fst.x,
  SV.int IntKind.i64
  ((mpOf w d h len fun j => xs.getD (off + j) false).slide p.pos
  (V3.mk (cutM (IntKind.i64.wrap (p.vel.x + IntKind.i64.wrap ((IntKind.i64.wrap (wantsV c.dx - p.vel.x)).tdiv 16))))
  (cutM (IntKind.i64.wrap (p.vel.y + IntKind.i64.wrap ((IntKind.i64.wrap (wantsV c.dy - p.vel.y)).tdiv 16)))) (cutM (IntKind.i64.wrap (p.vel.z - 1024))))).fst.y,
  SV.int IntKind.i64
  ((mpOf w d h len fun j => xs.getD (off + j) false).slide p.pos
  (V3.mk (cutM (IntKind.i64.wrap (p.vel.x + IntKind.i64.wrap ((IntKind.i64.wrap (wantsV c.dx - p.vel.x)).tdiv 16))))
  (cutM (IntKind.i64.wrap (p.vel.y + IntKind.i64.wrap ((IntKind.i64.wrap (wantsV c.dy - p.vel.y)).tdiv 16)))) (cutM (IntKind.i64.wrap (p.vel.z - 1024))))).fst.z,
  SV.int IntKind.i64 (cutM (IntKind.i64.wrap (p.vel.x + IntKind.i64.wrap ((IntKind.i64.wrap (wantsV c.dx - p.vel.x)).tdiv 16)))), SV.int IntKind.i64 0, SV.int IntKind.i64 0,
  SV.bool
  (bif
  ((mpOf w d h len fun j => xs.getD (off + j) false).slide p.pos
  (V3.mk (cutM (IntKind.i64.wrap (p.vel.x + IntKind.i64.wrap ((IntKind.i64.wrap (wantsV c.dx - p.vel.x)).tdiv 16))))
  (cutM (IntKind.i64.wrap (p.vel.y + IntKind.i64.wrap ((IntKind.i64.wrap (wantsV c.dy - p.vel.y)).tdiv 16))))
  (cutM (IntKind.i64.wrap (p.vel.z - 1024))))).snd.snd.snd ==
  true then
  decide (cutM (IntKind.i64.wrap (p.vel.z - 1024)) < 0)
  else false),
  SV.int IntKind.i64 p.health, SV.int IntKind.i64 p.armour, SV.int IntKind.i64 p.score, SV.int IntKind.i64 p.a0, SV.int IntKind.i64 p.a1, SV.int IntKind.i64 p.wait,
  SV.int IntKind.i64 p.dead],
  [])
  else
  some
  (SV.agg
  [SV.int IntKind.i64 p.id,
  SV.int IntKind.i64
  ((mpOf w d h len fun j => xs.getD (off + j) false).slide p.pos
  (V3.mk (cutM (IntKind.i64.wrap (p.vel.x + IntKind.i64.wrap ((IntKind.i64.wrap (wantsV c.dx - p.vel.x)).tdiv 16))))
  (cutM (IntKind.i64.wrap (p.vel.y + IntKind.i64.wrap ((IntKind.i64.wrap (wantsV c.dy - p.vel.y)).tdiv 16)))) (cutM (IntKind.i64.wrap (p.vel.z - 1024))))).fst.x,
  SV.int IntKind.i64
  ((mpOf w d h len fun j => xs.getD (off + j) false).slide p.pos
  (V3.mk (cutM (IntKind.i64.wrap (p.vel.x + IntKind.i64.wrap ((IntKind.i64.wrap (wantsV c.dx - p.vel.x)).tdiv 16))))
  (cutM (IntKind.i64.wrap (p.vel.y + IntKind.i64.wrap ((IntKind.i64.wrap (wantsV c.dy - p.vel.y)).tdiv 16)))) (cutM (IntKind.i64.wrap (p.vel.z - 1024))))).fst.y,
  SV.int IntKind.i64
  ((mpOf w d h len fun j => xs.getD (off + j) false).slide p.pos
  (V3.mk (cutM (IntKind.i64.wrap (p.vel.x + IntKind.i64.wrap ((IntKind.i64.wrap (wantsV c.dx - p.vel.x)).tdiv 16))))
  (cutM (IntKind.i64.wrap (p.vel.y + IntKind.i64.wrap ((IntKind.i64.wrap (wantsV c.dy - p.vel.y)).tdiv 16)))) (cutM (IntKind.i64.wrap (p.vel.z - 1024))))).fst.z,
  SV.int IntKind.i64 (cutM (IntKind.i64.wrap (p.vel.x + IntKind.i64.wrap ((IntKind.i64.wrap (wantsV c.dx - p.vel.x)).tdiv 16)))), SV.int IntKind.i64 0,
  SV.int IntKind.i64 (cutM (IntKind.i64.wrap (p.vel.z - 1024))),
  SV.bool
  (bif
  ((mpOf w d h len fun j => xs.getD (off + j) false).slide p.pos
  (V3.mk (cutM (IntKind.i64.wrap (p.vel.x + IntKind.i64.wrap ((IntKind.i64.wrap (wantsV c.dx - p.vel.x)).tdiv 16))))
  (cutM (IntKind.i64.wrap (p.vel.y + IntKind.i64.wrap ((IntKind.i64.wrap (wantsV c.dy - p.vel.y)).tdiv 16))))
  (cutM (IntKind.i64.wrap (p.vel.z - 1024))))).snd.snd.snd ==
  true then
  decide (cutM (IntKind.i64.wrap (p.vel.z - 1024)) < 0)
  else false),
  SV.int IntKind.i64 p.health, SV.int IntKind.i64 p.armour, SV.int IntKind.i64 p.score, SV.int IntKind.i64 p.a0, SV.int IntKind.i64 p.a1, SV.int IntKind.i64 p.wait,
  SV.int IntKind.i64 p.dead],
  [])
  else
  bif
  ((mpOf w d h len fun j => xs.getD (off + j) false).slide p.pos
  (V3.mk (cutM (IntKind.i64.wrap (p.vel.x + IntKind.i64.wrap ((IntKind.i64.wrap (wantsV c.dx - p.vel.x)).tdiv 16))))
  (cutM (IntKind.i64.wrap (p.vel.y + IntKind.i64.wrap ((IntKind.i64.wrap (wantsV c.dy - p.vel.y)).tdiv 16)))) (cutM (IntKind.i64.wrap (p.vel.z - 1024))))).snd.snd.snd then
  some
  (SV.agg
  [SV.int IntKind.i64 p.id,
  SV.int IntKind.i64
  ((mpOf w d h len fun j => xs.getD (off + j) false).slide p.pos
  (V3.mk (cutM (IntKind.i64.wrap (p.vel.x + IntKind.i64.wrap ((IntKind.i64.wrap (wantsV c.dx - p.vel.x)).tdiv 16))))
  (cutM (IntKind.i64.wrap (p.vel.y + IntKind.i64.wrap ((IntKind.i64.wrap (wantsV c.dy - p.vel.y)).tdiv 16)))) (cutM (IntKind.i64.wrap (p.vel.z - 1024))))).fst.x,
  SV.int IntKind.i64
  ((mpOf w d h len fun j => xs.getD (off + j) false).slide p.pos
  (V3.mk (cutM (IntKind.i64.wrap (p.vel.x + IntKind.i64.wrap ((IntKind.i64.wrap (wantsV c.dx - p.vel.x)).tdiv 16))))
  (cutM (IntKind.i64.wrap (p.vel.y + IntKind.i64.wrap ((IntKind.i64.wrap (wantsV c.dy - p.vel.y)).tdiv 16)))) (cutM (IntKind.i64.wrap (p.vel.z - 1024))))).fst.y,
  SV.int IntKind.i64
  ((mpOf w d h len fun j => xs.getD (off + j) false).slide p.pos
  (V3.mk (cutM (IntKind.i64.wrap (p.vel.x + IntKind.i64.wrap ((IntKind.i64.wrap (wantsV c.dx - p.vel.x)).tdiv 16))))
  (cutM (IntKind.i64.wrap (p.vel.y + IntKind.i64.wrap ((IntKind.i64.wrap (wantsV c.dy - p.vel.y)).tdiv 16)))) (cutM (IntKind.i64.wrap (p.vel.z - 1024))))).fst.z,
  SV.int IntKind.i64 (cutM (IntKind.i64.wrap (p.vel.x + IntKind.i64.wrap ((IntKind.i64.wrap (wantsV c.dx - p.vel.x)).tdiv 16)))),
  SV.int IntKind.i64 (cutM (IntKind.i64.wrap (p.vel.y + IntKind.i64.wrap ((IntKind.i64.wrap (wantsV c.dy - p.vel.y)).tdiv 16)))), SV.int IntKind.i64 0,
  SV.bool
  (bif
  ((mpOf w d h len fun j => xs.getD (off + j) false).slide p.pos
  (V3.mk (cutM (IntKind.i64.wrap (p.vel.x + IntKind.i64.wrap ((IntKind.i64.wrap (wantsV c.dx - p.vel.x)).tdiv 16))))
  (cutM (IntKind.i64.wrap (p.vel.y + IntKind.i64.wrap ((IntKind.i64.wrap (wantsV c.dy - p.vel.y)).tdiv 16))))
  (cutM (IntKind.i64.wrap (p.vel.z - 1024))))).snd.snd.snd ==
  true then
  decide (cutM (IntKind.i64.wrap (p.vel.z - 1024)) < 0)
  else false),
  SV.int IntKind.i64 p.health, SV.int IntKind.i64 p.armour, SV.int IntKind.i64 p.score, SV.int IntKind.i64 p.a0, SV.int IntKind.i64 p.a1, SV.int IntKind.i64 p.wait,
  SV.int IntKind.i64 p.dead],
  [])
  else
  some
  (SV.agg
  [SV.int IntKind.i64 p.id,
  SV.int IntKind.i64
  ((mpOf w d h len fun j => xs.getD (off + j) false).slide p.pos
  (V3.mk (cutM (IntKind.i64.wrap (p.vel.x + IntKind.i64.wrap ((IntKind.i64.wrap (wantsV c.dx - p.vel.x)).tdiv 16))))
  (cutM (IntKind.i64.wrap (p.vel.y + IntKind.i64.wrap ((IntKind.i64.wrap (wantsV c.dy - p.vel.y)).tdiv 16)))) (cutM (IntKind.i64.wrap (p.vel.z - 1024))))).fst.x,
  SV.int IntKind.i64
  ((mpOf w d h len fun j => xs.getD (off + j) false).slide p.pos
  (V3.mk (cutM (IntKind.i64.wrap (p.vel.x + IntKind.i64.wrap ((IntKind.i64.wrap (wantsV c.dx - p.vel.x)).tdiv 16))))
  (cutM (IntKind.i64.wrap (p.vel.y + IntKind.i64.wrap ((IntKind.i64.wrap (wantsV c.dy - p.vel.y)).tdiv 16)))) (cutM (IntKind.i64.wrap (p.vel.z - 1024))))).fst.y,
  SV.int IntKind.i64
  ((mpOf w d h len fun j => xs.getD (off + j) false).slide p.pos
  (V3.mk (cutM (IntKind.i64.wrap (p.vel.x + IntKind.i64.wrap ((IntKind.i64.wrap (wantsV c.dx - p.vel.x)).tdiv 16))))
  (cutM (IntKind.i64.wrap (p.vel.y + IntKind.i64.wrap ((IntKind.i64.wrap (wantsV c.dy - p.vel.y)).tdiv 16)))) (cutM (IntKind.i64.wrap (p.vel.z - 1024))))).fst.z,
  SV.int IntKind.i64 (cutM (IntKind.i64.wrap (p.vel.x + IntKind.i64.wrap ((IntKind.i64.wrap (wantsV c.dx - p.vel.x)).tdiv 16)))),
  SV.int IntKind.i64 (cutM (IntKind.i64.wrap (p.vel.y + IntKind.i64.wrap ((IntKind.i64.wrap (wantsV c.dy - p.vel.y)).tdiv 16)))),
  SV.int IntKind.i64 (cutM (IntKind.i64.wrap (p.vel.z - 1024))),
  SV.bool
  (bif
  ((mpOf w d h len fun j => xs.getD (off + j) false).slide p.pos
  (V3.mk (cutM (IntKind.i64.wrap (p.vel.x + IntKind.i64.wrap ((IntKind.i64.wrap (wantsV c.dx - p.vel.x)).tdiv 16))))
  (cutM (IntKind.i64.wrap (p.vel.y + IntKind.i64.wrap ((IntKind.i64.wrap (wantsV c.dy - p.vel.y)).tdiv 16))))
  (cutM (IntKind.i64.wrap (p.vel.z - 1024))))).snd.snd.snd ==
  true then
  decide (cutM (IntKind.i64.wrap (p.vel.z - 1024)) < 0)
  else false),
  SV.int IntKind.i64 p.health, SV.int IntKind.i64 p.armour, SV.int IntKind.i64 p.score, SV.int IntKind.i64 p.a0, SV.int IntKind.i64 p.a1, SV.int IntKind.i64 p.wait,
  SV.int IntKind.i64 p.dead],
  [])
  else none := by kernel_rfl

set_option maxRecDepth 100000 in
set_option maxHeartbeats 0 in
theorem rrw_tree (w d h : Int) (len off : Nat) (xs : List Bool) (p : Pl) : runK xRto (fun _ _ => none) 400 12 Try.f12 0 [mapS w d h (.slice 0 1 off len none) .unk, .agg p.sv] [.vec true .bool xs] =
  bif fitsB p.pos && decide (off + len ≤ xs.length) then
  bif (mpOf w d h len fun j => xs.getD (off + j) false).free p.pos then
  bif cutM p.vel.x == p.vel.x then bif cutM p.vel.y == p.vel.y then some (SV.bool (cutM p.vel.z == p.vel.z), []) else some (SV.bool false, []) else some (SV.bool false, [])
  else some (SV.bool false, [])
  else none := by kernel_rfl

set_option maxHeartbeats 0 in
theorem rtick_val {w d h : Int} {len off : Nat} {xs : List Bool} {p : Pl} {c : Cm} (hl : decide (off + len ≤ xs.length) = true) (hp : p.pos.fits) :
    runK xRto (fun _ _ => none) 400 14 Try.f14 0 [mapS w d h (.slice 0 1 off len none) .unk, .agg p.sv, .agg c.sv] [.vec true .bool xs] = some (.agg (tickP (mpOf w d h len fun j => xs.getD (off + j) false).slide p c).sv, []) := by
  rw [rtick_tree]
  simp only [and_form, hl, fitsB_iff.2 hp, Bool.and_true, cond_true]
  generalize (mpOf w d h len fun j => xs.getD (off + j) false).slide = S
  unfold tickP
  cases decide (p.dead > 0) with
  | true => rfl
  | false =>
    rw [cond_false, cond_false]
    rw [show (p.ground && (IntKind.u8.wrap ((BitVec.ofInt IntKind.u8.bits c.buttons &&& BitVec.ofInt IntKind.u8.bits 2).toNat : Int) == 0)) = firmB p c from rfl]
    rw [show (p.ground && (IntKind.u8.wrap ((BitVec.ofInt IntKind.u8.bits c.buttons &&& BitVec.ofInt IntKind.u8.bits 1).toNat : Int) != 0)) = jumpB p c from rfl]
    cases firmB p c <;> cases jumpB p c <;> unfold triedV nearV wantsV <;> simp only [cond_true, cond_false]
    · generalize S p.pos _ = r
      obtain ⟨q, b1, b2, b3⟩ := r
      cases b1 <;> cases b2 <;> cases b3 <;> rfl
    · generalize S p.pos _ = r
      obtain ⟨q, b1, b2, b3⟩ := r
      cases b1 <;> cases b2 <;> cases b3 <;> rfl
    · generalize S p.pos _ = r
      obtain ⟨q, b1, b2, b3⟩ := r
      cases b1 <;> cases b2 <;> cases b3 <;> rfl
    · generalize S p.pos _ = r
      obtain ⟨q, b1, b2, b3⟩ := r
      cases b1 <;> cases b2 <;> cases b3 <;> rfl

theorem rrw_val {w d h : Int} {len off : Nat} {xs : List Bool} {p : Pl} (hl : decide (off + len ≤ xs.length) = true) (hp : p.pos.fits) :
    runK xRto (fun _ _ => none) 400 12 Try.f12 0 [mapS w d h (.slice 0 1 off len none) .unk, .agg p.sv] [.vec true .bool xs] = some (.bool (wRight (mpOf w d h len fun j => xs.getD (off + j) false).free p), []) := by
  rw [rrw_tree]
  simp only [hl, fitsB_iff.2 hp, Bool.and_true, cond_true]
  unfold wRight cutM
  have e : ∀ a b : Int, (a == b) = (b == a) := fun a b => by rw [Bool.eq_iff_iff, beq_iff_eq, beq_iff_eq]; exact ⟨Eq.symm, Eq.symm⟩
  rw [e _ p.vel.x, e _ p.vel.y, e _ p.vel.z]
  cases (p.vel.x == min (max p.vel.x (-32768)) 32768) <;> cases (p.vel.y == min (max p.vel.y (-32768)) 32768) <;> cases (p.vel.z == min (max p.vel.z (-32768)) 32768) <;> cases (mpOf w d h len fun j => xs.getD (off + j) false).free p.pos <;> rfl

noncomputable def oRTick (args : List SV) (rows : List Row) : Option Eff :=
  match args with
  | [.agg [.int .i64 w, .int .i64 d, .int .i64 h, .slice id st off len _, sp], .agg [.int .i64 a0, .int .i64 a1, .int .i64 a2, .int .i64 a3, .int .i64 a4, .int .i64 a5, .int .i64 a6, .bool a7, .int .i64 a8, .int .i64 a9, .int .i64 a10, .int .i64 a11, .int .i64 a12, .int .i64 a13, .int .i64 a14], .agg [.int .u16 c0, .int .u8 c1, .int .i8 c2, .int .i8 c3, .int .i64 c4]] => match rows[id]? with
    | some (.vec _ .bool xs) => bif Nat.beq st 1 && sp.one then some { ok := fitsB ⟨a1, a2, a3⟩ && decide (off + len ≤ xs.length), val := .agg (tickP (mpOf w d h len fun j => xs.getD (off + j) false).slide ⟨a0, ⟨a1, a2, a3⟩, ⟨a4, a5, a6⟩, a7, a8, a9, a10, a11, a12, a13, a14⟩ ⟨c0, c1, c2, c3, c4⟩).sv, rd := [id] } else none
    | _ => none
  | _ => none
set_option maxHeartbeats 0 in
theorem oRTick_ok {args : List SV} {rows : List Row} {n : Nat} {e : Eff} (h : oRTick args rows = some e) (hok : e.ok = true) : FnOk Try.prog 14 args (rows[·]?) n e := by
  unfold oRTick at h
  split at h
  · rename_i wd dd hd id st off len cap sp a0 a1 a2 a3 a4 a5 a6 a7 a8 a9 a10 a11 a12 a13 a14 c0 c1 c2 c3 c4
    split at h
    · rename_i ro xs hrow
      cases hb : Nat.beq st 1 && sp.one with
      | false => simp [hb] at h
      | true =>
        simp only [hb, cond_true, Option.some.injEq] at h
        subst h
        rw [Bool.and_eq_true] at hb
        have hst := Nat.eq_of_beq_eq_true hb.1
        subst hst
        simp only [Bool.and_eq_true, fitsB_iff] at hok
        obtain ⟨h2, h3⟩ := hok
        obtain ⟨rows', hc, _⟩ := runK_ok xRto_ok lok_none Try.func14 (rtick_val (w := wd) (d := dd) (h := hd) (p := ⟨a0, ⟨a1, a2, a3⟩, ⟨a4, a5, a6⟩, a7, a8, a9, a10, a11, a12, a13, a14⟩) (c := ⟨c0, c1, c2, c3, c4⟩) h3 h2)
        exact fnOk_map hb.2 hc rfl rfl hrow
    · cases h
  · cases h
noncomputable def orcRTick : Orc := ⟨14, oRTick, fun _ _ _ h hok => oRTick_ok h hok, bodied Try.func14 (by kernel_rfl)⟩

noncomputable def oRRw (args : List SV) (rows : List Row) : Option Eff :=
  match args with
  | [.agg [.int .i64 w, .int .i64 d, .int .i64 h, .slice id st off len _, sp], .agg [.int .i64 a0, .int .i64 a1, .int .i64 a2, .int .i64 a3, .int .i64 a4, .int .i64 a5, .int .i64 a6, .bool a7, .int .i64 a8, .int .i64 a9, .int .i64 a10, .int .i64 a11, .int .i64 a12, .int .i64 a13, .int .i64 a14]] => match rows[id]? with
    | some (.vec _ .bool xs) => bif Nat.beq st 1 && sp.one then some { ok := fitsB ⟨a1, a2, a3⟩ && decide (off + len ≤ xs.length), val := .bool (wRight (mpOf w d h len fun j => xs.getD (off + j) false).free ⟨a0, ⟨a1, a2, a3⟩, ⟨a4, a5, a6⟩, a7, a8, a9, a10, a11, a12, a13, a14⟩), rd := [id] } else none
    | _ => none
  | _ => none
set_option maxHeartbeats 0 in
theorem oRRw_ok {args : List SV} {rows : List Row} {n : Nat} {e : Eff} (h : oRRw args rows = some e) (hok : e.ok = true) : FnOk Try.prog 12 args (rows[·]?) n e := by
  unfold oRRw at h
  split at h
  · rename_i wd dd hd id st off len cap sp a0 a1 a2 a3 a4 a5 a6 a7 a8 a9 a10 a11 a12 a13 a14
    split at h
    · rename_i ro xs hrow
      cases hb : Nat.beq st 1 && sp.one with
      | false => simp [hb] at h
      | true =>
        simp only [hb, cond_true, Option.some.injEq] at h
        subst h
        rw [Bool.and_eq_true] at hb
        have hst := Nat.eq_of_beq_eq_true hb.1
        subst hst
        simp only [Bool.and_eq_true, fitsB_iff] at hok
        obtain ⟨h2, h3⟩ := hok
        obtain ⟨rows', hc, _⟩ := runK_ok xRto_ok lok_none Try.func12 (rrw_val (w := wd) (d := dd) (h := hd) (p := ⟨a0, ⟨a1, a2, a3⟩, ⟨a4, a5, a6⟩, a7, a8, a9, a10, a11, a12, a13, a14⟩) h3 h2)
        exact fnOk_map hb.2 hc rfl rfl hrow
    · cases h
  · cases h
noncomputable def orcRRw : Orc := ⟨12, oRRw, fun _ _ _ h hok => oRRw_ok h hok, bodied Try.func12 (by kernel_rfl)⟩

end Go.Proofs.Ytihpfaeabocdbaa
